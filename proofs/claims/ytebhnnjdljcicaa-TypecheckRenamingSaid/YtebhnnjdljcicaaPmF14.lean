/- The abstract machine's program, printed by Gen.lean off the dump. -/
import Derived.Test.YtebhnnjdljcicaaPmA
namespace Go.Pm.F
/-- arenanet/arenanetlaw14.TypecheckTypes -/
def F0 : PFun := ⟨1, [.tmp 2],
  .seq (.region none [⟨some 2, .mov (.c (.bool false)), none, []⟩] [0])
  (.seq (.region none [⟨some 4, .mov (.t 0), none, []⟩,
    ⟨some 5, .call 7 [(.t 4)], none, []⟩,
    ⟨some 3, .alloc [(.lit (.int .i64 0)), (.lit (.int .i64 0)), (.lit (.string ⟨#[]⟩)), (.lit (.slice none 0 0))], none, []⟩,
    ⟨none, .store 4 (.t 3) (.t 5), none, []⟩] [3])
  (.seq (.region (some []) [⟨some 6, .load true 4 (.t 3), none, []⟩,
    ⟨some 7, .call 8 [(.t 6)], none, []⟩,
    ⟨some 8, .load true 4 (.t 3), none, [1]⟩,
    ⟨some 9, .call 9 [(.t 8)], none, []⟩,
    ⟨some 10, .bin .eql (.t 7) (.t 9), none, []⟩,
    ⟨some 11, .mov (.t 10), none, []⟩,
    ⟨some 12, .load true 4 (.t 3), some (11, true), []⟩,
    ⟨some 13, .bslice 1 [(.lit (.int .i64 0)), (.lit (.int .i64 0)), (.lit (.string ⟨#[]⟩)), (.lit (.slice none 0 0))] [(0, 4, (.t 12))], some (11, true), []⟩,
    ⟨some 14, .build [(.lit (.int .i64 0)), (.lit (.int .i64 0)), (.lit (.string ⟨#[]⟩)), (.lit (.slice none 0 0))] [(0, 1, (.c (.int .i64 1))), (2, 1, (.c (.string ⟨#[118, 97]⟩))), (3, 1, (.t 13))], some (11, true), []⟩,
    ⟨some 15, .call 8 [(.t 14)], some (11, true), []⟩,
    ⟨some 16, .bin .eql (.t 15) (.c (.int .i64 0)), some (11, true), []⟩,
    ⟨some 17, .pick (.t 11) (.t 16) (.c (.bool false)), none, []⟩,
    ⟨some 18, .mov (.t 17), none, []⟩,
    ⟨some 19, .call 10 [], some (18, true), []⟩,
    ⟨some 20, .pick (.t 18) (.t 19) (.c (.bool false)), none, []⟩,
    ⟨some 2, .mov (.t 20), none, []⟩] [2])
  (.ret))), false⟩
/-- arenanet/arenanetlaw14.TypecheckPrograms -/
def F1 : PFun := ⟨1, [.tmp 2],
  .seq (.region none [⟨some 2, .mov (.c (.bool false)), none, []⟩] [0])
  (.seq (.region none [⟨some 4, .mov (.t 0), none, []⟩,
    ⟨some 5, .call 11 [(.t 4)], none, []⟩,
    ⟨some 3, .alloc [(.lit (.int .i64 0)), (.lit (.int .i64 0)), (.lit (.string ⟨#[]⟩)), (.lit (.slice none 0 0)), (.lit (.int .i64 0)), (.lit (.int .i64 0)), (.lit (.string ⟨#[]⟩)), (.lit (.slice none 0 0)), (.lit (.int .i64 0)), (.lit (.int .i64 0)), (.lit (.string ⟨#[]⟩)), (.lit (.slice none 0 0))], none, []⟩,
    ⟨none, .store 12 (.t 3) (.t 5), none, []⟩] [3])
  (.seq (.region (some []) [⟨some 6, .load true 12 (.t 3), none, []⟩,
    ⟨some 7, .call 12 [(.t 6)], none, []⟩,
    ⟨some 8, .load true 12 (.t 3), none, [1]⟩,
    ⟨some 9, .call 13 [(.t 8)], none, []⟩,
    ⟨some 10, .bin .eql (.t 7) (.t 9), none, []⟩,
    ⟨some 11, .mov (.t 10), none, []⟩,
    ⟨some 12, .load true 12 (.t 3), some (11, true), []⟩,
    ⟨some 13, .call 15 [(.t 12)], some (11, true), []⟩,
    ⟨some 14, .load true 12 (.t 3), some (11, true), [7]⟩,
    ⟨some 15, .call 16 [(.t 14)], some (11, true), []⟩,
    ⟨some 16, .call 14 [(.t 13), (.t 15)], some (11, true), []⟩,
    ⟨some 17, .pick (.t 11) (.t 16) (.c (.bool false)), none, []⟩,
    ⟨some 18, .mov (.t 17), none, []⟩,
    ⟨some 19, .call 10 [], some (18, true), []⟩,
    ⟨some 20, .pick (.t 18) (.t 19) (.c (.bool false)), none, []⟩,
    ⟨some 2, .mov (.t 20), none, []⟩] [2])
  (.ret))), false⟩
def F2l0 : PC := (.seq (.seq (.region none [⟨some 80, .mov (.t 17), none, []⟩,
     ⟨some 81, .bin .lss (.t 80) (.c (.int .i64 6)), none, []⟩] [14, 16, 17, 81])
   (.cond (.t 81)
    (.skip)
    (.exit 0)))
   (.seq (.block 1 (.seq (.region none [⟨some 84, .mov (.t 14), none, []⟩,
     ⟨some 85, .mov (.t 17), none, []⟩,
     ⟨some 86, .indexAddr 4 (.t 84) (.t 85), none, []⟩,
     ⟨some 87, .load true 4 (.t 86), none, []⟩,
     ⟨some 88, .call 18 [(.t 87)], none, []⟩,
     ⟨some 89, .call 12 [(.t 88)], none, []⟩,
     ⟨some 18, .mov (.t 89), none, []⟩] [14, 16, 17, 18])
   (.seq (.region none [⟨some 90, .mov (.t 18), none, []⟩,
     ⟨some 91, .bin .neq (.t 90) (.c (.int .i64 13)), none, []⟩,
     ⟨some 92, .mov (.t 16), none, []⟩,
     ⟨some 93, .mov (.t 17), none, []⟩,
     ⟨some 94, .indexAddr 1 (.t 92) (.t 93), none, []⟩,
     ⟨some 95, .load false 1 (.t 94), none, []⟩,
     ⟨some 96, .eqb true (.t 91) (.t 95), none, []⟩] [14, 16, 17, 96])
   (.cond (.t 96)
    (.seq (.region none [⟨some 6, .mov (.c (.bool false)), none, []⟩] [6])
    (.ret))
    (.skip)))))
   (.region none [⟨some 82, .mov (.t 17), none, []⟩,
     ⟨some 83, .bin .add (.t 82) (.c (.int .i64 1)), none, []⟩,
     ⟨some 17, .mov (.t 83), none, []⟩] [14, 16, 17])))
theorem run_F2l0 (C : Task → Option Res) (k : Nat) (fr : Fr) (σ : S) : run C k F2l0 fr σ = run C k (.seq (.seq (.region none [⟨some 80, .mov (.t 17), none, []⟩,
     ⟨some 81, .bin .lss (.t 80) (.c (.int .i64 6)), none, []⟩] [14, 16, 17, 81])
   (.cond (.t 81)
    (.skip)
    (.exit 0)))
   (.seq (.block 1 (.seq (.region none [⟨some 84, .mov (.t 14), none, []⟩,
     ⟨some 85, .mov (.t 17), none, []⟩,
     ⟨some 86, .indexAddr 4 (.t 84) (.t 85), none, []⟩,
     ⟨some 87, .load true 4 (.t 86), none, []⟩,
     ⟨some 88, .call 18 [(.t 87)], none, []⟩,
     ⟨some 89, .call 12 [(.t 88)], none, []⟩,
     ⟨some 18, .mov (.t 89), none, []⟩] [14, 16, 17, 18])
   (.seq (.region none [⟨some 90, .mov (.t 18), none, []⟩,
     ⟨some 91, .bin .neq (.t 90) (.c (.int .i64 13)), none, []⟩,
     ⟨some 92, .mov (.t 16), none, []⟩,
     ⟨some 93, .mov (.t 17), none, []⟩,
     ⟨some 94, .indexAddr 1 (.t 92) (.t 93), none, []⟩,
     ⟨some 95, .load false 1 (.t 94), none, []⟩,
     ⟨some 96, .eqb true (.t 91) (.t 95), none, []⟩] [14, 16, 17, 96])
   (.cond (.t 96)
    (.seq (.region none [⟨some 6, .mov (.c (.bool false)), none, []⟩] [6])
    (.ret))
    (.skip)))))
   (.region none [⟨some 82, .mov (.t 17), none, []⟩,
     ⟨some 83, .bin .add (.t 82) (.c (.int .i64 1)), none, []⟩,
     ⟨some 17, .mov (.t 83), none, []⟩] [14, 16, 17]))) fr σ := rfl
/-- arenanet/arenanetlaw14.TypecheckStatements -/
def F2 : PFun := ⟨3, [.tmp 6],
  .seq (.region none [⟨some 6, .mov (.c (.bool false)), none, []⟩] [0, 1, 2])
  (.seq (.region none [⟨some 19, .mov (.t 0), none, []⟩,
    ⟨some 20, .call 7 [(.t 19)], none, []⟩,
    ⟨some 7, .alloc [(.lit (.int .i64 0)), (.lit (.int .i64 0)), (.lit (.string ⟨#[]⟩)), (.lit (.slice none 0 0))], none, []⟩,
    ⟨none, .store 4 (.t 7) (.t 20), none, []⟩] [1, 2, 7])
  (.seq (.region none [⟨some 21, .mov (.t 1), none, []⟩,
    ⟨some 22, .call 7 [(.t 21)], none, []⟩,
    ⟨some 8, .alloc [(.lit (.int .i64 0)), (.lit (.int .i64 0)), (.lit (.string ⟨#[]⟩)), (.lit (.slice none 0 0))], none, []⟩,
    ⟨none, .store 4 (.t 8) (.t 22), none, []⟩] [2, 7, 8])
  (.seq (.region none [⟨some 23, .load true 4 (.t 7), none, []⟩,
    ⟨some 24, .call 8 [(.t 23)], none, []⟩,
    ⟨some 9, .mov (.t 24), none, []⟩] [2, 7, 8, 9])
  (.seq (.region none [⟨some 25, .load true 4 (.t 8), none, []⟩,
    ⟨some 26, .call 8 [(.t 25)], none, []⟩,
    ⟨some 10, .mov (.t 26), none, []⟩] [2, 7, 8, 9, 10])
  (.seq (.region none [⟨some 27, .build [(.lit (.int .i64 0)), (.lit (.int .i64 0)), (.lit (.string ⟨#[]⟩)), (.lit (.slice none 0 0))] [(0, 1, (.c (.int .i64 7)))], none, []⟩,
    ⟨some 11, .alloc [(.lit (.int .i64 0)), (.lit (.int .i64 0)), (.lit (.string ⟨#[]⟩)), (.lit (.slice none 0 0))], none, []⟩,
    ⟨none, .store 4 (.t 11) (.t 27), none, []⟩] [2, 7, 8, 9, 10, 11])
  (.seq (.region none [⟨some 28, .bslice 6 [(.lit (.string ⟨#[]⟩)), (.lit (.string ⟨#[]⟩)), (.lit (.string ⟨#[]⟩)), (.lit (.string ⟨#[]⟩)), (.lit (.string ⟨#[]⟩)), (.lit (.string ⟨#[]⟩))] [(0, 1, (.c (.string ⟨#[120]⟩))), (1, 1, (.c (.string ⟨#[121]⟩))), (2, 1, (.c (.string ⟨#[118, 120]⟩))), (3, 1, (.c (.string ⟨#[118, 121]⟩))), (4, 1, (.c (.string ⟨#[97]⟩))), (5, 1, (.c (.string ⟨#[98]⟩)))], none, []⟩,
    ⟨some 29, .mov (.t 2), none, []⟩,
    ⟨some 30, .call 17 [(.t 29), (.c (.int .i64 6))], none, []⟩,
    ⟨some 31, .indexAddr 1 (.t 28) (.t 30), none, []⟩,
    ⟨some 32, .load false 1 (.t 31), none, []⟩,
    ⟨some 12, .mov (.t 32), none, []⟩] [2, 7, 8, 9, 10, 11, 12])
  (.seq (.region none [⟨some 33, .bslice 2 [(.lit (.string ⟨#[]⟩)), (.lit (.string ⟨#[]⟩))] [(0, 1, (.c (.string ⟨#[104, 105, 116]⟩))), (1, 1, (.c (.string ⟨#[115, 116, 105, 108, 108]⟩)))], none, []⟩,
    ⟨some 34, .mov (.t 2), none, []⟩,
    ⟨some 35, .call 17 [(.t 34), (.c (.int .i64 2))], none, []⟩,
    ⟨some 36, .indexAddr 1 (.t 33) (.t 35), none, []⟩,
    ⟨some 37, .load false 1 (.t 36), none, []⟩,
    ⟨some 13, .mov (.t 37), none, []⟩] [7, 8, 9, 10, 11, 12, 13])
  (.seq (.region none [⟨some 38, .load true 4 (.t 7), none, []⟩,
    ⟨some 39, .load true 4 (.t 11), none, []⟩,
    ⟨some 40, .load true 4 (.t 11), none, []⟩,
    ⟨some 41, .bslice 3 [(.lit (.int .i64 0)), (.lit (.int .i64 0)), (.lit (.string ⟨#[]⟩)), (.lit (.slice none 0 0)), (.lit (.int .i64 0)), (.lit (.int .i64 0)), (.lit (.string ⟨#[]⟩)), (.lit (.slice none 0 0)), (.lit (.int .i64 0)), (.lit (.int .i64 0)), (.lit (.string ⟨#[]⟩)), (.lit (.slice none 0 0))] [(0, 4, (.t 38)), (4, 4, (.t 39)), (8, 4, (.t 40))], none, []⟩,
    ⟨some 42, .build [(.lit (.int .i64 0)), (.lit (.int .i64 0)), (.lit (.string ⟨#[]⟩)), (.lit (.slice none 0 0))] [(0, 1, (.c (.int .i64 3))), (3, 1, (.t 41))], none, []⟩,
    ⟨some 43, .load true 4 (.t 7), none, []⟩,
    ⟨some 44, .load true 4 (.t 11), none, []⟩,
    ⟨some 45, .bslice 2 [(.lit (.int .i64 0)), (.lit (.int .i64 0)), (.lit (.string ⟨#[]⟩)), (.lit (.slice none 0 0)), (.lit (.int .i64 0)), (.lit (.int .i64 0)), (.lit (.string ⟨#[]⟩)), (.lit (.slice none 0 0))] [(0, 4, (.t 43)), (4, 4, (.t 44))], none, []⟩,
    ⟨some 46, .build [(.lit (.int .i64 0)), (.lit (.int .i64 0)), (.lit (.string ⟨#[]⟩)), (.lit (.slice none 0 0))] [(0, 1, (.c (.int .i64 4))), (3, 1, (.t 45))], none, []⟩,
    ⟨some 47, .load true 4 (.t 7), none, []⟩,
    ⟨some 48, .bslice 1 [(.lit (.int .i64 0)), (.lit (.int .i64 0)), (.lit (.string ⟨#[]⟩)), (.lit (.slice none 0 0))] [(0, 4, (.t 47))], none, []⟩,
    ⟨some 49, .build [(.lit (.int .i64 0)), (.lit (.int .i64 0)), (.lit (.string ⟨#[]⟩)), (.lit (.slice none 0 0))] [(0, 1, (.c (.int .i64 1))), (2, 1, (.c (.string ⟨#[118, 97]⟩))), (3, 1, (.t 48))], none, []⟩,
    ⟨some 50, .load true 4 (.t 7), none, []⟩,
    ⟨some 51, .load true 4 (.t 8), none, []⟩,
    ⟨some 52, .bslice 2 [(.lit (.int .i64 0)), (.lit (.int .i64 0)), (.lit (.string ⟨#[]⟩)), (.lit (.slice none 0 0)), (.lit (.int .i64 0)), (.lit (.int .i64 0)), (.lit (.string ⟨#[]⟩)), (.lit (.slice none 0 0))] [(0, 4, (.t 50)), (4, 4, (.t 51))], none, []⟩,
    ⟨some 53, .build [(.lit (.int .i64 0)), (.lit (.int .i64 0)), (.lit (.string ⟨#[]⟩)), (.lit (.slice none 0 0))] [(0, 1, (.c (.int .i64 5))), (3, 1, (.t 52))], none, []⟩,
    ⟨some 54, .mov (.t 12), none, []⟩,
    ⟨some 55, .load true 4 (.t 7), none, []⟩,
    ⟨some 56, .load true 4 (.t 8), none, []⟩,
    ⟨some 57, .bslice 2 [(.lit (.int .i64 0)), (.lit (.int .i64 0)), (.lit (.string ⟨#[]⟩)), (.lit (.slice none 0 0)), (.lit (.int .i64 0)), (.lit (.int .i64 0)), (.lit (.string ⟨#[]⟩)), (.lit (.slice none 0 0))] [(0, 4, (.t 55)), (4, 4, (.t 56))], none, []⟩,
    ⟨some 58, .build [(.lit (.int .i64 0)), (.lit (.int .i64 0)), (.lit (.string ⟨#[]⟩)), (.lit (.slice none 0 0))] [(0, 1, (.c (.int .i64 2))), (2, 1, (.t 54)), (3, 1, (.t 57))], none, []⟩,
    ⟨some 59, .mov (.t 13), none, []⟩,
    ⟨some 60, .load true 4 (.t 7), none, []⟩,
    ⟨some 61, .load true 4 (.t 8), none, []⟩,
    ⟨some 62, .bslice 2 [(.lit (.int .i64 0)), (.lit (.int .i64 0)), (.lit (.string ⟨#[]⟩)), (.lit (.slice none 0 0)), (.lit (.int .i64 0)), (.lit (.int .i64 0)), (.lit (.string ⟨#[]⟩)), (.lit (.slice none 0 0))] [(0, 4, (.t 60)), (4, 4, (.t 61))], none, []⟩,
    ⟨some 63, .build [(.lit (.int .i64 0)), (.lit (.int .i64 0)), (.lit (.string ⟨#[]⟩)), (.lit (.slice none 0 0))] [(0, 1, (.c (.int .i64 2))), (2, 1, (.t 59)), (3, 1, (.t 62))], none, []⟩,
    ⟨some 64, .bslice 6 [(.lit (.int .i64 0)), (.lit (.int .i64 0)), (.lit (.string ⟨#[]⟩)), (.lit (.slice none 0 0)), (.lit (.int .i64 0)), (.lit (.int .i64 0)), (.lit (.string ⟨#[]⟩)), (.lit (.slice none 0 0)), (.lit (.int .i64 0)), (.lit (.int .i64 0)), (.lit (.string ⟨#[]⟩)), (.lit (.slice none 0 0)), (.lit (.int .i64 0)), (.lit (.int .i64 0)), (.lit (.string ⟨#[]⟩)), (.lit (.slice none 0 0)), (.lit (.int .i64 0)), (.lit (.int .i64 0)), (.lit (.string ⟨#[]⟩)), (.lit (.slice none 0 0)), (.lit (.int .i64 0)), (.lit (.int .i64 0)), (.lit (.string ⟨#[]⟩)), (.lit (.slice none 0 0))] [(0, 4, (.t 42)), (4, 4, (.t 46)), (8, 4, (.t 49)), (12, 4, (.t 53)), (16, 4, (.t 58)), (20, 4, (.t 63))], none, []⟩,
    ⟨some 14, .mov (.t 64), none, []⟩] [9, 10, 14])
  (.seq (.region none [⟨some 65, .mov (.t 9), none, []⟩,
    ⟨some 66, .bin .eql (.t 65) (.c (.int .i64 1)), none, []⟩,
    ⟨some 67, .mov (.t 66), none, []⟩,
    ⟨some 68, .mov (.t 10), some (67, true), []⟩,
    ⟨some 69, .bin .eql (.t 68) (.c (.int .i64 1)), some (67, true), []⟩,
    ⟨some 70, .pick (.t 67) (.t 69) (.c (.bool false)), none, []⟩,
    ⟨some 15, .mov (.t 70), none, []⟩] [9, 14, 15])
  (.seq (.region none [⟨some 71, .mov (.t 9), none, []⟩,
    ⟨some 72, .bin .eql (.t 71) (.c (.int .i64 2)), none, []⟩,
    ⟨some 73, .mov (.t 9), none, []⟩,
    ⟨some 74, .bin .eql (.t 73) (.c (.int .i64 2)), none, []⟩,
    ⟨some 75, .mov (.t 9), none, []⟩,
    ⟨some 76, .bin .eql (.t 75) (.c (.int .i64 1)), none, []⟩,
    ⟨some 77, .mov (.t 15), none, []⟩,
    ⟨some 78, .mov (.t 15), none, []⟩,
    ⟨some 79, .bslice 6 [(.lit (.bool false)), (.lit (.bool false)), (.lit (.bool false)), (.lit (.bool false)), (.lit (.bool false)), (.lit (.bool false))] [(0, 1, (.t 72)), (1, 1, (.t 74)), (2, 1, (.t 76)), (3, 1, (.t 77)), (4, 1, (.t 78)), (5, 1, (.c (.bool false)))], none, []⟩,
    ⟨some 16, .mov (.t 79), none, []⟩] [14, 16])
  (.seq (.seq (.region none [⟨some 17, .mov (.c (.int .i64 0)), none, []⟩] [14, 16, 17])
  (.block 0 (.loop F2l0)))
  (.seq (.region none [⟨some 97, .call 10 [], none, []⟩,
    ⟨some 6, .mov (.t 97), none, []⟩] [6])
  (.ret))))))))))))), false⟩
/-- arenanet/arenanetlaw14.TypecheckSubstitution -/
def F3 : PFun := ⟨3, [.tmp 6],
  .seq (.region none [⟨some 6, .mov (.c (.bool false)), none, []⟩] [0, 1, 2])
  (.seq (.region none [⟨some 14, .mov (.t 0), none, []⟩,
    ⟨some 15, .call 7 [(.t 14)], none, []⟩,
    ⟨some 7, .alloc [(.lit (.int .i64 0)), (.lit (.int .i64 0)), (.lit (.string ⟨#[]⟩)), (.lit (.slice none 0 0))], none, []⟩,
    ⟨none, .store 4 (.t 7) (.t 15), none, []⟩] [1, 2, 7])
  (.seq (.region none [⟨some 16, .mov (.t 1), none, []⟩,
    ⟨some 17, .call 7 [(.t 16)], none, []⟩,
    ⟨some 8, .alloc [(.lit (.int .i64 0)), (.lit (.int .i64 0)), (.lit (.string ⟨#[]⟩)), (.lit (.slice none 0 0))], none, []⟩,
    ⟨none, .store 4 (.t 8) (.t 17), none, []⟩] [2, 7, 8])
  (.seq (.region none [⟨some 18, .load true 4 (.t 8), none, []⟩,
    ⟨some 19, .call 8 [(.t 18)], none, []⟩,
    ⟨some 9, .mov (.t 19), none, []⟩] [2, 7, 8, 9])
  (.seq (.seq (.region none [⟨some 20, .mov (.t 9), none, []⟩,
    ⟨some 21, .bin .eql (.t 20) (.c (.int .i64 0)), none, []⟩] [2, 7, 8, 9, 21])
  (.cond (.t 21)
   (.seq (.region none [⟨some 22, .call 10 [], none, []⟩,
     ⟨some 6, .mov (.t 22), none, []⟩] [6])
   (.ret))
   (.skip)))
  (.seq (.region none [⟨some 24, .load true 4 (.t 7), none, []⟩,
    ⟨some 25, .mov (.t 9), none, []⟩,
    ⟨some 26, .load true 4 (.t 8), none, []⟩,
    ⟨some 27, .call 19 [(.t 24), (.t 25), (.c (.int .i64 (-1))), (.t 26)], none, []⟩,
    ⟨some 23, .mov (.t 27), none, []⟩,
    ⟨some 28, .extract (.t 23) 0, none, []⟩,
    ⟨some 29, .extract (.t 23) 1, none, []⟩,
    ⟨some 10, .alloc [(.lit (.int .i64 0)), (.lit (.int .i64 0)), (.lit (.string ⟨#[]⟩)), (.lit (.slice none 0 0))], none, []⟩,
    ⟨none, .store 4 (.t 10) (.t 28), none, []⟩,
    ⟨some 11, .mov (.t 29), none, []⟩] [2, 7, 8, 9, 11])
  (.seq (.seq (.region none [⟨some 30, .mov (.t 11), none, []⟩,
    ⟨some 31, .bin .eql (.t 30) (.c (.int .i64 0)), none, []⟩] [2, 7, 8, 9, 11, 31])
  (.cond (.t 31)
   (.seq (.region none [⟨some 32, .call 10 [], none, []⟩,
     ⟨some 6, .mov (.t 32), none, []⟩] [6])
   (.ret))
   (.skip)))
  (.seq (.region (some [(63, [(.lit (.int .i64 0)), (.lit (.int .i64 0)), (.lit (.string ⟨#[]⟩)), (.lit (.slice none 0 0))])]) [⟨some 34, .load true 4 (.t 7), none, [4]⟩,
    ⟨some 35, .mov (.t 9), none, []⟩,
    ⟨some 36, .mov (.t 2), none, []⟩,
    ⟨some 37, .mov (.t 11), none, []⟩,
    ⟨some 38, .call 17 [(.t 36), (.t 37)], none, []⟩,
    ⟨some 39, .load true 4 (.t 8), none, [4]⟩,
    ⟨some 40, .call 19 [(.t 34), (.t 35), (.t 38), (.t 39)], none, []⟩,
    ⟨some 33, .mov (.t 40), none, []⟩,
    ⟨some 41, .extract (.t 33) 0, none, []⟩,
    ⟨some 42, .extract (.t 33) 1, none, []⟩,
    ⟨some 12, .fill 63, none, [4, 6]⟩,
    ⟨none, .store 4 (.t 12) (.t 41), none, []⟩,
    ⟨some 13, .mov (.t 42), none, []⟩] [7, 12])
  (.seq (.region (some []) [⟨some 43, .load true 4 (.t 12), none, []⟩,
    ⟨some 44, .call 8 [(.t 43)], none, []⟩,
    ⟨some 45, .load true 4 (.t 7), none, [1]⟩,
    ⟨some 46, .call 8 [(.t 45)], none, []⟩,
    ⟨some 47, .bin .eql (.t 44) (.t 46), none, []⟩,
    ⟨some 48, .mov (.t 47), none, []⟩,
    ⟨some 49, .call 10 [], some (48, true), []⟩,
    ⟨some 50, .pick (.t 48) (.t 49) (.c (.bool false)), none, []⟩,
    ⟨some 6, .mov (.t 50), none, []⟩] [6])
  (.ret))))))))), false⟩
def F4l2 : PC := (.seq (.seq (.region none [⟨some 40, .mov (.t 11), none, []⟩,
       ⟨some 41, .mov (.t 5), none, []⟩,
       ⟨some 42, .len .sl (.t 41), none, []⟩,
       ⟨some 43, .bin .lss (.t 40) (.t 42), none, []⟩] [3, 4, 5, 6, 8, 9, 10, 11, 43])
     (.cond (.t 43)
      (.skip)
      (.exit 4)))
     (.seq (.block 5 (.region (some []) [⟨some 46, .mov (.t 10), none, []⟩,
       ⟨some 47, .mov (.t 46), none, []⟩,
       ⟨some 48, .mov (.t 5), some (47, false), []⟩,
       ⟨some 49, .mov (.t 11), some (47, false), []⟩,
       ⟨some 50, .indexAddr 1 (.t 48) (.t 49), some (47, false), []⟩,
       ⟨some 51, .load false 1 (.t 50), some (47, false), []⟩,
       ⟨some 52, .mov (.t 8), some (47, false), []⟩,
       ⟨some 53, .mov (.t 9), some (47, false), []⟩,
       ⟨some 54, .indexAddr 1 (.t 52) (.t 53), some (47, false), []⟩,
       ⟨some 55, .load false 1 (.t 54), some (47, false), []⟩,
       ⟨some 56, .bin .eql (.t 51) (.t 55), some (47, false), []⟩,
       ⟨some 57, .pick (.t 47) (.c (.bool true)) (.t 56), none, []⟩,
       ⟨some 10, .mov (.t 57), none, []⟩] [3, 4, 5, 6, 8, 9, 10, 11]))
     (.region none [⟨some 44, .mov (.t 11), none, []⟩,
       ⟨some 45, .bin .add (.t 44) (.c (.int .i64 1)), none, []⟩,
       ⟨some 11, .mov (.t 45), none, []⟩] [3, 4, 5, 6, 8, 9, 10, 11])))
theorem run_F4l2 (C : Task → Option Res) (k : Nat) (fr : Fr) (σ : S) : run C k F4l2 fr σ = run C k (.seq (.seq (.region none [⟨some 40, .mov (.t 11), none, []⟩,
       ⟨some 41, .mov (.t 5), none, []⟩,
       ⟨some 42, .len .sl (.t 41), none, []⟩,
       ⟨some 43, .bin .lss (.t 40) (.t 42), none, []⟩] [3, 4, 5, 6, 8, 9, 10, 11, 43])
     (.cond (.t 43)
      (.skip)
      (.exit 4)))
     (.seq (.block 5 (.region (some []) [⟨some 46, .mov (.t 10), none, []⟩,
       ⟨some 47, .mov (.t 46), none, []⟩,
       ⟨some 48, .mov (.t 5), some (47, false), []⟩,
       ⟨some 49, .mov (.t 11), some (47, false), []⟩,
       ⟨some 50, .indexAddr 1 (.t 48) (.t 49), some (47, false), []⟩,
       ⟨some 51, .load false 1 (.t 50), some (47, false), []⟩,
       ⟨some 52, .mov (.t 8), some (47, false), []⟩,
       ⟨some 53, .mov (.t 9), some (47, false), []⟩,
       ⟨some 54, .indexAddr 1 (.t 52) (.t 53), some (47, false), []⟩,
       ⟨some 55, .load false 1 (.t 54), some (47, false), []⟩,
       ⟨some 56, .bin .eql (.t 51) (.t 55), some (47, false), []⟩,
       ⟨some 57, .pick (.t 47) (.c (.bool true)) (.t 56), none, []⟩,
       ⟨some 10, .mov (.t 57), none, []⟩] [3, 4, 5, 6, 8, 9, 10, 11]))
     (.region none [⟨some 44, .mov (.t 11), none, []⟩,
       ⟨some 45, .bin .add (.t 44) (.c (.int .i64 1)), none, []⟩,
       ⟨some 11, .mov (.t 45), none, []⟩] [3, 4, 5, 6, 8, 9, 10, 11]))) fr σ := rfl
def F4l1 : PC := (.seq (.seq (.region none [⟨some 34, .mov (.t 9), none, []⟩,
      ⟨some 35, .mov (.t 8), none, []⟩,
      ⟨some 36, .len .sl (.t 35), none, []⟩,
      ⟨some 37, .bin .lss (.t 34) (.t 36), none, []⟩] [3, 4, 5, 6, 8, 9, 37])
    (.cond (.t 37)
     (.skip)
     (.exit 2)))
    (.seq (.block 3 (.seq (.region none [⟨some 10, .mov (.c (.bool false)), none, []⟩] [3, 4, 5, 6, 8, 9, 10])
    (.seq (.seq (.region none [⟨some 11, .mov (.c (.int .i64 0)), none, []⟩] [3, 4, 5, 6, 8, 9, 10, 11])
    (.block 4 (.loop F4l2)))
    (.seq (.region none [⟨some 58, .mov (.t 10), none, []⟩,
      ⟨some 59, .un .not (.t 58), none, []⟩] [3, 4, 5, 6, 8, 9, 59])
    (.cond (.t 59)
     (.region none [⟨some 60, .mov (.t 5), none, []⟩,
       ⟨some 61, .mov (.t 8), none, []⟩,
       ⟨some 62, .mov (.t 9), none, []⟩,
       ⟨some 63, .indexAddr 1 (.t 61) (.t 62), none, []⟩,
       ⟨some 64, .load false 1 (.t 63), none, []⟩,
       ⟨some 65, .bslice 1 [(.lit (.string ⟨#[]⟩))] [(0, 1, (.t 64))], none, []⟩,
       ⟨some 66, .append 1 16 (.t 60) (.t 65), none, []⟩,
       ⟨some 5, .mov (.t 66), none, []⟩] [3, 4, 5, 6, 8, 9])
     (.skip))))))
    (.region none [⟨some 38, .mov (.t 9), none, []⟩,
      ⟨some 39, .bin .add (.t 38) (.c (.int .i64 1)), none, []⟩,
      ⟨some 9, .mov (.t 39), none, []⟩] [3, 4, 5, 6, 8, 9])))
theorem run_F4l1 (C : Task → Option Res) (k : Nat) (fr : Fr) (σ : S) : run C k F4l1 fr σ = run C k (.seq (.seq (.region none [⟨some 34, .mov (.t 9), none, []⟩,
      ⟨some 35, .mov (.t 8), none, []⟩,
      ⟨some 36, .len .sl (.t 35), none, []⟩,
      ⟨some 37, .bin .lss (.t 34) (.t 36), none, []⟩] [3, 4, 5, 6, 8, 9, 37])
    (.cond (.t 37)
     (.skip)
     (.exit 2)))
    (.seq (.block 3 (.seq (.region none [⟨some 10, .mov (.c (.bool false)), none, []⟩] [3, 4, 5, 6, 8, 9, 10])
    (.seq (.seq (.region none [⟨some 11, .mov (.c (.int .i64 0)), none, []⟩] [3, 4, 5, 6, 8, 9, 10, 11])
    (.block 4 (.loop F4l2)))
    (.seq (.region none [⟨some 58, .mov (.t 10), none, []⟩,
      ⟨some 59, .un .not (.t 58), none, []⟩] [3, 4, 5, 6, 8, 9, 59])
    (.cond (.t 59)
     (.region none [⟨some 60, .mov (.t 5), none, []⟩,
       ⟨some 61, .mov (.t 8), none, []⟩,
       ⟨some 62, .mov (.t 9), none, []⟩,
       ⟨some 63, .indexAddr 1 (.t 61) (.t 62), none, []⟩,
       ⟨some 64, .load false 1 (.t 63), none, []⟩,
       ⟨some 65, .bslice 1 [(.lit (.string ⟨#[]⟩))] [(0, 1, (.t 64))], none, []⟩,
       ⟨some 66, .append 1 16 (.t 60) (.t 65), none, []⟩,
       ⟨some 5, .mov (.t 66), none, []⟩] [3, 4, 5, 6, 8, 9])
     (.skip))))))
    (.region none [⟨some 38, .mov (.t 9), none, []⟩,
      ⟨some 39, .bin .add (.t 38) (.c (.int .i64 1)), none, []⟩,
      ⟨some 9, .mov (.t 39), none, []⟩] [3, 4, 5, 6, 8, 9]))) fr σ := rfl
def F4l0 : PC := (.seq (.seq (.region none [⟨some 15, .mov (.t 6), none, []⟩,
     ⟨some 16, .bin .lss (.t 15) (.c (.int .i64 3)), none, []⟩] [3, 4, 5, 6, 16])
   (.cond (.t 16)
    (.skip)
    (.exit 0)))
   (.seq (.block 1 (.seq (.region none [⟨some 7, .alloc [(.lit (.int .i64 0)), (.lit (.int .i64 0)), (.lit (.string ⟨#[]⟩)), (.lit (.slice none 0 0)), (.lit (.int .i64 0)), (.lit (.int .i64 0)), (.lit (.string ⟨#[]⟩)), (.lit (.slice none 0 0)), (.lit (.int .i64 0)), (.lit (.int .i64 0)), (.lit (.string ⟨#[]⟩)), (.lit (.slice none 0 0))], none, []⟩] [3, 4, 5, 6, 7])
   (.seq (.region none [⟨some 19, .mov (.t 6), none, []⟩,
     ⟨some 20, .mov (.t 6), none, []⟩,
     ⟨some 21, .fieldAddr 0 (.t 3), none, []⟩,
     ⟨some 22, .indexAddrA 3 4 (.t 21) (.t 20), none, []⟩,
     ⟨some 23, .load true 4 (.t 22), none, []⟩,
     ⟨some 24, .fieldAddr 0 (.t 7), none, []⟩,
     ⟨some 25, .indexAddrA 3 4 (.t 24) (.t 19), none, []⟩,
     ⟨none, .store 4 (.t 25) (.t 23), none, []⟩] [3, 4, 5, 6, 7])
   (.seq (.region none [⟨some 26, .mov (.t 4), none, []⟩,
     ⟨some 27, .mov (.t 26), none, []⟩,
     ⟨some 28, .load true 12 (.t 7), some (27, false), []⟩,
     ⟨some 29, .call 12 [(.t 28)], some (27, false), []⟩,
     ⟨some 30, .bin .eql (.t 29) (.c (.int .i64 13)), some (27, false), []⟩,
     ⟨some 31, .pick (.t 27) (.c (.bool true)) (.t 30), none, []⟩,
     ⟨some 4, .mov (.t 31), none, []⟩] [3, 4, 5, 6, 7])
   (.seq (.region none [⟨some 32, .load true 12 (.t 7), none, []⟩,
     ⟨some 33, .call 15 [(.t 32)], none, []⟩,
     ⟨some 8, .mov (.t 33), none, []⟩] [3, 4, 5, 6, 8])
   (.seq (.region none [⟨some 9, .mov (.c (.int .i64 0)), none, []⟩] [3, 4, 5, 6, 8, 9])
   (.block 2 (.loop F4l1))))))))
   (.region none [⟨some 17, .mov (.t 6), none, []⟩,
     ⟨some 18, .bin .add (.t 17) (.c (.int .i64 1)), none, []⟩,
     ⟨some 6, .mov (.t 18), none, []⟩] [3, 4, 5, 6])))
theorem run_F4l0 (C : Task → Option Res) (k : Nat) (fr : Fr) (σ : S) : run C k F4l0 fr σ = run C k (.seq (.seq (.region none [⟨some 15, .mov (.t 6), none, []⟩,
     ⟨some 16, .bin .lss (.t 15) (.c (.int .i64 3)), none, []⟩] [3, 4, 5, 6, 16])
   (.cond (.t 16)
    (.skip)
    (.exit 0)))
   (.seq (.block 1 (.seq (.region none [⟨some 7, .alloc [(.lit (.int .i64 0)), (.lit (.int .i64 0)), (.lit (.string ⟨#[]⟩)), (.lit (.slice none 0 0)), (.lit (.int .i64 0)), (.lit (.int .i64 0)), (.lit (.string ⟨#[]⟩)), (.lit (.slice none 0 0)), (.lit (.int .i64 0)), (.lit (.int .i64 0)), (.lit (.string ⟨#[]⟩)), (.lit (.slice none 0 0))], none, []⟩] [3, 4, 5, 6, 7])
   (.seq (.region none [⟨some 19, .mov (.t 6), none, []⟩,
     ⟨some 20, .mov (.t 6), none, []⟩,
     ⟨some 21, .fieldAddr 0 (.t 3), none, []⟩,
     ⟨some 22, .indexAddrA 3 4 (.t 21) (.t 20), none, []⟩,
     ⟨some 23, .load true 4 (.t 22), none, []⟩,
     ⟨some 24, .fieldAddr 0 (.t 7), none, []⟩,
     ⟨some 25, .indexAddrA 3 4 (.t 24) (.t 19), none, []⟩,
     ⟨none, .store 4 (.t 25) (.t 23), none, []⟩] [3, 4, 5, 6, 7])
   (.seq (.region none [⟨some 26, .mov (.t 4), none, []⟩,
     ⟨some 27, .mov (.t 26), none, []⟩,
     ⟨some 28, .load true 12 (.t 7), some (27, false), []⟩,
     ⟨some 29, .call 12 [(.t 28)], some (27, false), []⟩,
     ⟨some 30, .bin .eql (.t 29) (.c (.int .i64 13)), some (27, false), []⟩,
     ⟨some 31, .pick (.t 27) (.c (.bool true)) (.t 30), none, []⟩,
     ⟨some 4, .mov (.t 31), none, []⟩] [3, 4, 5, 6, 7])
   (.seq (.region none [⟨some 32, .load true 12 (.t 7), none, []⟩,
     ⟨some 33, .call 15 [(.t 32)], none, []⟩,
     ⟨some 8, .mov (.t 33), none, []⟩] [3, 4, 5, 6, 8])
   (.seq (.region none [⟨some 9, .mov (.c (.int .i64 0)), none, []⟩] [3, 4, 5, 6, 8, 9])
   (.block 2 (.loop F4l1))))))))
   (.region none [⟨some 17, .mov (.t 6), none, []⟩,
     ⟨some 18, .bin .add (.t 17) (.c (.int .i64 1)), none, []⟩,
     ⟨some 6, .mov (.t 18), none, []⟩] [3, 4, 5, 6]))) fr σ := rfl
/-- arenanet/arenanetlaw14.TypecheckModular -/
def F4 : PFun := ⟨1, [.tmp 2],
  .seq (.region none [⟨some 2, .mov (.c (.bool false)), none, []⟩] [0])
  (.seq (.region none [⟨some 13, .mov (.t 0), none, []⟩,
    ⟨some 14, .call 11 [(.t 13)], none, []⟩,
    ⟨some 3, .alloc [(.lit (.int .i64 0)), (.lit (.int .i64 0)), (.lit (.string ⟨#[]⟩)), (.lit (.slice none 0 0)), (.lit (.int .i64 0)), (.lit (.int .i64 0)), (.lit (.string ⟨#[]⟩)), (.lit (.slice none 0 0)), (.lit (.int .i64 0)), (.lit (.int .i64 0)), (.lit (.string ⟨#[]⟩)), (.lit (.slice none 0 0))], none, []⟩,
    ⟨none, .store 12 (.t 3) (.t 14), none, []⟩] [3])
  (.seq (.region none [⟨some 4, .mov (.c (.bool false)), none, []⟩] [3, 4])
  (.seq (.region none [⟨some 5, .mov (.c (.slice none 0 0)), none, []⟩] [3, 4, 5])
  (.seq (.seq (.region none [⟨some 6, .mov (.c (.int .i64 0)), none, []⟩] [3, 4, 5, 6])
  (.block 0 (.loop F4l0)))
  (.seq (.region none [⟨some 67, .load true 12 (.t 3), none, []⟩,
    ⟨some 68, .call 12 [(.t 67)], none, []⟩,
    ⟨some 12, .mov (.t 68), none, []⟩] [3, 4, 5, 12])
  (.seq (.seq (.region none [⟨some 69, .mov (.t 4), none, []⟩] [3, 5, 12, 69])
  (.cond (.t 69)
   (.seq (.region none [⟨some 70, .mov (.t 12), none, []⟩,
     ⟨some 71, .bin .eql (.t 70) (.c (.int .i64 13)), none, []⟩,
     ⟨some 72, .mov (.t 71), none, []⟩,
     ⟨some 73, .call 10 [], some (72, true), []⟩,
     ⟨some 74, .pick (.t 72) (.t 73) (.c (.bool false)), none, []⟩,
     ⟨some 2, .mov (.t 74), none, []⟩] [2])
   (.ret))
   (.skip)))
  (.seq (.seq (.region none [⟨some 75, .mov (.t 5), none, []⟩,
    ⟨some 76, .len .sl (.t 75), none, []⟩,
    ⟨some 77, .bin .gtr (.t 76) (.c (.int .i64 16)), none, []⟩] [3, 5, 12, 77])
  (.cond (.t 77)
   (.seq (.region none [⟨some 78, .mov (.t 12), none, []⟩,
     ⟨some 79, .bin .eql (.t 78) (.c (.int .i64 2)), none, []⟩,
     ⟨some 80, .mov (.t 79), none, []⟩,
     ⟨some 81, .call 10 [], some (80, true), []⟩,
     ⟨some 82, .pick (.t 80) (.t 81) (.c (.bool false)), none, []⟩,
     ⟨some 2, .mov (.t 82), none, []⟩] [2])
   (.ret))
   (.skip)))
  (.seq (.region none [⟨some 83, .mov (.t 12), none, []⟩,
    ⟨some 84, .bin .eql (.t 83) (.c (.int .i64 0)), none, []⟩,
    ⟨some 85, .mov (.t 84), none, []⟩,
    ⟨some 86, .load true 12 (.t 3), some (85, true), []⟩,
    ⟨some 87, .call 15 [(.t 86)], some (85, true), []⟩,
    ⟨some 88, .mov (.t 5), some (85, true), []⟩,
    ⟨some 89, .call 14 [(.t 87), (.t 88)], some (85, true), []⟩,
    ⟨some 90, .pick (.t 85) (.t 89) (.c (.bool false)), none, []⟩,
    ⟨some 91, .mov (.t 90), none, []⟩,
    ⟨some 92, .call 10 [], some (91, true), []⟩,
    ⟨some 93, .pick (.t 91) (.t 92) (.c (.bool false)), none, []⟩,
    ⟨some 2, .mov (.t 93), none, []⟩] [2])
  (.ret))))))))), false⟩
def F5l0 : PC := (.seq (.seq (.region none [⟨some 17, .mov (.t 8), none, []⟩,
     ⟨some 18, .bin .lss (.t 17) (.c (.int .i64 3)), none, []⟩] [5, 6, 7, 8, 18])
   (.cond (.t 18)
    (.skip)
    (.exit 0)))
   (.seq (.block 1 (.region none [⟨some 21, .mov (.t 8), none, []⟩,
     ⟨some 22, .mov (.t 8), none, []⟩,
     ⟨some 23, .fieldAddr 0 (.t 5), none, []⟩,
     ⟨some 24, .indexAddrA 3 4 (.t 23) (.t 22), none, []⟩,
     ⟨some 25, .load true 4 (.t 24), none, []⟩,
     ⟨some 26, .mov (.t 6), none, []⟩,
     ⟨some 27, .call 21 [(.t 25), (.t 26)], none, []⟩,
     ⟨some 28, .fieldAddr 0 (.t 7), none, []⟩,
     ⟨some 29, .indexAddrA 3 4 (.t 28) (.t 21), none, []⟩,
     ⟨none, .store 4 (.t 29) (.t 27), none, []⟩] [5, 6, 7, 8]))
   (.region none [⟨some 19, .mov (.t 8), none, []⟩,
     ⟨some 20, .bin .add (.t 19) (.c (.int .i64 1)), none, []⟩,
     ⟨some 8, .mov (.t 20), none, []⟩] [5, 6, 7, 8])))
theorem run_F5l0 (C : Task → Option Res) (k : Nat) (fr : Fr) (σ : S) : run C k F5l0 fr σ = run C k (.seq (.seq (.region none [⟨some 17, .mov (.t 8), none, []⟩,
     ⟨some 18, .bin .lss (.t 17) (.c (.int .i64 3)), none, []⟩] [5, 6, 7, 8, 18])
   (.cond (.t 18)
    (.skip)
    (.exit 0)))
   (.seq (.block 1 (.region none [⟨some 21, .mov (.t 8), none, []⟩,
     ⟨some 22, .mov (.t 8), none, []⟩,
     ⟨some 23, .fieldAddr 0 (.t 5), none, []⟩,
     ⟨some 24, .indexAddrA 3 4 (.t 23) (.t 22), none, []⟩,
     ⟨some 25, .load true 4 (.t 24), none, []⟩,
     ⟨some 26, .mov (.t 6), none, []⟩,
     ⟨some 27, .call 21 [(.t 25), (.t 26)], none, []⟩,
     ⟨some 28, .fieldAddr 0 (.t 7), none, []⟩,
     ⟨some 29, .indexAddrA 3 4 (.t 28) (.t 21), none, []⟩,
     ⟨none, .store 4 (.t 29) (.t 27), none, []⟩] [5, 6, 7, 8]))
   (.region none [⟨some 19, .mov (.t 8), none, []⟩,
     ⟨some 20, .bin .add (.t 19) (.c (.int .i64 1)), none, []⟩,
     ⟨some 8, .mov (.t 20), none, []⟩] [5, 6, 7, 8]))) fr σ := rfl
def F5l1 : PC := (.seq (.seq (.region none [⟨some 46, .mov (.t 11), none, []⟩,
     ⟨some 47, .mov (.t 9), none, []⟩,
     ⟨some 48, .len .sl (.t 47), none, []⟩,
     ⟨some 49, .bin .lss (.t 46) (.t 48), none, []⟩] [6, 9, 10, 11, 49])
   (.cond (.t 49)
    (.skip)
    (.exit 2)))
   (.seq (.block 3 (.seq (.region (some []) [⟨some 52, .mov (.t 10), none, []⟩,
     ⟨some 53, .mov (.t 11), none, []⟩,
     ⟨some 54, .indexAddr 1 (.t 52) (.t 53), none, []⟩,
     ⟨some 55, .load false 1 (.t 54), none, []⟩,
     ⟨some 56, .mov (.t 9), none, []⟩,
     ⟨some 57, .mov (.t 11), none, []⟩,
     ⟨some 58, .indexAddr 1 (.t 56) (.t 57), none, []⟩,
     ⟨some 59, .load false 1 (.t 58), none, []⟩,
     ⟨some 60, .mov (.t 6), none, []⟩,
     ⟨some 61, .bin .add (.t 59) (.t 60), none, []⟩,
     ⟨some 62, .bin .neq (.t 55) (.t 61), none, []⟩] [6, 9, 10, 11, 62])
   (.cond (.t 62)
    (.seq (.region none [⟨some 4, .mov (.c (.bool false)), none, []⟩] [4])
    (.ret))
    (.skip))))
   (.region none [⟨some 50, .mov (.t 11), none, []⟩,
     ⟨some 51, .bin .add (.t 50) (.c (.int .i64 1)), none, []⟩,
     ⟨some 11, .mov (.t 51), none, []⟩] [6, 9, 10, 11])))
theorem run_F5l1 (C : Task → Option Res) (k : Nat) (fr : Fr) (σ : S) : run C k F5l1 fr σ = run C k (.seq (.seq (.region none [⟨some 46, .mov (.t 11), none, []⟩,
     ⟨some 47, .mov (.t 9), none, []⟩,
     ⟨some 48, .len .sl (.t 47), none, []⟩,
     ⟨some 49, .bin .lss (.t 46) (.t 48), none, []⟩] [6, 9, 10, 11, 49])
   (.cond (.t 49)
    (.skip)
    (.exit 2)))
   (.seq (.block 3 (.seq (.region (some []) [⟨some 52, .mov (.t 10), none, []⟩,
     ⟨some 53, .mov (.t 11), none, []⟩,
     ⟨some 54, .indexAddr 1 (.t 52) (.t 53), none, []⟩,
     ⟨some 55, .load false 1 (.t 54), none, []⟩,
     ⟨some 56, .mov (.t 9), none, []⟩,
     ⟨some 57, .mov (.t 11), none, []⟩,
     ⟨some 58, .indexAddr 1 (.t 56) (.t 57), none, []⟩,
     ⟨some 59, .load false 1 (.t 58), none, []⟩,
     ⟨some 60, .mov (.t 6), none, []⟩,
     ⟨some 61, .bin .add (.t 59) (.t 60), none, []⟩,
     ⟨some 62, .bin .neq (.t 55) (.t 61), none, []⟩] [6, 9, 10, 11, 62])
   (.cond (.t 62)
    (.seq (.region none [⟨some 4, .mov (.c (.bool false)), none, []⟩] [4])
    (.ret))
    (.skip))))
   (.region none [⟨some 50, .mov (.t 11), none, []⟩,
     ⟨some 51, .bin .add (.t 50) (.c (.int .i64 1)), none, []⟩,
     ⟨some 11, .mov (.t 51), none, []⟩] [6, 9, 10, 11]))) fr σ := rfl
/-- arenanet/arenanetlaw14.TypecheckRenaming -/
def F5 : PFun := ⟨2, [.tmp 4],
  .seq (.region none [⟨some 4, .mov (.c (.bool false)), none, []⟩] [0, 1])
  (.seq (.region none [⟨some 12, .mov (.t 0), none, []⟩,
    ⟨some 13, .call 11 [(.t 12)], none, []⟩,
    ⟨some 5, .alloc [(.lit (.int .i64 0)), (.lit (.int .i64 0)), (.lit (.string ⟨#[]⟩)), (.lit (.slice none 0 0)), (.lit (.int .i64 0)), (.lit (.int .i64 0)), (.lit (.string ⟨#[]⟩)), (.lit (.slice none 0 0)), (.lit (.int .i64 0)), (.lit (.int .i64 0)), (.lit (.string ⟨#[]⟩)), (.lit (.slice none 0 0))], none, []⟩,
    ⟨none, .store 12 (.t 5) (.t 13), none, []⟩] [1, 5])
  (.seq (.region none [⟨some 14, .mov (.t 1), none, []⟩,
    ⟨some 15, .call 17 [(.t 14), (.c (.int .i64 10))], none, []⟩,
    ⟨some 16, .call 20 [(.t 15)], none, []⟩,
    ⟨some 6, .mov (.t 16), none, []⟩] [5, 6])
  (.seq (.region none [⟨some 7, .alloc [(.lit (.int .i64 0)), (.lit (.int .i64 0)), (.lit (.string ⟨#[]⟩)), (.lit (.slice none 0 0)), (.lit (.int .i64 0)), (.lit (.int .i64 0)), (.lit (.string ⟨#[]⟩)), (.lit (.slice none 0 0)), (.lit (.int .i64 0)), (.lit (.int .i64 0)), (.lit (.string ⟨#[]⟩)), (.lit (.slice none 0 0))], none, []⟩] [5, 6, 7])
  (.seq (.seq (.region none [⟨some 8, .mov (.c (.int .i64 0)), none, []⟩] [5, 6, 7, 8])
  (.block 0 (.loop F5l0)))
  (.seq (.region none [⟨some 30, .load true 12 (.t 5), none, []⟩,
    ⟨some 31, .call 15 [(.t 30)], none, []⟩,
    ⟨some 9, .mov (.t 31), none, []⟩] [5, 6, 7, 9])
  (.seq (.region none [⟨some 32, .load true 12 (.t 7), none, []⟩,
    ⟨some 33, .call 15 [(.t 32)], none, []⟩,
    ⟨some 10, .mov (.t 33), none, []⟩] [5, 6, 7, 9, 10])
  (.seq (.seq (.region (some []) [⟨some 34, .mov (.t 9), none, []⟩,
    ⟨some 35, .len .sl (.t 34), none, []⟩,
    ⟨some 36, .mov (.t 10), none, []⟩,
    ⟨some 37, .len .sl (.t 36), none, []⟩,
    ⟨some 38, .bin .neq (.t 35) (.t 37), none, []⟩,
    ⟨some 39, .mov (.t 38), none, []⟩,
    ⟨some 40, .load true 12 (.t 5), some (39, false), []⟩,
    ⟨some 41, .call 12 [(.t 40)], some (39, false), []⟩,
    ⟨some 42, .load true 12 (.t 7), some (39, false), [7]⟩,
    ⟨some 43, .call 12 [(.t 42)], some (39, false), []⟩,
    ⟨some 44, .bin .neq (.t 41) (.t 43), some (39, false), []⟩,
    ⟨some 45, .pick (.t 39) (.c (.bool true)) (.t 44), none, []⟩] [6, 9, 10, 45])
  (.cond (.t 45)
   (.seq (.region none [⟨some 4, .mov (.c (.bool false)), none, []⟩] [4])
   (.ret))
   (.skip)))
  (.seq (.seq (.region none [⟨some 11, .mov (.c (.int .i64 0)), none, []⟩] [6, 9, 10, 11])
  (.block 2 (.loop F5l1)))
  (.seq (.region none [⟨some 63, .call 10 [], none, []⟩,
    ⟨some 4, .mov (.t 63), none, []⟩] [4])
  (.ret)))))))))), false⟩
def F6l0 : PC := (.seq (.seq (.region none [⟨some 15, .mov (.t 8), none, []⟩,
     ⟨some 16, .mov (.t 5), none, []⟩,
     ⟨some 17, .bin .lss (.t 15) (.t 16), none, []⟩] [1, 5, 6, 7, 8, 17])
   (.cond (.t 17)
    (.skip)
    (.exit 0)))
   (.seq (.block 1 (.seq (.region none [⟨some 20, .mov (.t 8), none, []⟩,
     ⟨some 21, .mov (.t 1), none, []⟩,
     ⟨some 22, .mov (.t 5), none, []⟩,
     ⟨some 23, .max [(.t 22), (.c (.int .i64 1))], none, []⟩,
     ⟨some 24, .call 17 [(.t 21), (.t 23)], none, []⟩,
     ⟨some 25, .bin .add (.t 20) (.t 24), none, []⟩,
     ⟨some 26, .mov (.t 5), none, []⟩,
     ⟨some 27, .max [(.t 26), (.c (.int .i64 1))], none, []⟩,
     ⟨some 28, .bin .rem (.t 25) (.t 27), none, []⟩,
     ⟨some 29, .call 22 [(.t 28)], none, []⟩,
     ⟨some 9, .mov (.t 29), none, []⟩] [1, 5, 6, 7, 8, 9])
   (.seq (.region none [⟨some 30, .mov (.t 7), none, []⟩,
     ⟨some 31, .mov (.t 9), none, []⟩,
     ⟨some 32, .bslice 1 [(.lit (.string ⟨#[]⟩))] [(0, 1, (.t 31))], none, []⟩,
     ⟨some 33, .append 1 16 (.t 30) (.t 32), none, []⟩,
     ⟨some 7, .mov (.t 33), none, []⟩] [1, 5, 6, 7, 8, 9])
   (.region none [⟨some 34, .fieldAddr 3 (.t 6), none, []⟩,
     ⟨some 35, .load false 1 (.t 34), none, []⟩,
     ⟨some 36, .mov (.t 9), none, []⟩,
     ⟨some 37, .mov (.t 8), none, []⟩,
     ⟨some 38, .build [(.lit (.int .i64 0)), (.lit (.int .i64 0)), (.lit (.string ⟨#[]⟩)), (.lit (.slice none 0 0))] [(0, 1, (.c (.int .i64 8))), (1, 1, (.t 37))], none, []⟩,
     ⟨some 39, .bslice 1 [(.lit (.int .i64 0)), (.lit (.int .i64 0)), (.lit (.string ⟨#[]⟩)), (.lit (.slice none 0 0))] [(0, 4, (.t 38))], none, []⟩,
     ⟨some 40, .build [(.lit (.int .i64 0)), (.lit (.int .i64 0)), (.lit (.string ⟨#[]⟩)), (.lit (.slice none 0 0))] [(0, 1, (.c (.int .i64 1))), (2, 1, (.t 36)), (3, 1, (.t 39))], none, []⟩,
     ⟨some 41, .bslice 1 [(.lit (.int .i64 0)), (.lit (.int .i64 0)), (.lit (.string ⟨#[]⟩)), (.lit (.slice none 0 0))] [(0, 4, (.t 40))], none, []⟩,
     ⟨some 42, .append 4 56 (.t 35) (.t 41), none, []⟩,
     ⟨some 43, .fieldAddr 3 (.t 6), none, []⟩,
     ⟨none, .store 1 (.t 43) (.t 42), none, []⟩] [1, 5, 6, 7, 8]))))
   (.region none [⟨some 18, .mov (.t 8), none, []⟩,
     ⟨some 19, .bin .add (.t 18) (.c (.int .i64 1)), none, []⟩,
     ⟨some 8, .mov (.t 19), none, []⟩] [1, 5, 6, 7, 8])))
theorem run_F6l0 (C : Task → Option Res) (k : Nat) (fr : Fr) (σ : S) : run C k F6l0 fr σ = run C k (.seq (.seq (.region none [⟨some 15, .mov (.t 8), none, []⟩,
     ⟨some 16, .mov (.t 5), none, []⟩,
     ⟨some 17, .bin .lss (.t 15) (.t 16), none, []⟩] [1, 5, 6, 7, 8, 17])
   (.cond (.t 17)
    (.skip)
    (.exit 0)))
   (.seq (.block 1 (.seq (.region none [⟨some 20, .mov (.t 8), none, []⟩,
     ⟨some 21, .mov (.t 1), none, []⟩,
     ⟨some 22, .mov (.t 5), none, []⟩,
     ⟨some 23, .max [(.t 22), (.c (.int .i64 1))], none, []⟩,
     ⟨some 24, .call 17 [(.t 21), (.t 23)], none, []⟩,
     ⟨some 25, .bin .add (.t 20) (.t 24), none, []⟩,
     ⟨some 26, .mov (.t 5), none, []⟩,
     ⟨some 27, .max [(.t 26), (.c (.int .i64 1))], none, []⟩,
     ⟨some 28, .bin .rem (.t 25) (.t 27), none, []⟩,
     ⟨some 29, .call 22 [(.t 28)], none, []⟩,
     ⟨some 9, .mov (.t 29), none, []⟩] [1, 5, 6, 7, 8, 9])
   (.seq (.region none [⟨some 30, .mov (.t 7), none, []⟩,
     ⟨some 31, .mov (.t 9), none, []⟩,
     ⟨some 32, .bslice 1 [(.lit (.string ⟨#[]⟩))] [(0, 1, (.t 31))], none, []⟩,
     ⟨some 33, .append 1 16 (.t 30) (.t 32), none, []⟩,
     ⟨some 7, .mov (.t 33), none, []⟩] [1, 5, 6, 7, 8, 9])
   (.region none [⟨some 34, .fieldAddr 3 (.t 6), none, []⟩,
     ⟨some 35, .load false 1 (.t 34), none, []⟩,
     ⟨some 36, .mov (.t 9), none, []⟩,
     ⟨some 37, .mov (.t 8), none, []⟩,
     ⟨some 38, .build [(.lit (.int .i64 0)), (.lit (.int .i64 0)), (.lit (.string ⟨#[]⟩)), (.lit (.slice none 0 0))] [(0, 1, (.c (.int .i64 8))), (1, 1, (.t 37))], none, []⟩,
     ⟨some 39, .bslice 1 [(.lit (.int .i64 0)), (.lit (.int .i64 0)), (.lit (.string ⟨#[]⟩)), (.lit (.slice none 0 0))] [(0, 4, (.t 38))], none, []⟩,
     ⟨some 40, .build [(.lit (.int .i64 0)), (.lit (.int .i64 0)), (.lit (.string ⟨#[]⟩)), (.lit (.slice none 0 0))] [(0, 1, (.c (.int .i64 1))), (2, 1, (.t 36)), (3, 1, (.t 39))], none, []⟩,
     ⟨some 41, .bslice 1 [(.lit (.int .i64 0)), (.lit (.int .i64 0)), (.lit (.string ⟨#[]⟩)), (.lit (.slice none 0 0))] [(0, 4, (.t 40))], none, []⟩,
     ⟨some 42, .append 4 56 (.t 35) (.t 41), none, []⟩,
     ⟨some 43, .fieldAddr 3 (.t 6), none, []⟩,
     ⟨none, .store 1 (.t 43) (.t 42), none, []⟩] [1, 5, 6, 7, 8]))))
   (.region none [⟨some 18, .mov (.t 8), none, []⟩,
     ⟨some 19, .bin .add (.t 18) (.c (.int .i64 1)), none, []⟩,
     ⟨some 8, .mov (.t 19), none, []⟩] [1, 5, 6, 7, 8]))) fr σ := rfl
/-- arenanet/arenanetlaw14.TypecheckLimit -/
def F6 : PFun := ⟨2, [.tmp 4],
  .seq (.region none [⟨some 4, .mov (.c (.bool false)), none, []⟩] [0, 1])
  (.seq (.region none [⟨some 12, .mov (.t 0), none, []⟩,
    ⟨some 13, .call 17 [(.t 12), (.c (.int .i64 21))], none, []⟩,
    ⟨some 5, .mov (.t 13), none, []⟩] [1, 5])
  (.seq (.region none [⟨some 14, .build [(.lit (.int .i64 0)), (.lit (.int .i64 0)), (.lit (.string ⟨#[]⟩)), (.lit (.slice none 0 0))] [(0, 1, (.c (.int .i64 7)))], none, []⟩,
    ⟨some 6, .alloc [(.lit (.int .i64 0)), (.lit (.int .i64 0)), (.lit (.string ⟨#[]⟩)), (.lit (.slice none 0 0))], none, []⟩,
    ⟨none, .store 4 (.t 6) (.t 14), none, []⟩] [1, 5, 6])
  (.seq (.region none [⟨some 7, .mov (.c (.slice none 0 0)), none, []⟩] [1, 5, 6, 7])
  (.seq (.seq (.region none [⟨some 8, .mov (.c (.int .i64 0)), none, []⟩] [1, 5, 6, 7, 8])
  (.block 0 (.loop F6l0)))
  (.seq (.region none [⟨some 10, .alloc [(.lit (.int .i64 0)), (.lit (.int .i64 0)), (.lit (.string ⟨#[]⟩)), (.lit (.slice none 0 0)), (.lit (.int .i64 0)), (.lit (.int .i64 0)), (.lit (.string ⟨#[]⟩)), (.lit (.slice none 0 0)), (.lit (.int .i64 0)), (.lit (.int .i64 0)), (.lit (.string ⟨#[]⟩)), (.lit (.slice none 0 0))], none, []⟩] [5, 6, 7, 10])
  (.seq (.region none [⟨some 44, .load true 4 (.t 6), none, []⟩,
    ⟨some 45, .fieldAddr 0 (.t 10), none, []⟩,
    ⟨some 46, .indexAddrA 3 4 (.t 45) (.c (.int .i64 0)), none, []⟩,
    ⟨none, .store 4 (.t 46) (.t 44), none, []⟩] [5, 6, 7, 10])
  (.seq (.region none [⟨some 47, .load true 4 (.t 6), none, []⟩,
    ⟨some 48, .fieldAddr 0 (.t 10), none, []⟩,
    ⟨some 49, .indexAddrA 3 4 (.t 48) (.c (.int .i64 2)), none, []⟩,
    ⟨none, .store 4 (.t 49) (.t 47), none, []⟩] [5, 7, 10])
  (.seq (.region none [⟨some 50, .load true 12 (.t 10), none, []⟩,
    ⟨some 51, .call 12 [(.t 50)], none, []⟩,
    ⟨some 11, .mov (.t 51), none, []⟩] [5, 7, 10, 11])
  (.seq (.region none [⟨some 52, .mov (.t 11), none, []⟩,
    ⟨some 53, .bin .eql (.t 52) (.c (.int .i64 2)), none, []⟩,
    ⟨some 54, .mov (.t 5), none, []⟩,
    ⟨some 55, .bin .gtr (.t 54) (.c (.int .i64 16)), none, []⟩,
    ⟨some 56, .eqb false (.t 53) (.t 55), none, []⟩,
    ⟨some 57, .mov (.t 56), none, []⟩,
    ⟨some 58, .mov (.t 11), some (57, true), []⟩,
    ⟨some 59, .bin .eql (.t 58) (.c (.int .i64 0)), some (57, true), []⟩,
    ⟨some 60, .mov (.t 5), some (57, true), []⟩,
    ⟨some 61, .bin .leq (.t 60) (.c (.int .i64 16)), some (57, true), []⟩,
    ⟨some 62, .eqb false (.t 59) (.t 61), some (57, true), []⟩,
    ⟨some 63, .pick (.t 57) (.t 62) (.c (.bool false)), none, []⟩,
    ⟨some 64, .mov (.t 63), none, []⟩,
    ⟨some 65, .load true 12 (.t 10), some (64, true), []⟩,
    ⟨some 66, .call 15 [(.t 65)], some (64, true), []⟩,
    ⟨some 67, .mov (.t 7), some (64, true), []⟩,
    ⟨some 68, .call 14 [(.t 66), (.t 67)], some (64, true), []⟩,
    ⟨some 69, .pick (.t 64) (.t 68) (.c (.bool false)), none, []⟩,
    ⟨some 70, .mov (.t 69), none, []⟩,
    ⟨some 71, .call 10 [], some (70, true), []⟩,
    ⟨some 72, .pick (.t 70) (.t 71) (.c (.bool false)), none, []⟩,
    ⟨some 4, .mov (.t 72), none, []⟩] [4])
  (.ret)))))))))), false⟩
/-- arenanet/arenanetref14.Expr -/
def F7 : PFun := ⟨1, [.cell 2 true 4],
  .seq (.region none [⟨some 2, .alloc [(.lit (.int .i64 0)), (.lit (.int .i64 0)), (.lit (.string ⟨#[]⟩)), (.lit (.slice none 0 0))], none, []⟩] [0, 2])
  (.seq (.region none [⟨some 4, .mov (.t 0), none, []⟩,
    ⟨some 5, .call 23 [(.t 4), (.c (.int .i64 40))], none, []⟩,
    ⟨some 6, .build [(.lit (.slice none 0 0)), (.lit (.int .i64 0))] [(0, 1, (.t 5))], none, []⟩,
    ⟨some 7, .box (.t 6), none, []⟩,
    ⟨some 3, .mov (.t 7), none, []⟩] [2, 3])
  (.seq (.region none [⟨some 8, .mov (.t 3), none, []⟩,
    ⟨some 9, .mov (.t 3), none, []⟩,
    ⟨some 10, .call 25 [(.t 9), (.c (.int .i64 2))], none, []⟩,
    ⟨some 11, .bin .add (.c (.int .i64 1)) (.t 10), none, []⟩,
    ⟨some 12, .call 24 [(.t 8), (.t 11), (.c (.int .i64 4))], none, []⟩,
    ⟨none, .store 4 (.t 2) (.t 12), none, []⟩] [2])
  (.ret))), false⟩
/-- arenanet/typecheck.TypeOf -/
def F8 : PFun := ⟨1, [.tmp 2],
  .seq (.region none [⟨some 1, .box (.t 0), none, []⟩,
    ⟨some 2, .mov (.c (.int .i64 0)), none, []⟩] [1])
  (.seq (.region (some []) [⟨some 3, .call 26 [], none, []⟩,
    ⟨some 4, .load true 4 (.t 1), none, [0]⟩,
    ⟨some 5, .call 27 [(.t 3), (.t 4)], none, []⟩,
    ⟨some 2, .mov (.t 5), none, []⟩] [2])
  (.ret)), false⟩
def F9l0 : PC := (.seq (.seq (.region none [⟨some 64, .mov (.t 5), none, []⟩,
     ⟨some 65, .fieldAddr 3 (.t 1), none, []⟩,
     ⟨some 66, .load false 1 (.t 65), none, []⟩,
     ⟨some 67, .len .sl (.t 66), none, []⟩,
     ⟨some 68, .bin .lss (.t 64) (.t 67), none, []⟩] [1, 3, 4, 5, 68])
   (.cond (.t 68)
    (.skip)
    (.exit 0)))
   (.seq (.block 1 (.seq (.region none [⟨some 71, .fieldAddr 3 (.t 1), none, []⟩,
     ⟨some 72, .load false 1 (.t 71), none, []⟩,
     ⟨some 73, .mov (.t 5), none, []⟩,
     ⟨some 74, .indexAddr 4 (.t 72) (.t 73), none, []⟩,
     ⟨some 75, .load true 4 (.t 74), none, []⟩,
     ⟨some 76, .call 9 [(.t 75)], none, []⟩,
     ⟨some 6, .mov (.t 76), none, []⟩] [1, 3, 4, 5, 6])
   (.seq (.region none [⟨some 77, .mov (.t 6), none, []⟩,
     ⟨some 78, .mov (.t 3), none, []⟩,
     ⟨some 79, .bin .neq (.t 77) (.t 78), none, []⟩] [1, 3, 4, 5, 79])
   (.cond (.t 79)
    (.seq (.region none [⟨some 2, .mov (.c (.int .i64 0)), none, []⟩] [2])
    (.ret))
    (.skip)))))
   (.region none [⟨some 69, .mov (.t 5), none, []⟩,
     ⟨some 70, .bin .add (.t 69) (.c (.int .i64 1)), none, []⟩,
     ⟨some 5, .mov (.t 70), none, []⟩] [1, 3, 4, 5])))
theorem run_F9l0 (C : Task → Option Res) (k : Nat) (fr : Fr) (σ : S) : run C k F9l0 fr σ = run C k (.seq (.seq (.region none [⟨some 64, .mov (.t 5), none, []⟩,
     ⟨some 65, .fieldAddr 3 (.t 1), none, []⟩,
     ⟨some 66, .load false 1 (.t 65), none, []⟩,
     ⟨some 67, .len .sl (.t 66), none, []⟩,
     ⟨some 68, .bin .lss (.t 64) (.t 67), none, []⟩] [1, 3, 4, 5, 68])
   (.cond (.t 68)
    (.skip)
    (.exit 0)))
   (.seq (.block 1 (.seq (.region none [⟨some 71, .fieldAddr 3 (.t 1), none, []⟩,
     ⟨some 72, .load false 1 (.t 71), none, []⟩,
     ⟨some 73, .mov (.t 5), none, []⟩,
     ⟨some 74, .indexAddr 4 (.t 72) (.t 73), none, []⟩,
     ⟨some 75, .load true 4 (.t 74), none, []⟩,
     ⟨some 76, .call 9 [(.t 75)], none, []⟩,
     ⟨some 6, .mov (.t 76), none, []⟩] [1, 3, 4, 5, 6])
   (.seq (.region none [⟨some 77, .mov (.t 6), none, []⟩,
     ⟨some 78, .mov (.t 3), none, []⟩,
     ⟨some 79, .bin .neq (.t 77) (.t 78), none, []⟩] [1, 3, 4, 5, 79])
   (.cond (.t 79)
    (.seq (.region none [⟨some 2, .mov (.c (.int .i64 0)), none, []⟩] [2])
    (.ret))
    (.skip)))))
   (.region none [⟨some 69, .mov (.t 5), none, []⟩,
     ⟨some 70, .bin .add (.t 69) (.c (.int .i64 1)), none, []⟩,
     ⟨some 5, .mov (.t 70), none, []⟩] [1, 3, 4, 5]))) fr σ := rfl
/-- arenanet/arenanetref14.TypeOf -/
def F9 : PFun := ⟨1, [.tmp 2],
  .seq (.region none [⟨some 1, .box (.t 0), none, []⟩,
    ⟨some 2, .mov (.c (.int .i64 0)), none, []⟩] [1])
  (.seq (.seq (.region none [⟨some 7, .fieldAddr 0 (.t 1), none, []⟩,
    ⟨some 8, .load false 1 (.t 7), none, []⟩,
    ⟨some 9, .bin .eql (.t 8) (.c (.int .i64 8)), none, []⟩,
    ⟨some 10, .mov (.t 9), none, []⟩,
    ⟨some 11, .fieldAddr 0 (.t 1), some (10, false), []⟩,
    ⟨some 12, .load false 1 (.t 11), some (10, false), []⟩,
    ⟨some 13, .bin .eql (.t 12) (.c (.int .i64 10)), some (10, false), []⟩,
    ⟨some 14, .pick (.t 10) (.c (.bool true)) (.t 13), none, []⟩,
    ⟨some 15, .mov (.t 14), none, []⟩,
    ⟨some 16, .fieldAddr 0 (.t 1), some (15, false), []⟩,
    ⟨some 17, .load false 1 (.t 16), some (15, false), []⟩,
    ⟨some 18, .bin .eql (.t 17) (.c (.int .i64 12)), some (15, false), []⟩,
    ⟨some 19, .pick (.t 15) (.c (.bool true)) (.t 18), none, []⟩] [1, 19])
  (.cond (.t 19)
   (.seq (.region none [⟨some 2, .mov (.c (.int .i64 1)), none, []⟩] [2])
   (.ret))
   (.skip)))
  (.seq (.seq (.region none [⟨some 20, .fieldAddr 0 (.t 1), none, []⟩,
    ⟨some 21, .load false 1 (.t 20), none, []⟩,
    ⟨some 22, .bin .eql (.t 21) (.c (.int .i64 9)), none, []⟩] [1, 22])
  (.cond (.t 22)
   (.seq (.region none [⟨some 2, .mov (.c (.int .i64 2)), none, []⟩] [2])
   (.ret))
   (.skip)))
  (.seq (.seq (.region none [⟨some 23, .fieldAddr 0 (.t 1), none, []⟩,
    ⟨some 24, .load false 1 (.t 23), none, []⟩,
    ⟨some 25, .bin .neq (.t 24) (.c (.int .i64 11)), none, []⟩,
    ⟨some 26, .mov (.t 25), none, []⟩,
    ⟨some 27, .fieldAddr 0 (.t 1), some (26, true), []⟩,
    ⟨some 28, .load false 1 (.t 27), some (26, true), []⟩,
    ⟨some 29, .bin .neq (.t 28) (.c (.int .i64 13)), some (26, true), []⟩,
    ⟨some 30, .pick (.t 26) (.t 29) (.c (.bool false)), none, []⟩,
    ⟨some 31, .mov (.t 30), none, []⟩,
    ⟨some 32, .fieldAddr 0 (.t 1), some (31, true), []⟩,
    ⟨some 33, .load false 1 (.t 32), some (31, true), []⟩,
    ⟨some 34, .bin .neq (.t 33) (.c (.int .i64 14)), some (31, true), []⟩,
    ⟨some 35, .pick (.t 31) (.t 34) (.c (.bool false)), none, []⟩] [1, 35])
  (.cond (.t 35)
   (.seq (.region none [⟨some 2, .mov (.c (.int .i64 0)), none, []⟩] [2])
   (.ret))
   (.skip)))
  (.seq (.region none [⟨some 3, .mov (.c (.int .i64 1)), none, []⟩] [1, 3])
  (.seq (.region none [⟨some 4, .mov (.c (.int .i64 1)), none, []⟩] [1, 3, 4])
  (.seq (.seq (.region none [⟨some 36, .fieldAddr 0 (.t 1), none, []⟩,
    ⟨some 37, .load false 1 (.t 36), none, []⟩,
    ⟨some 38, .bin .eql (.t 37) (.c (.int .i64 13)), none, []⟩,
    ⟨some 39, .mov (.t 38), none, []⟩,
    ⟨some 40, .fieldAddr 2 (.t 1), some (39, true), []⟩,
    ⟨some 41, .load false 1 (.t 40), some (39, true), []⟩,
    ⟨some 42, .bin .eql (.t 41) (.c (.string ⟨#[33]⟩)), some (39, true), []⟩,
    ⟨some 43, .pick (.t 39) (.t 42) (.c (.bool false)), none, []⟩,
    ⟨some 44, .mov (.t 43), none, []⟩,
    ⟨some 45, .fieldAddr 0 (.t 1), some (44, false), []⟩,
    ⟨some 46, .load false 1 (.t 45), some (44, false), []⟩,
    ⟨some 47, .bin .eql (.t 46) (.c (.int .i64 14)), some (44, false), []⟩,
    ⟨some 48, .mov (.t 47), some (44, false), []⟩,
    ⟨some 49, .bslice 2 [(.lit (.string ⟨#[]⟩)), (.lit (.string ⟨#[]⟩))] [(0, 1, (.c (.string ⟨#[38, 38]⟩))), (1, 1, (.c (.string ⟨#[124, 124]⟩)))], some (48, true), []⟩,
    ⟨some 50, .fieldAddr 2 (.t 1), some (48, true), []⟩,
    ⟨some 51, .load false 1 (.t 50), some (48, true), []⟩,
    ⟨some 52, .call 28 [(.t 49), (.t 51)], some (48, true), []⟩,
    ⟨some 53, .pick (.t 48) (.t 52) (.c (.bool false)), some (44, false), []⟩,
    ⟨some 54, .pick (.t 44) (.c (.bool true)) (.t 53), none, []⟩] [1, 3, 4, 54])
  (.cond (.t 54)
   (.seq (.region none [⟨some 3, .mov (.c (.int .i64 2)), none, []⟩] [1, 3])
   (.region none [⟨some 4, .mov (.c (.int .i64 2)), none, []⟩] [1, 3, 4]))
   (.skip)))
  (.seq (.seq (.region none [⟨some 55, .fieldAddr 0 (.t 1), none, []⟩,
    ⟨some 56, .load false 1 (.t 55), none, []⟩,
    ⟨some 57, .bin .eql (.t 56) (.c (.int .i64 14)), none, []⟩,
    ⟨some 58, .mov (.t 57), none, []⟩,
    ⟨some 59, .bslice 6 [(.lit (.string ⟨#[]⟩)), (.lit (.string ⟨#[]⟩)), (.lit (.string ⟨#[]⟩)), (.lit (.string ⟨#[]⟩)), (.lit (.string ⟨#[]⟩)), (.lit (.string ⟨#[]⟩))] [(0, 1, (.c (.string ⟨#[60]⟩))), (1, 1, (.c (.string ⟨#[60, 61]⟩))), (2, 1, (.c (.string ⟨#[62]⟩))), (3, 1, (.c (.string ⟨#[62, 61]⟩))), (4, 1, (.c (.string ⟨#[61, 61]⟩))), (5, 1, (.c (.string ⟨#[33, 61]⟩)))], some (58, true), []⟩,
    ⟨some 60, .fieldAddr 2 (.t 1), some (58, true), []⟩,
    ⟨some 61, .load false 1 (.t 60), some (58, true), []⟩,
    ⟨some 62, .call 28 [(.t 59), (.t 61)], some (58, true), []⟩,
    ⟨some 63, .pick (.t 58) (.t 62) (.c (.bool false)), none, []⟩] [1, 3, 4, 63])
  (.cond (.t 63)
   (.region none [⟨some 4, .mov (.c (.int .i64 2)), none, []⟩] [1, 3, 4])
   (.skip)))
  (.seq (.seq (.region none [⟨some 5, .mov (.c (.int .i64 0)), none, []⟩] [1, 3, 4, 5])
  (.block 0 (.loop F9l0)))
  (.seq (.region none [⟨some 80, .mov (.t 4), none, []⟩,
    ⟨some 2, .mov (.t 80), none, []⟩] [2])
  (.ret)))))))))), false⟩
/-- arenanet/arenanetlaw14.lives -/
def F10 : PFun := ⟨0, [.tmp 0],
  .seq (.region none [⟨some 0, .mov (.c (.bool false)), none, []⟩] [])
  (.seq (.region none [⟨some 8, .build [(.lit (.int .i64 0)), (.lit (.int .i64 0)), (.lit (.string ⟨#[]⟩)), (.lit (.slice none 0 0))] [(0, 1, (.c (.int .i64 8))), (1, 1, (.c (.int .i64 1)))], none, []⟩,
    ⟨some 1, .alloc [(.lit (.int .i64 0)), (.lit (.int .i64 0)), (.lit (.string ⟨#[]⟩)), (.lit (.slice none 0 0))], none, []⟩,
    ⟨none, .store 4 (.t 1) (.t 8), none, []⟩] [1])
  (.seq (.region none [⟨some 9, .build [(.lit (.int .i64 0)), (.lit (.int .i64 0)), (.lit (.string ⟨#[]⟩)), (.lit (.slice none 0 0))] [(0, 1, (.c (.int .i64 10))), (2, 1, (.c (.string ⟨#[118]⟩)))], none, []⟩,
    ⟨some 2, .alloc [(.lit (.int .i64 0)), (.lit (.int .i64 0)), (.lit (.string ⟨#[]⟩)), (.lit (.slice none 0 0))], none, []⟩,
    ⟨none, .store 4 (.t 2) (.t 9), none, []⟩] [1, 2])
  (.seq (.region none [⟨some 10, .load true 4 (.t 1), none, []⟩,
    ⟨some 11, .load true 4 (.t 1), none, []⟩,
    ⟨some 12, .bslice 2 [(.lit (.int .i64 0)), (.lit (.int .i64 0)), (.lit (.string ⟨#[]⟩)), (.lit (.slice none 0 0)), (.lit (.int .i64 0)), (.lit (.int .i64 0)), (.lit (.string ⟨#[]⟩)), (.lit (.slice none 0 0))] [(0, 4, (.t 10)), (4, 4, (.t 11))], none, []⟩,
    ⟨some 13, .build [(.lit (.int .i64 0)), (.lit (.int .i64 0)), (.lit (.string ⟨#[]⟩)), (.lit (.slice none 0 0))] [(0, 1, (.c (.int .i64 14))), (2, 1, (.c (.string ⟨#[43]⟩))), (3, 1, (.t 12))], none, []⟩,
    ⟨some 3, .alloc [(.lit (.int .i64 0)), (.lit (.int .i64 0)), (.lit (.string ⟨#[]⟩)), (.lit (.slice none 0 0))], none, []⟩,
    ⟨none, .store 4 (.t 3) (.t 13), none, []⟩] [1, 2, 3])
  (.seq (.region none [⟨some 14, .load true 4 (.t 3), none, []⟩,
    ⟨some 15, .load true 4 (.t 2), none, []⟩,
    ⟨some 16, .bslice 2 [(.lit (.int .i64 0)), (.lit (.int .i64 0)), (.lit (.string ⟨#[]⟩)), (.lit (.slice none 0 0)), (.lit (.int .i64 0)), (.lit (.int .i64 0)), (.lit (.string ⟨#[]⟩)), (.lit (.slice none 0 0))] [(0, 4, (.t 14)), (4, 4, (.t 15))], none, []⟩,
    ⟨some 17, .build [(.lit (.int .i64 0)), (.lit (.int .i64 0)), (.lit (.string ⟨#[]⟩)), (.lit (.slice none 0 0))] [(0, 1, (.c (.int .i64 14))), (2, 1, (.c (.string ⟨#[60]⟩))), (3, 1, (.t 16))], none, []⟩,
    ⟨some 4, .alloc [(.lit (.int .i64 0)), (.lit (.int .i64 0)), (.lit (.string ⟨#[]⟩)), (.lit (.slice none 0 0))], none, []⟩,
    ⟨none, .store 4 (.t 4) (.t 17), none, []⟩] [1, 2, 4])
  (.seq (.region none [⟨some 18, .load true 4 (.t 1), none, []⟩,
    ⟨some 19, .build [(.lit (.int .i64 0)), (.lit (.int .i64 0)), (.lit (.string ⟨#[]⟩)), (.lit (.slice none 0 0))] [(0, 1, (.c (.int .i64 7)))], none, []⟩,
    ⟨some 20, .build [(.lit (.int .i64 0)), (.lit (.int .i64 0)), (.lit (.string ⟨#[]⟩)), (.lit (.slice none 0 0))] [(0, 1, (.c (.int .i64 7)))], none, []⟩,
    ⟨some 21, .bslice 3 [(.lit (.int .i64 0)), (.lit (.int .i64 0)), (.lit (.string ⟨#[]⟩)), (.lit (.slice none 0 0)), (.lit (.int .i64 0)), (.lit (.int .i64 0)), (.lit (.string ⟨#[]⟩)), (.lit (.slice none 0 0)), (.lit (.int .i64 0)), (.lit (.int .i64 0)), (.lit (.string ⟨#[]⟩)), (.lit (.slice none 0 0))] [(0, 4, (.t 18)), (4, 4, (.t 19)), (8, 4, (.t 20))], none, []⟩,
    ⟨some 22, .build [(.lit (.int .i64 0)), (.lit (.int .i64 0)), (.lit (.string ⟨#[]⟩)), (.lit (.slice none 0 0))] [(0, 1, (.c (.int .i64 3))), (3, 1, (.t 21))], none, []⟩,
    ⟨some 5, .alloc [(.lit (.int .i64 0)), (.lit (.int .i64 0)), (.lit (.string ⟨#[]⟩)), (.lit (.slice none 0 0))], none, []⟩,
    ⟨none, .store 4 (.t 5) (.t 22), none, []⟩] [2, 4, 5])
  (.seq (.region none [⟨some 23, .load true 4 (.t 2), none, []⟩,
    ⟨some 24, .bslice 1 [(.lit (.int .i64 0)), (.lit (.int .i64 0)), (.lit (.string ⟨#[]⟩)), (.lit (.slice none 0 0))] [(0, 4, (.t 23))], none, []⟩,
    ⟨some 25, .build [(.lit (.int .i64 0)), (.lit (.int .i64 0)), (.lit (.string ⟨#[]⟩)), (.lit (.slice none 0 0))] [(0, 1, (.c (.int .i64 1))), (2, 1, (.c (.string ⟨#[119]⟩))), (3, 1, (.t 24))], none, []⟩,
    ⟨some 6, .alloc [(.lit (.int .i64 0)), (.lit (.int .i64 0)), (.lit (.string ⟨#[]⟩)), (.lit (.slice none 0 0))], none, []⟩,
    ⟨none, .store 4 (.t 6) (.t 25), none, []⟩] [4, 5, 6])
  (.seq (.region none [⟨some 26, .load true 4 (.t 6), none, []⟩,
    ⟨some 27, .call 18 [(.t 26)], none, []⟩,
    ⟨some 28, .call 15 [(.t 27)], none, []⟩,
    ⟨some 7, .mov (.t 28), none, []⟩] [4, 5, 6, 7])
  (.seq (.region none [⟨some 29, .load true 4 (.t 4), none, []⟩,
    ⟨some 30, .call 8 [(.t 29)], none, []⟩,
    ⟨some 31, .bin .eql (.t 30) (.c (.int .i64 2)), none, []⟩,
    ⟨some 32, .mov (.t 31), none, []⟩,
    ⟨some 33, .load true 4 (.t 5), some (32, true), []⟩,
    ⟨some 34, .call 18 [(.t 33)], some (32, true), []⟩,
    ⟨some 35, .call 12 [(.t 34)], some (32, true), []⟩,
    ⟨some 36, .bin .eql (.t 35) (.c (.int .i64 13)), some (32, true), []⟩,
    ⟨some 37, .pick (.t 32) (.t 36) (.c (.bool false)), none, []⟩,
    ⟨some 38, .mov (.t 37), none, []⟩,
    ⟨some 39, .load true 4 (.t 6), some (38, true), []⟩,
    ⟨some 40, .call 18 [(.t 39)], some (38, true), []⟩,
    ⟨some 41, .call 12 [(.t 40)], some (38, true), []⟩,
    ⟨some 42, .bin .eql (.t 41) (.c (.int .i64 0)), some (38, true), []⟩,
    ⟨some 43, .pick (.t 38) (.t 42) (.c (.bool false)), none, []⟩,
    ⟨some 44, .mov (.t 43), none, []⟩,
    ⟨some 45, .mov (.t 7), some (44, true), []⟩,
    ⟨some 46, .bslice 2 [(.lit (.string ⟨#[]⟩)), (.lit (.string ⟨#[]⟩))] [(0, 1, (.c (.string ⟨#[119]⟩))), (1, 1, (.c (.string ⟨#[118]⟩)))], some (44, true), []⟩,
    ⟨some 47, .call 14 [(.t 45), (.t 46)], some (44, true), []⟩,
    ⟨some 48, .pick (.t 44) (.t 47) (.c (.bool false)), none, []⟩,
    ⟨some 0, .mov (.t 48), none, []⟩] [0])
  (.ret))))))))), false⟩
def F11l0 : PC := (.seq (.seq (.region none [⟨some 10, .mov (.t 5), none, []⟩,
     ⟨some 11, .bin .lss (.t 10) (.c (.int .i64 3)), none, []⟩] [2, 3, 4, 5, 11])
   (.cond (.t 11)
    (.skip)
    (.exit 0)))
   (.seq (.block 1 (.seq (.region none [⟨some 14, .mov (.t 3), none, []⟩,
     ⟨some 15, .call 25 [(.t 14), (.c (.int .i64 3))], none, []⟩,
     ⟨some 16, .bin .lss (.t 15) (.c (.int .i64 2)), none, []⟩] [2, 3, 4, 5, 16])
   (.cond (.t 16)
    (.region none [⟨some 17, .mov (.t 5), none, []⟩,
      ⟨some 18, .mov (.t 3), none, []⟩,
      ⟨some 19, .call 29 [(.t 18), (.c (.int .i64 2))], none, []⟩,
      ⟨some 20, .fieldAddr 0 (.t 4), none, []⟩,
      ⟨some 21, .indexAddrA 3 4 (.t 20) (.t 17), none, []⟩,
      ⟨none, .store 4 (.t 21) (.t 19), none, []⟩] [2, 3, 4, 5])
    (.skip))))
   (.region none [⟨some 12, .mov (.t 5), none, []⟩,
     ⟨some 13, .bin .add (.t 12) (.c (.int .i64 1)), none, []⟩,
     ⟨some 5, .mov (.t 13), none, []⟩] [2, 3, 4, 5])))
theorem run_F11l0 (C : Task → Option Res) (k : Nat) (fr : Fr) (σ : S) : run C k F11l0 fr σ = run C k (.seq (.seq (.region none [⟨some 10, .mov (.t 5), none, []⟩,
     ⟨some 11, .bin .lss (.t 10) (.c (.int .i64 3)), none, []⟩] [2, 3, 4, 5, 11])
   (.cond (.t 11)
    (.skip)
    (.exit 0)))
   (.seq (.block 1 (.seq (.region none [⟨some 14, .mov (.t 3), none, []⟩,
     ⟨some 15, .call 25 [(.t 14), (.c (.int .i64 3))], none, []⟩,
     ⟨some 16, .bin .lss (.t 15) (.c (.int .i64 2)), none, []⟩] [2, 3, 4, 5, 16])
   (.cond (.t 16)
    (.region none [⟨some 17, .mov (.t 5), none, []⟩,
      ⟨some 18, .mov (.t 3), none, []⟩,
      ⟨some 19, .call 29 [(.t 18), (.c (.int .i64 2))], none, []⟩,
      ⟨some 20, .fieldAddr 0 (.t 4), none, []⟩,
      ⟨some 21, .indexAddrA 3 4 (.t 20) (.t 17), none, []⟩,
      ⟨none, .store 4 (.t 21) (.t 19), none, []⟩] [2, 3, 4, 5])
    (.skip))))
   (.region none [⟨some 12, .mov (.t 5), none, []⟩,
     ⟨some 13, .bin .add (.t 12) (.c (.int .i64 1)), none, []⟩,
     ⟨some 5, .mov (.t 13), none, []⟩] [2, 3, 4, 5]))) fr σ := rfl
/-- arenanet/arenanetref14.Tree -/
def F11 : PFun := ⟨1, [.cell 2 true 12],
  .seq (.region none [⟨some 2, .alloc [(.lit (.int .i64 0)), (.lit (.int .i64 0)), (.lit (.string ⟨#[]⟩)), (.lit (.slice none 0 0)), (.lit (.int .i64 0)), (.lit (.int .i64 0)), (.lit (.string ⟨#[]⟩)), (.lit (.slice none 0 0)), (.lit (.int .i64 0)), (.lit (.int .i64 0)), (.lit (.string ⟨#[]⟩)), (.lit (.slice none 0 0))], none, []⟩] [0, 2])
  (.seq (.region none [⟨some 6, .mov (.t 0), none, []⟩,
    ⟨some 7, .call 23 [(.t 6), (.c (.int .i64 150))], none, []⟩,
    ⟨some 8, .build [(.lit (.slice none 0 0)), (.lit (.int .i64 0))] [(0, 1, (.t 7))], none, []⟩,
    ⟨some 9, .box (.t 8), none, []⟩,
    ⟨some 3, .mov (.t 9), none, []⟩] [2, 3])
  (.seq (.region none [⟨some 4, .alloc [(.lit (.int .i64 0)), (.lit (.int .i64 0)), (.lit (.string ⟨#[]⟩)), (.lit (.slice none 0 0)), (.lit (.int .i64 0)), (.lit (.int .i64 0)), (.lit (.string ⟨#[]⟩)), (.lit (.slice none 0 0)), (.lit (.int .i64 0)), (.lit (.int .i64 0)), (.lit (.string ⟨#[]⟩)), (.lit (.slice none 0 0))], none, []⟩] [2, 3, 4])
  (.seq (.seq (.region none [⟨some 5, .mov (.c (.int .i64 0)), none, []⟩] [2, 3, 4, 5])
  (.block 0 (.loop F11l0)))
  (.seq (.region none [⟨some 22, .load true 12 (.t 4), none, []⟩,
    ⟨none, .store 12 (.t 2) (.t 22), none, []⟩] [2])
  (.ret))))), false⟩
def F12l0 : PC := (.seq (.region none [⟨some 10, .bin .lss (.t 9) (.c (.int .i64 3)), none, []⟩] [1, 3, 8, 9, 10])
   (.seq (.cond (.t 10)
    (.skip)
    (.exit 0))
   (.seq (.block 1 (.seq (.region none [⟨some 11, .indexA true 3 4 (.t 8) (.t 9), none, []⟩,
     ⟨some 5, .alloc [(.lit (.int .i64 0)), (.lit (.int .i64 0)), (.lit (.string ⟨#[]⟩)), (.lit (.slice none 0 0))], none, []⟩,
     ⟨none, .store 4 (.t 5) (.t 11), none, []⟩] [1, 3, 5, 8, 9])
   (.seq (.region none [⟨some 12, .fieldAddr 0 (.t 5), none, []⟩,
     ⟨some 13, .load false 1 (.t 12), none, []⟩,
     ⟨some 14, .bin .neq (.t 13) (.c (.int .i64 0)), none, []⟩,
     ⟨some 15, .mov (.t 14), none, []⟩,
     ⟨some 16, .load true 1 (.t 3), some (15, true), []⟩,
     ⟨some 17, .load true 4 (.t 5), some (15, true), []⟩,
     ⟨some 18, .call 30 [(.t 16), (.t 17)], some (15, true), []⟩,
     ⟨some 19, .un .not (.t 18), some (15, true), []⟩,
     ⟨some 20, .pick (.t 15) (.t 19) (.c (.bool false)), none, []⟩] [1, 3, 8, 9, 20])
   (.cond (.t 20)
    (.seq (.region none [⟨some 2, .mov (.c (.int .i64 13)), none, []⟩] [2])
    (.ret))
    (.skip)))))
   (.region none [⟨some 21, .bin .add (.t 9) (.c (.int .i64 1)), none, []⟩,
     ⟨some 9, .mov (.t 21), none, []⟩] [1, 3, 8, 9]))))
theorem run_F12l0 (C : Task → Option Res) (k : Nat) (fr : Fr) (σ : S) : run C k F12l0 fr σ = run C k (.seq (.region none [⟨some 10, .bin .lss (.t 9) (.c (.int .i64 3)), none, []⟩] [1, 3, 8, 9, 10])
   (.seq (.cond (.t 10)
    (.skip)
    (.exit 0))
   (.seq (.block 1 (.seq (.region none [⟨some 11, .indexA true 3 4 (.t 8) (.t 9), none, []⟩,
     ⟨some 5, .alloc [(.lit (.int .i64 0)), (.lit (.int .i64 0)), (.lit (.string ⟨#[]⟩)), (.lit (.slice none 0 0))], none, []⟩,
     ⟨none, .store 4 (.t 5) (.t 11), none, []⟩] [1, 3, 5, 8, 9])
   (.seq (.region none [⟨some 12, .fieldAddr 0 (.t 5), none, []⟩,
     ⟨some 13, .load false 1 (.t 12), none, []⟩,
     ⟨some 14, .bin .neq (.t 13) (.c (.int .i64 0)), none, []⟩,
     ⟨some 15, .mov (.t 14), none, []⟩,
     ⟨some 16, .load true 1 (.t 3), some (15, true), []⟩,
     ⟨some 17, .load true 4 (.t 5), some (15, true), []⟩,
     ⟨some 18, .call 30 [(.t 16), (.t 17)], some (15, true), []⟩,
     ⟨some 19, .un .not (.t 18), some (15, true), []⟩,
     ⟨some 20, .pick (.t 15) (.t 19) (.c (.bool false)), none, []⟩] [1, 3, 8, 9, 20])
   (.cond (.t 20)
    (.seq (.region none [⟨some 2, .mov (.c (.int .i64 13)), none, []⟩] [2])
    (.ret))
    (.skip)))))
   (.region none [⟨some 21, .bin .add (.t 9) (.c (.int .i64 1)), none, []⟩,
     ⟨some 9, .mov (.t 21), none, []⟩] [1, 3, 8, 9])))) fr σ := rfl
/-- arenanet/typecheck.Check -/
def F12 : PFun := ⟨1, [.tmp 2],
  .seq (.region none [⟨some 1, .box (.t 0), none, []⟩,
    ⟨some 2, .mov (.c (.int .i64 0)), none, []⟩] [1])
  (.seq (.region none [⟨some 6, .call 26 [], none, []⟩,
    ⟨some 3, .alloc [(.lit (.map none))], none, []⟩,
    ⟨none, .store 1 (.t 3) (.t 6), none, []⟩] [1, 3])
  (.seq (.seq (.region none [⟨some 7, .fieldAddr 0 (.t 1), none, []⟩,
    ⟨some 8, .load true 12 (.t 7), none, []⟩,
    ⟨some 9, .mov (.c (.int .i64 0)), none, []⟩] [1, 3, 8, 9])
  (.block 0 (.loop F12l0)))
  (.seq (.seq (.region none [⟨some 22, .load true 12 (.t 1), none, []⟩,
    ⟨some 23, .call 15 [(.t 22)], none, []⟩,
    ⟨some 24, .len .sl (.t 23), none, []⟩,
    ⟨some 25, .bin .gtr (.t 24) (.c (.int .i64 16)), none, []⟩] [25])
  (.cond (.t 25)
   (.seq (.region none [⟨some 2, .mov (.c (.int .i64 2)), none, []⟩] [2])
   (.ret))
   (.skip)))
  (.seq (.region none [⟨some 2, .mov (.c (.int .i64 0)), none, []⟩] [2])
  (.ret))))), false⟩
def F13l0 : PC := (.seq (.seq (.region none [⟨some 5, .mov (.t 3), none, []⟩,
     ⟨some 6, .bin .lss (.t 5) (.c (.int .i64 3)), none, []⟩] [1, 3, 6])
   (.cond (.t 6)
    (.skip)
    (.exit 0)))
   (.seq (.block 1 (.seq (.region none [⟨some 9, .mov (.t 3), none, []⟩,
     ⟨some 10, .fieldAddr 0 (.t 1), none, []⟩,
     ⟨some 11, .indexAddrA 3 4 (.t 10) (.t 9), none, []⟩,
     ⟨some 12, .fieldAddr 0 (.t 11), none, []⟩,
     ⟨some 13, .load false 1 (.t 12), none, []⟩,
     ⟨some 14, .bin .neq (.t 13) (.c (.int .i64 0)), none, []⟩] [1, 3, 14])
   (.cond (.t 14)
    (.seq (.region none [⟨some 15, .mov (.t 3), none, []⟩,
      ⟨some 16, .fieldAddr 0 (.t 1), none, []⟩,
      ⟨some 17, .indexAddrA 3 4 (.t 16) (.t 15), none, []⟩,
      ⟨some 18, .load true 4 (.t 17), none, []⟩,
      ⟨some 19, .call 31 [(.t 18)], none, []⟩,
      ⟨some 4, .mov (.t 19), none, []⟩] [1, 3, 4])
    (.seq (.region none [⟨some 20, .mov (.t 4), none, []⟩,
      ⟨some 21, .un .not (.t 20), none, []⟩] [1, 3, 21])
    (.cond (.t 21)
     (.seq (.region none [⟨some 2, .mov (.c (.int .i64 13)), none, []⟩] [2])
     (.ret))
     (.skip))))
    (.skip))))
   (.region none [⟨some 7, .mov (.t 3), none, []⟩,
     ⟨some 8, .bin .add (.t 7) (.c (.int .i64 1)), none, []⟩,
     ⟨some 3, .mov (.t 8), none, []⟩] [1, 3])))
theorem run_F13l0 (C : Task → Option Res) (k : Nat) (fr : Fr) (σ : S) : run C k F13l0 fr σ = run C k (.seq (.seq (.region none [⟨some 5, .mov (.t 3), none, []⟩,
     ⟨some 6, .bin .lss (.t 5) (.c (.int .i64 3)), none, []⟩] [1, 3, 6])
   (.cond (.t 6)
    (.skip)
    (.exit 0)))
   (.seq (.block 1 (.seq (.region none [⟨some 9, .mov (.t 3), none, []⟩,
     ⟨some 10, .fieldAddr 0 (.t 1), none, []⟩,
     ⟨some 11, .indexAddrA 3 4 (.t 10) (.t 9), none, []⟩,
     ⟨some 12, .fieldAddr 0 (.t 11), none, []⟩,
     ⟨some 13, .load false 1 (.t 12), none, []⟩,
     ⟨some 14, .bin .neq (.t 13) (.c (.int .i64 0)), none, []⟩] [1, 3, 14])
   (.cond (.t 14)
    (.seq (.region none [⟨some 15, .mov (.t 3), none, []⟩,
      ⟨some 16, .fieldAddr 0 (.t 1), none, []⟩,
      ⟨some 17, .indexAddrA 3 4 (.t 16) (.t 15), none, []⟩,
      ⟨some 18, .load true 4 (.t 17), none, []⟩,
      ⟨some 19, .call 31 [(.t 18)], none, []⟩,
      ⟨some 4, .mov (.t 19), none, []⟩] [1, 3, 4])
    (.seq (.region none [⟨some 20, .mov (.t 4), none, []⟩,
      ⟨some 21, .un .not (.t 20), none, []⟩] [1, 3, 21])
    (.cond (.t 21)
     (.seq (.region none [⟨some 2, .mov (.c (.int .i64 13)), none, []⟩] [2])
     (.ret))
     (.skip))))
    (.skip))))
   (.region none [⟨some 7, .mov (.t 3), none, []⟩,
     ⟨some 8, .bin .add (.t 7) (.c (.int .i64 1)), none, []⟩,
     ⟨some 3, .mov (.t 8), none, []⟩] [1, 3]))) fr σ := rfl
/-- arenanet/arenanetref14.Check -/
def F13 : PFun := ⟨1, [.tmp 2],
  .seq (.region none [⟨some 1, .box (.t 0), none, []⟩,
    ⟨some 2, .mov (.c (.int .i64 0)), none, []⟩] [1])
  (.seq (.seq (.region none [⟨some 3, .mov (.c (.int .i64 0)), none, []⟩] [1, 3])
  (.block 0 (.loop F13l0)))
  (.seq (.seq (.region none [⟨some 22, .load true 12 (.t 1), none, []⟩,
    ⟨some 23, .call 16 [(.t 22)], none, []⟩,
    ⟨some 24, .len .sl (.t 23), none, []⟩,
    ⟨some 25, .bin .gtr (.t 24) (.c (.int .i64 16)), none, []⟩] [25])
  (.cond (.t 25)
   (.seq (.region none [⟨some 2, .mov (.c (.int .i64 2)), none, []⟩] [2])
   (.ret))
   (.skip)))
  (.seq (.region none [⟨some 2, .mov (.c (.int .i64 0)), none, []⟩] [2])
  (.ret)))), false⟩
def F14l0 : PC := (.seq (.seq (.region none [⟨some 11, .mov (.t 5), none, []⟩,
     ⟨some 12, .mov (.t 0), none, []⟩,
     ⟨some 13, .len .sl (.t 12), none, []⟩,
     ⟨some 14, .bin .lss (.t 11) (.t 13), none, []⟩] [0, 1, 5, 14])
   (.cond (.t 14)
    (.skip)
    (.exit 0)))
   (.seq (.block 1 (.seq (.region (some []) [⟨some 17, .mov (.t 0), none, []⟩,
     ⟨some 18, .mov (.t 5), none, []⟩,
     ⟨some 19, .indexAddr 1 (.t 17) (.t 18), none, []⟩,
     ⟨some 20, .load false 1 (.t 19), none, []⟩,
     ⟨some 21, .mov (.t 1), none, []⟩,
     ⟨some 22, .mov (.t 5), none, []⟩,
     ⟨some 23, .indexAddr 1 (.t 21) (.t 22), none, []⟩,
     ⟨some 24, .load false 1 (.t 23), none, []⟩,
     ⟨some 25, .bin .neq (.t 20) (.t 24), none, []⟩] [0, 1, 5, 25])
   (.cond (.t 25)
    (.seq (.region none [⟨some 4, .mov (.c (.bool false)), none, []⟩] [4])
    (.ret))
    (.skip))))
   (.region none [⟨some 15, .mov (.t 5), none, []⟩,
     ⟨some 16, .bin .add (.t 15) (.c (.int .i64 1)), none, []⟩,
     ⟨some 5, .mov (.t 16), none, []⟩] [0, 1, 5])))
theorem run_F14l0 (C : Task → Option Res) (k : Nat) (fr : Fr) (σ : S) : run C k F14l0 fr σ = run C k (.seq (.seq (.region none [⟨some 11, .mov (.t 5), none, []⟩,
     ⟨some 12, .mov (.t 0), none, []⟩,
     ⟨some 13, .len .sl (.t 12), none, []⟩,
     ⟨some 14, .bin .lss (.t 11) (.t 13), none, []⟩] [0, 1, 5, 14])
   (.cond (.t 14)
    (.skip)
    (.exit 0)))
   (.seq (.block 1 (.seq (.region (some []) [⟨some 17, .mov (.t 0), none, []⟩,
     ⟨some 18, .mov (.t 5), none, []⟩,
     ⟨some 19, .indexAddr 1 (.t 17) (.t 18), none, []⟩,
     ⟨some 20, .load false 1 (.t 19), none, []⟩,
     ⟨some 21, .mov (.t 1), none, []⟩,
     ⟨some 22, .mov (.t 5), none, []⟩,
     ⟨some 23, .indexAddr 1 (.t 21) (.t 22), none, []⟩,
     ⟨some 24, .load false 1 (.t 23), none, []⟩,
     ⟨some 25, .bin .neq (.t 20) (.t 24), none, []⟩] [0, 1, 5, 25])
   (.cond (.t 25)
    (.seq (.region none [⟨some 4, .mov (.c (.bool false)), none, []⟩] [4])
    (.ret))
    (.skip))))
   (.region none [⟨some 15, .mov (.t 5), none, []⟩,
     ⟨some 16, .bin .add (.t 15) (.c (.int .i64 1)), none, []⟩,
     ⟨some 5, .mov (.t 16), none, []⟩] [0, 1, 5]))) fr σ := rfl
/-- arenanet/arenanetref01.SameTexts -/
def F14 : PFun := ⟨2, [.tmp 4],
  .seq (.region none [⟨some 4, .mov (.c (.bool false)), none, []⟩] [0, 1])
  (.seq (.seq (.region none [⟨some 6, .mov (.t 0), none, []⟩,
    ⟨some 7, .len .sl (.t 6), none, []⟩,
    ⟨some 8, .mov (.t 1), none, []⟩,
    ⟨some 9, .len .sl (.t 8), none, []⟩,
    ⟨some 10, .bin .neq (.t 7) (.t 9), none, []⟩] [0, 1, 10])
  (.cond (.t 10)
   (.seq (.region none [⟨some 4, .mov (.c (.bool false)), none, []⟩] [4])
   (.ret))
   (.skip)))
  (.seq (.seq (.region none [⟨some 5, .mov (.c (.int .i64 0)), none, []⟩] [0, 1, 5])
  (.block 0 (.loop F14l0)))
  (.seq (.region none [⟨some 4, .mov (.c (.bool true)), none, []⟩] [4])
  (.ret)))), false⟩
def F15a0 : PC := (.region none [⟨some 7, .alloc [(.lit (.int .i64 0)), (.lit (.int .i64 0)), (.lit (.string ⟨#[]⟩)), (.lit (.slice none 0 0))], none, []⟩,
      ⟨none, .store 4 (.t 7) (.t 18), none, []⟩] [3, 4, 7])
theorem run_F15a0 (C : Task → Option Res) (k : Nat) (fr : Fr) (σ : S) : run C k F15a0 fr σ = run C k (.region none [⟨some 7, .alloc [(.lit (.int .i64 0)), (.lit (.int .i64 0)), (.lit (.string ⟨#[]⟩)), (.lit (.slice none 0 0))], none, []⟩,
      ⟨none, .store 4 (.t 7) (.t 18), none, []⟩] [3, 4, 7]) fr σ := rfl
def F15b0 : PC := (.block 3 (.seq (.seq (.region none [⟨some 19, .fieldAddr 0 (.t 7), none, []⟩,
      ⟨some 20, .load false 1 (.t 19), none, []⟩,
      ⟨some 21, .bin .neq (.t 20) (.c (.int .i64 1)), none, []⟩,
      ⟨some 22, .mov (.t 21), none, []⟩,
      ⟨some 23, .fieldAddr 0 (.t 7), some (22, true), []⟩,
      ⟨some 24, .load false 1 (.t 23), some (22, true), []⟩,
      ⟨some 25, .bin .neq (.t 24) (.c (.int .i64 10)), some (22, true), []⟩,
      ⟨some 26, .pick (.t 22) (.t 25) (.c (.bool false)), none, []⟩] [3, 4, 7, 26])
    (.cond (.t 26)
     (.exit 3)
     (.skip)))
    (.seq (.region none [⟨some 28, .load false 1 (.t 4), none, []⟩,
      ⟨some 29, .fieldAddr 2 (.t 7), none, []⟩,
      ⟨some 30, .load false 1 (.t 29), none, []⟩,
      ⟨some 31, .lookup .s (.lit (.int .i64 0)) (.t 28) (.t 30) true, none, []⟩,
      ⟨some 27, .mov (.t 31), none, []⟩,
      ⟨some 32, .extract (.t 27) 0, none, []⟩,
      ⟨some 33, .extract (.t 27) 1, none, []⟩,
      ⟨some 8, .mov (.t 32), none, []⟩,
      ⟨some 9, .mov (.t 33), none, []⟩] [3, 4, 7, 9])
    (.seq (.region none [⟨some 34, .mov (.t 9), none, []⟩,
      ⟨some 35, .un .not (.t 34), none, []⟩] [3, 4, 7, 35])
    (.cond (.t 35)
     (.seq (.region none [⟨some 36, .load false 1 (.t 4), none, []⟩,
       ⟨some 37, .fieldAddr 2 (.t 7), none, []⟩,
       ⟨some 38, .load false 1 (.t 37), none, []⟩,
       ⟨some 39, .load false 1 (.t 3), none, []⟩,
       ⟨some 40, .len .sl (.t 39), none, []⟩,
       ⟨none, .mapset .s (.t 36) (.t 38) (.t 40), none, []⟩] [3, 7])
     (.region none [⟨some 41, .load false 1 (.t 3), none, []⟩,
       ⟨some 42, .fieldAddr 2 (.t 7), none, []⟩,
       ⟨some 43, .load false 1 (.t 42), none, []⟩,
       ⟨some 44, .bslice 1 [(.lit (.string ⟨#[]⟩))] [(0, 1, (.t 43))], none, []⟩,
       ⟨some 45, .append 1 16 (.t 41) (.t 44), none, []⟩,
       ⟨none, .store 1 (.t 3) (.t 45), none, []⟩] []))
     (.skip))))))
theorem run_F15b0 (C : Task → Option Res) (k : Nat) (fr : Fr) (σ : S) : run C k F15b0 fr σ = run C k (.block 3 (.seq (.seq (.region none [⟨some 19, .fieldAddr 0 (.t 7), none, []⟩,
      ⟨some 20, .load false 1 (.t 19), none, []⟩,
      ⟨some 21, .bin .neq (.t 20) (.c (.int .i64 1)), none, []⟩,
      ⟨some 22, .mov (.t 21), none, []⟩,
      ⟨some 23, .fieldAddr 0 (.t 7), some (22, true), []⟩,
      ⟨some 24, .load false 1 (.t 23), some (22, true), []⟩,
      ⟨some 25, .bin .neq (.t 24) (.c (.int .i64 10)), some (22, true), []⟩,
      ⟨some 26, .pick (.t 22) (.t 25) (.c (.bool false)), none, []⟩] [3, 4, 7, 26])
    (.cond (.t 26)
     (.exit 3)
     (.skip)))
    (.seq (.region none [⟨some 28, .load false 1 (.t 4), none, []⟩,
      ⟨some 29, .fieldAddr 2 (.t 7), none, []⟩,
      ⟨some 30, .load false 1 (.t 29), none, []⟩,
      ⟨some 31, .lookup .s (.lit (.int .i64 0)) (.t 28) (.t 30) true, none, []⟩,
      ⟨some 27, .mov (.t 31), none, []⟩,
      ⟨some 32, .extract (.t 27) 0, none, []⟩,
      ⟨some 33, .extract (.t 27) 1, none, []⟩,
      ⟨some 8, .mov (.t 32), none, []⟩,
      ⟨some 9, .mov (.t 33), none, []⟩] [3, 4, 7, 9])
    (.seq (.region none [⟨some 34, .mov (.t 9), none, []⟩,
      ⟨some 35, .un .not (.t 34), none, []⟩] [3, 4, 7, 35])
    (.cond (.t 35)
     (.seq (.region none [⟨some 36, .load false 1 (.t 4), none, []⟩,
       ⟨some 37, .fieldAddr 2 (.t 7), none, []⟩,
       ⟨some 38, .load false 1 (.t 37), none, []⟩,
       ⟨some 39, .load false 1 (.t 3), none, []⟩,
       ⟨some 40, .len .sl (.t 39), none, []⟩,
       ⟨none, .mapset .s (.t 36) (.t 38) (.t 40), none, []⟩] [3, 7])
     (.region none [⟨some 41, .load false 1 (.t 3), none, []⟩,
       ⟨some 42, .fieldAddr 2 (.t 7), none, []⟩,
       ⟨some 43, .load false 1 (.t 42), none, []⟩,
       ⟨some 44, .bslice 1 [(.lit (.string ⟨#[]⟩))] [(0, 1, (.t 43))], none, []⟩,
       ⟨some 45, .append 1 16 (.t 41) (.t 44), none, []⟩,
       ⟨none, .store 1 (.t 3) (.t 45), none, []⟩] []))
     (.skip)))))) fr σ := rfl
def F15l0 : PC := (.seq (.region none [⟨some 14, .bin .lss (.t 13) (.c (.int .i64 3)), none, []⟩] [3, 4, 12, 13, 14])
   (.seq (.cond (.t 14)
    (.skip)
    (.exit 0))
   (.seq (.block 1 (.seq (.region none [⟨some 15, .indexA true 3 4 (.t 12) (.t 13), none, []⟩,
     ⟨some 6, .alloc [(.lit (.int .i64 0)), (.lit (.int .i64 0)), (.lit (.string ⟨#[]⟩)), (.lit (.slice none 0 0))], none, []⟩,
     ⟨none, .store 4 (.t 6) (.t 15), none, []⟩] [3, 4, 6, 12, 13])
   (.seq (.region none [⟨some 16, .load true 4 (.t 6), none, []⟩,
     ⟨some 17, .call 32 [(.t 16)], none, []⟩] [3, 4, 12, 13, 17])
   (.block 2 (.range (.t 17) [18] F15a0 F15b0)))))
   (.region none [⟨some 46, .bin .add (.t 13) (.c (.int .i64 1)), none, []⟩,
     ⟨some 13, .mov (.t 46), none, []⟩] [3, 4, 12, 13]))))
theorem run_F15l0 (C : Task → Option Res) (k : Nat) (fr : Fr) (σ : S) : run C k F15l0 fr σ = run C k (.seq (.region none [⟨some 14, .bin .lss (.t 13) (.c (.int .i64 3)), none, []⟩] [3, 4, 12, 13, 14])
   (.seq (.cond (.t 14)
    (.skip)
    (.exit 0))
   (.seq (.block 1 (.seq (.region none [⟨some 15, .indexA true 3 4 (.t 12) (.t 13), none, []⟩,
     ⟨some 6, .alloc [(.lit (.int .i64 0)), (.lit (.int .i64 0)), (.lit (.string ⟨#[]⟩)), (.lit (.slice none 0 0))], none, []⟩,
     ⟨none, .store 4 (.t 6) (.t 15), none, []⟩] [3, 4, 6, 12, 13])
   (.seq (.region none [⟨some 16, .load true 4 (.t 6), none, []⟩,
     ⟨some 17, .call 32 [(.t 16)], none, []⟩] [3, 4, 12, 13, 17])
   (.block 2 (.range (.t 17) [18] F15a0 F15b0)))))
   (.region none [⟨some 46, .bin .add (.t 13) (.c (.int .i64 1)), none, []⟩,
     ⟨some 13, .mov (.t 46), none, []⟩] [3, 4, 12, 13])))) fr σ := rfl
theorem flat_F15a0 : F15a0.flat = true := rfl
theorem flat_F15b0 : F15b0.flat = true := rfl
/-- arenanet/typecheck.Variables -/
def F15 : PFun := ⟨1, [.tmp 2],
  .seq (.region none [⟨some 1, .box (.t 0), none, []⟩,
    ⟨some 2, .mov (.c (.slice none 0 0)), none, []⟩] [1])
  (.seq (.region none [⟨some 3, .alloc [(.lit (.slice none 0 0))], none, []⟩] [1, 3])
  (.seq (.region none [⟨some 10, .mkmap, none, []⟩,
    ⟨some 4, .alloc [(.lit (.map none))], none, []⟩,
    ⟨none, .store 1 (.t 4) (.t 10), none, []⟩] [1, 3, 4])
  (.seq (.seq (.region none [⟨some 11, .fieldAddr 0 (.t 1), none, []⟩,
    ⟨some 12, .load true 12 (.t 11), none, []⟩,
    ⟨some 13, .mov (.c (.int .i64 0)), none, []⟩] [3, 4, 12, 13])
  (.block 0 (.loop F15l0)))
  (.seq (.region none [⟨some 47, .load false 1 (.t 3), none, []⟩,
    ⟨some 2, .mov (.t 47), none, []⟩] [2])
  (.ret))))), false⟩
def F16l0 : PC := (.seq (.seq (.region none [⟨some 5, .mov (.t 4), none, []⟩,
     ⟨some 6, .bin .lss (.t 5) (.c (.int .i64 3)), none, []⟩] [1, 3, 4, 6])
   (.cond (.t 6)
    (.skip)
    (.exit 0)))
   (.seq (.block 1 (.region none [⟨some 9, .mov (.t 4), none, []⟩,
     ⟨some 10, .fieldAddr 0 (.t 1), none, []⟩,
     ⟨some 11, .indexAddrA 3 4 (.t 10) (.t 9), none, []⟩,
     ⟨some 12, .load true 4 (.t 11), none, []⟩,
     ⟨some 13, .mov (.t 3), none, []⟩,
     ⟨some 14, .call 33 [(.t 12), (.t 13)], none, []⟩,
     ⟨some 3, .mov (.t 14), none, []⟩] [1, 3, 4]))
   (.region none [⟨some 7, .mov (.t 4), none, []⟩,
     ⟨some 8, .bin .add (.t 7) (.c (.int .i64 1)), none, []⟩,
     ⟨some 4, .mov (.t 8), none, []⟩] [1, 3, 4])))
theorem run_F16l0 (C : Task → Option Res) (k : Nat) (fr : Fr) (σ : S) : run C k F16l0 fr σ = run C k (.seq (.seq (.region none [⟨some 5, .mov (.t 4), none, []⟩,
     ⟨some 6, .bin .lss (.t 5) (.c (.int .i64 3)), none, []⟩] [1, 3, 4, 6])
   (.cond (.t 6)
    (.skip)
    (.exit 0)))
   (.seq (.block 1 (.region none [⟨some 9, .mov (.t 4), none, []⟩,
     ⟨some 10, .fieldAddr 0 (.t 1), none, []⟩,
     ⟨some 11, .indexAddrA 3 4 (.t 10) (.t 9), none, []⟩,
     ⟨some 12, .load true 4 (.t 11), none, []⟩,
     ⟨some 13, .mov (.t 3), none, []⟩,
     ⟨some 14, .call 33 [(.t 12), (.t 13)], none, []⟩,
     ⟨some 3, .mov (.t 14), none, []⟩] [1, 3, 4]))
   (.region none [⟨some 7, .mov (.t 4), none, []⟩,
     ⟨some 8, .bin .add (.t 7) (.c (.int .i64 1)), none, []⟩,
     ⟨some 4, .mov (.t 8), none, []⟩] [1, 3, 4]))) fr σ := rfl
/-- arenanet/arenanetref14.Variables -/
def F16 : PFun := ⟨1, [.tmp 2],
  .seq (.region none [⟨some 1, .box (.t 0), none, []⟩,
    ⟨some 2, .mov (.c (.slice none 0 0)), none, []⟩] [1])
  (.seq (.region none [⟨some 3, .mov (.c (.slice none 0 0)), none, []⟩] [1, 3])
  (.seq (.seq (.region none [⟨some 4, .mov (.c (.int .i64 0)), none, []⟩] [1, 3, 4])
  (.block 0 (.loop F16l0)))
  (.seq (.region none [⟨some 15, .mov (.t 3), none, []⟩,
    ⟨some 2, .mov (.t 15), none, []⟩] [2])
  (.ret)))), false⟩
/-- arenanet/arenanetref01.Around -/
def F17 : PFun := ⟨2, [.tmp 4],
  .seq (.region none [⟨some 4, .mov (.c (.int .i64 0)), none, []⟩] [0, 1])
  (.seq (.seq (.region none [⟨some 5, .mov (.t 0), none, []⟩,
    ⟨some 6, .bin .lss (.t 5) (.c (.int .i64 0)), none, []⟩] [0, 1, 6])
  (.cond (.t 6)
   (.region none [⟨some 7, .mov (.t 0), none, []⟩,
     ⟨some 8, .bin .add (.t 7) (.c (.int .i64 1)), none, []⟩,
     ⟨some 9, .un .neg (.t 8), none, []⟩,
     ⟨some 0, .mov (.t 9), none, []⟩] [0, 1])
   (.skip)))
  (.seq (.region none [⟨some 10, .mov (.t 0), none, []⟩,
    ⟨some 11, .mov (.t 1), none, []⟩,
    ⟨some 12, .bin .rem (.t 10) (.t 11), none, []⟩,
    ⟨some 4, .mov (.t 12), none, []⟩] [4])
  (.ret))), false⟩
/-- arenanet/arenanetref14.Single -/
def F18 : PFun := ⟨1, [.cell 2 true 12],
  .seq (.region none [⟨some 1, .box (.t 0), none, []⟩,
    ⟨some 2, .alloc [(.lit (.int .i64 0)), (.lit (.int .i64 0)), (.lit (.string ⟨#[]⟩)), (.lit (.slice none 0 0)), (.lit (.int .i64 0)), (.lit (.int .i64 0)), (.lit (.string ⟨#[]⟩)), (.lit (.slice none 0 0)), (.lit (.int .i64 0)), (.lit (.int .i64 0)), (.lit (.string ⟨#[]⟩)), (.lit (.slice none 0 0))], none, []⟩] [1, 2])
  (.seq (.region none [⟨some 3, .alloc [(.lit (.int .i64 0)), (.lit (.int .i64 0)), (.lit (.string ⟨#[]⟩)), (.lit (.slice none 0 0)), (.lit (.int .i64 0)), (.lit (.int .i64 0)), (.lit (.string ⟨#[]⟩)), (.lit (.slice none 0 0)), (.lit (.int .i64 0)), (.lit (.int .i64 0)), (.lit (.string ⟨#[]⟩)), (.lit (.slice none 0 0))], none, []⟩] [1, 2, 3])
  (.seq (.region none [⟨some 4, .load true 4 (.t 1), none, []⟩,
    ⟨some 5, .bslice 1 [(.lit (.int .i64 0)), (.lit (.int .i64 0)), (.lit (.string ⟨#[]⟩)), (.lit (.slice none 0 0))] [(0, 4, (.t 4))], none, []⟩,
    ⟨some 6, .build [(.lit (.int .i64 0)), (.lit (.int .i64 0)), (.lit (.string ⟨#[]⟩)), (.lit (.slice none 0 0))] [(0, 1, (.c (.int .i64 7))), (3, 1, (.t 5))], none, []⟩,
    ⟨some 7, .fieldAddr 0 (.t 3), none, []⟩,
    ⟨some 8, .indexAddrA 3 4 (.t 7) (.c (.int .i64 1)), none, []⟩,
    ⟨none, .store 4 (.t 8) (.t 6), none, []⟩] [2, 3])
  (.seq (.region none [⟨some 9, .load true 12 (.t 3), none, []⟩,
    ⟨none, .store 12 (.t 2) (.t 9), none, []⟩] [2])
  (.ret)))), false⟩
def F19l0 : PC := (.seq (.seq (.region none [⟨some 31, .mov (.t 13), none, []⟩,
     ⟨some 32, .fieldAddr 3 (.t 4), none, []⟩,
     ⟨some 33, .load false 1 (.t 32), none, []⟩,
     ⟨some 34, .len .sl (.t 33), none, []⟩,
     ⟨some 35, .bin .lss (.t 31) (.t 34), none, []⟩] [1, 2, 4, 7, 8, 11, 12, 13, 35])
   (.cond (.t 35)
    (.skip)
    (.exit 0)))
   (.seq (.block 1 (.seq (.region (some [(77, [(.lit (.int .i64 0)), (.lit (.int .i64 0)), (.lit (.string ⟨#[]⟩)), (.lit (.slice none 0 0))])]) [⟨some 39, .fieldAddr 3 (.t 4), none, []⟩,
     ⟨some 40, .load false 1 (.t 39), none, []⟩,
     ⟨some 41, .mov (.t 13), none, []⟩,
     ⟨some 42, .indexAddr 4 (.t 40) (.t 41), none, []⟩,
     ⟨some 43, .load true 4 (.t 42), none, []⟩,
     ⟨some 44, .mov (.t 1), none, []⟩,
     ⟨some 45, .mov (.t 2), none, []⟩,
     ⟨some 46, .mov (.t 11), none, []⟩,
     ⟨some 47, .bin .sub (.t 45) (.t 46), none, []⟩,
     ⟨some 48, .load true 4 (.t 7), none, []⟩,
     ⟨some 49, .call 19 [(.t 43), (.t 44), (.t 47), (.t 48)], none, []⟩,
     ⟨some 38, .mov (.t 49), none, []⟩,
     ⟨some 50, .extract (.t 38) 0, none, []⟩,
     ⟨some 51, .extract (.t 38) 1, none, []⟩,
     ⟨some 14, .fill 77, none, [10]⟩,
     ⟨none, .store 4 (.t 14) (.t 50), none, []⟩,
     ⟨some 15, .mov (.t 51), none, []⟩] [1, 2, 4, 7, 8, 11, 12, 13, 14, 15])
   (.seq (.region none [⟨some 52, .fieldAddr 3 (.t 12), none, []⟩,
     ⟨some 53, .load false 1 (.t 52), none, []⟩,
     ⟨some 54, .load true 4 (.t 14), none, []⟩,
     ⟨some 55, .bslice 1 [(.lit (.int .i64 0)), (.lit (.int .i64 0)), (.lit (.string ⟨#[]⟩)), (.lit (.slice none 0 0))] [(0, 4, (.t 54))], none, []⟩,
     ⟨some 56, .append 4 56 (.t 53) (.t 55), none, []⟩,
     ⟨some 57, .fieldAddr 3 (.t 12), none, []⟩,
     ⟨none, .store 1 (.t 57) (.t 56), none, []⟩] [1, 2, 4, 7, 8, 11, 12, 13, 15])
   (.region none [⟨some 58, .mov (.t 11), none, []⟩,
     ⟨some 59, .mov (.t 15), none, []⟩,
     ⟨some 60, .bin .add (.t 58) (.t 59), none, []⟩,
     ⟨some 11, .mov (.t 60), none, []⟩] [1, 2, 4, 7, 8, 11, 12, 13]))))
   (.region none [⟨some 36, .mov (.t 13), none, []⟩,
     ⟨some 37, .bin .add (.t 36) (.c (.int .i64 1)), none, []⟩,
     ⟨some 13, .mov (.t 37), none, []⟩] [1, 2, 4, 7, 8, 11, 12, 13])))
theorem run_F19l0 (C : Task → Option Res) (k : Nat) (fr : Fr) (σ : S) : run C k F19l0 fr σ = run C k (.seq (.seq (.region none [⟨some 31, .mov (.t 13), none, []⟩,
     ⟨some 32, .fieldAddr 3 (.t 4), none, []⟩,
     ⟨some 33, .load false 1 (.t 32), none, []⟩,
     ⟨some 34, .len .sl (.t 33), none, []⟩,
     ⟨some 35, .bin .lss (.t 31) (.t 34), none, []⟩] [1, 2, 4, 7, 8, 11, 12, 13, 35])
   (.cond (.t 35)
    (.skip)
    (.exit 0)))
   (.seq (.block 1 (.seq (.region (some [(77, [(.lit (.int .i64 0)), (.lit (.int .i64 0)), (.lit (.string ⟨#[]⟩)), (.lit (.slice none 0 0))])]) [⟨some 39, .fieldAddr 3 (.t 4), none, []⟩,
     ⟨some 40, .load false 1 (.t 39), none, []⟩,
     ⟨some 41, .mov (.t 13), none, []⟩,
     ⟨some 42, .indexAddr 4 (.t 40) (.t 41), none, []⟩,
     ⟨some 43, .load true 4 (.t 42), none, []⟩,
     ⟨some 44, .mov (.t 1), none, []⟩,
     ⟨some 45, .mov (.t 2), none, []⟩,
     ⟨some 46, .mov (.t 11), none, []⟩,
     ⟨some 47, .bin .sub (.t 45) (.t 46), none, []⟩,
     ⟨some 48, .load true 4 (.t 7), none, []⟩,
     ⟨some 49, .call 19 [(.t 43), (.t 44), (.t 47), (.t 48)], none, []⟩,
     ⟨some 38, .mov (.t 49), none, []⟩,
     ⟨some 50, .extract (.t 38) 0, none, []⟩,
     ⟨some 51, .extract (.t 38) 1, none, []⟩,
     ⟨some 14, .fill 77, none, [10]⟩,
     ⟨none, .store 4 (.t 14) (.t 50), none, []⟩,
     ⟨some 15, .mov (.t 51), none, []⟩] [1, 2, 4, 7, 8, 11, 12, 13, 14, 15])
   (.seq (.region none [⟨some 52, .fieldAddr 3 (.t 12), none, []⟩,
     ⟨some 53, .load false 1 (.t 52), none, []⟩,
     ⟨some 54, .load true 4 (.t 14), none, []⟩,
     ⟨some 55, .bslice 1 [(.lit (.int .i64 0)), (.lit (.int .i64 0)), (.lit (.string ⟨#[]⟩)), (.lit (.slice none 0 0))] [(0, 4, (.t 54))], none, []⟩,
     ⟨some 56, .append 4 56 (.t 53) (.t 55), none, []⟩,
     ⟨some 57, .fieldAddr 3 (.t 12), none, []⟩,
     ⟨none, .store 1 (.t 57) (.t 56), none, []⟩] [1, 2, 4, 7, 8, 11, 12, 13, 15])
   (.region none [⟨some 58, .mov (.t 11), none, []⟩,
     ⟨some 59, .mov (.t 15), none, []⟩,
     ⟨some 60, .bin .add (.t 58) (.t 59), none, []⟩,
     ⟨some 11, .mov (.t 60), none, []⟩] [1, 2, 4, 7, 8, 11, 12, 13]))))
   (.region none [⟨some 36, .mov (.t 13), none, []⟩,
     ⟨some 37, .bin .add (.t 36) (.c (.int .i64 1)), none, []⟩,
     ⟨some 13, .mov (.t 37), none, []⟩] [1, 2, 4, 7, 8, 11, 12, 13]))) fr σ := rfl
/-- arenanet/arenanetref14.Replace -/
def F19 : PFun := ⟨4, [.cell 8 true 4, .tmp 9],
  .seq (.region none [⟨some 4, .box (.t 0), none, []⟩,
    ⟨some 7, .box (.t 3), none, []⟩,
    ⟨some 8, .alloc [(.lit (.int .i64 0)), (.lit (.int .i64 0)), (.lit (.string ⟨#[]⟩)), (.lit (.slice none 0 0))], none, []⟩,
    ⟨some 9, .mov (.c (.int .i64 0)), none, []⟩] [1, 2, 4, 7, 8])
  (.seq (.region none [⟨some 16, .load true 4 (.t 4), none, []⟩,
    ⟨some 17, .call 9 [(.t 16)], none, []⟩,
    ⟨some 10, .mov (.t 17), none, []⟩] [1, 2, 4, 7, 8, 10])
  (.seq (.region none [⟨some 11, .mov (.c (.int .i64 0)), none, []⟩] [1, 2, 4, 7, 8, 10, 11])
  (.seq (.seq (.region none [⟨some 18, .mov (.t 10), none, []⟩,
    ⟨some 19, .mov (.t 1), none, []⟩,
    ⟨some 20, .bin .eql (.t 18) (.t 19), none, []⟩] [1, 2, 4, 7, 8, 11, 20])
  (.cond (.t 20)
   (.seq (.region none [⟨some 11, .mov (.c (.int .i64 1)), none, []⟩] [1, 2, 4, 7, 8, 11])
   (.seq (.region none [⟨some 21, .mov (.t 2), none, []⟩,
     ⟨some 22, .bin .eql (.t 21) (.c (.int .i64 0)), none, []⟩] [1, 2, 4, 7, 8, 11, 22])
   (.cond (.t 22)
    (.seq (.region none [⟨some 23, .load true 4 (.t 7), none, []⟩,
      ⟨none, .store 4 (.t 8) (.t 23), none, []⟩,
      ⟨some 9, .mov (.c (.int .i64 1)), none, []⟩] [8, 9])
    (.ret))
    (.skip))))
   (.skip)))
  (.seq (.region none [⟨some 24, .fieldAddr 0 (.t 4), none, []⟩,
    ⟨some 25, .load false 1 (.t 24), none, []⟩,
    ⟨some 26, .fieldAddr 1 (.t 4), none, []⟩,
    ⟨some 27, .load false 1 (.t 26), none, []⟩,
    ⟨some 28, .fieldAddr 2 (.t 4), none, []⟩,
    ⟨some 29, .load false 1 (.t 28), none, []⟩,
    ⟨some 30, .build [(.lit (.int .i64 0)), (.lit (.int .i64 0)), (.lit (.string ⟨#[]⟩)), (.lit (.slice none 0 0))] [(0, 1, (.t 25)), (1, 1, (.t 27)), (2, 1, (.t 29))], none, []⟩,
    ⟨some 12, .alloc [(.lit (.int .i64 0)), (.lit (.int .i64 0)), (.lit (.string ⟨#[]⟩)), (.lit (.slice none 0 0))], none, []⟩,
    ⟨none, .store 4 (.t 12) (.t 30), none, []⟩] [1, 2, 4, 7, 8, 11, 12])
  (.seq (.seq (.region none [⟨some 13, .mov (.c (.int .i64 0)), none, []⟩] [1, 2, 4, 7, 8, 11, 12, 13])
  (.block 0 (.loop F19l0)))
  (.seq (.region none [⟨some 61, .load true 4 (.t 12), none, []⟩,
    ⟨some 62, .mov (.t 11), none, []⟩,
    ⟨none, .store 4 (.t 8) (.t 61), none, []⟩,
    ⟨some 9, .mov (.t 62), none, []⟩] [8, 9])
  (.ret))))))), false⟩
def F20l0 : PC := (.seq (.seq (.region none [⟨some 10, .mov (.t 5), none, []⟩,
     ⟨some 11, .bin .neq (.t 10) (.c (.int .i64 0)), none, []⟩] [0, 3, 4, 5, 11])
   (.cond (.t 11)
    (.skip)
    (.exit 0)))
   (.seq (.block 1 (.seq (.region none [⟨some 14, .mov (.t 5), none, []⟩,
     ⟨some 15, .bin .rem (.t 14) (.c (.int .i64 10)), none, []⟩,
     ⟨some 6, .mov (.t 15), none, []⟩] [0, 3, 4, 5, 6])
   (.seq (.seq (.region none [⟨some 16, .mov (.t 6), none, []⟩,
     ⟨some 17, .bin .lss (.t 16) (.c (.int .i64 0)), none, []⟩] [0, 3, 4, 5, 6, 17])
   (.cond (.t 17)
    (.region none [⟨some 18, .mov (.t 6), none, []⟩,
      ⟨some 19, .un .neg (.t 18), none, []⟩,
      ⟨some 6, .mov (.t 19), none, []⟩] [0, 3, 4, 5, 6])
    (.skip)))
   (.region none [⟨some 20, .mov (.t 3), none, []⟩,
     ⟨some 21, .mov (.t 6), none, []⟩,
     ⟨some 22, .mov (.t 6), none, []⟩,
     ⟨some 23, .bin .add (.t 22) (.c (.int .i64 1)), none, []⟩,
     ⟨some 24, .sliceS (.t 20) (some (.t 21)) (some (.t 23)), none, []⟩,
     ⟨some 25, .mov (.t 4), none, []⟩,
     ⟨some 26, .bin .add (.t 24) (.t 25), none, []⟩,
     ⟨some 4, .mov (.t 26), none, []⟩] [0, 3, 4, 5]))))
   (.region none [⟨some 12, .mov (.t 5), none, []⟩,
     ⟨some 13, .bin .quo (.t 12) (.c (.int .i64 10)), none, []⟩,
     ⟨some 5, .mov (.t 13), none, []⟩] [0, 3, 4, 5])))
theorem run_F20l0 (C : Task → Option Res) (k : Nat) (fr : Fr) (σ : S) : run C k F20l0 fr σ = run C k (.seq (.seq (.region none [⟨some 10, .mov (.t 5), none, []⟩,
     ⟨some 11, .bin .neq (.t 10) (.c (.int .i64 0)), none, []⟩] [0, 3, 4, 5, 11])
   (.cond (.t 11)
    (.skip)
    (.exit 0)))
   (.seq (.block 1 (.seq (.region none [⟨some 14, .mov (.t 5), none, []⟩,
     ⟨some 15, .bin .rem (.t 14) (.c (.int .i64 10)), none, []⟩,
     ⟨some 6, .mov (.t 15), none, []⟩] [0, 3, 4, 5, 6])
   (.seq (.seq (.region none [⟨some 16, .mov (.t 6), none, []⟩,
     ⟨some 17, .bin .lss (.t 16) (.c (.int .i64 0)), none, []⟩] [0, 3, 4, 5, 6, 17])
   (.cond (.t 17)
    (.region none [⟨some 18, .mov (.t 6), none, []⟩,
      ⟨some 19, .un .neg (.t 18), none, []⟩,
      ⟨some 6, .mov (.t 19), none, []⟩] [0, 3, 4, 5, 6])
    (.skip)))
   (.region none [⟨some 20, .mov (.t 3), none, []⟩,
     ⟨some 21, .mov (.t 6), none, []⟩,
     ⟨some 22, .mov (.t 6), none, []⟩,
     ⟨some 23, .bin .add (.t 22) (.c (.int .i64 1)), none, []⟩,
     ⟨some 24, .sliceS (.t 20) (some (.t 21)) (some (.t 23)), none, []⟩,
     ⟨some 25, .mov (.t 4), none, []⟩,
     ⟨some 26, .bin .add (.t 24) (.t 25), none, []⟩,
     ⟨some 4, .mov (.t 26), none, []⟩] [0, 3, 4, 5]))))
   (.region none [⟨some 12, .mov (.t 5), none, []⟩,
     ⟨some 13, .bin .quo (.t 12) (.c (.int .i64 10)), none, []⟩,
     ⟨some 5, .mov (.t 13), none, []⟩] [0, 3, 4, 5]))) fr σ := rfl
/-- arenanet/arenanetref01.Decimal -/
def F20 : PFun := ⟨1, [.tmp 2],
  .seq (.region none [⟨some 2, .mov (.c (.string ⟨#[]⟩)), none, []⟩] [0])
  (.seq (.seq (.region none [⟨some 7, .mov (.t 0), none, []⟩,
    ⟨some 8, .bin .eql (.t 7) (.c (.int .i64 0)), none, []⟩] [0, 8])
  (.cond (.t 8)
   (.seq (.region none [⟨some 2, .mov (.c (.string ⟨#[48]⟩)), none, []⟩] [2])
   (.ret))
   (.skip)))
  (.seq (.region none [⟨some 3, .mov (.c (.string ⟨#[48, 49, 50, 51, 52, 53, 54, 55, 56, 57]⟩)), none, []⟩] [0, 3])
  (.seq (.region none [⟨some 4, .mov (.c (.string ⟨#[]⟩)), none, []⟩] [0, 3, 4])
  (.seq (.seq (.region none [⟨some 9, .mov (.t 0), none, []⟩,
    ⟨some 5, .mov (.t 9), none, []⟩] [0, 3, 4, 5])
  (.block 0 (.loop F20l0)))
  (.seq (.seq (.region none [⟨some 27, .mov (.t 0), none, []⟩,
    ⟨some 28, .bin .lss (.t 27) (.c (.int .i64 0)), none, []⟩] [4, 28])
  (.cond (.t 28)
   (.seq (.region none [⟨some 29, .mov (.t 4), none, []⟩,
     ⟨some 30, .bin .add (.c (.string ⟨#[45]⟩)) (.t 29), none, []⟩,
     ⟨some 2, .mov (.t 30), none, []⟩] [2])
   (.ret))
   (.skip)))
  (.seq (.region none [⟨some 31, .mov (.t 4), none, []⟩,
    ⟨some 2, .mov (.t 31), none, []⟩] [2])
  (.ret))))))), false⟩
def F21l0 : PC := (.seq (.seq (.region none [⟨some 27, .mov (.t 6), none, []⟩,
     ⟨some 28, .fieldAddr 3 (.t 2), none, []⟩,
     ⟨some 29, .load false 1 (.t 28), none, []⟩,
     ⟨some 30, .len .sl (.t 29), none, []⟩,
     ⟨some 31, .bin .lss (.t 27) (.t 30), none, []⟩] [1, 2, 4, 5, 6, 31])
   (.cond (.t 31)
    (.skip)
    (.exit 0)))
   (.seq (.block 1 (.region (some []) [⟨some 34, .fieldAddr 3 (.t 5), none, []⟩,
     ⟨some 35, .load false 1 (.t 34), none, [8]⟩,
     ⟨some 36, .fieldAddr 3 (.t 2), none, []⟩,
     ⟨some 37, .load false 1 (.t 36), none, []⟩,
     ⟨some 38, .mov (.t 6), none, []⟩,
     ⟨some 39, .indexAddr 4 (.t 37) (.t 38), none, []⟩,
     ⟨some 40, .load true 4 (.t 39), none, []⟩,
     ⟨some 41, .mov (.t 1), none, []⟩,
     ⟨some 42, .call 21 [(.t 40), (.t 41)], none, []⟩,
     ⟨some 43, .bslice 1 [(.lit (.int .i64 0)), (.lit (.int .i64 0)), (.lit (.string ⟨#[]⟩)), (.lit (.slice none 0 0))] [(0, 4, (.t 42))], none, []⟩,
     ⟨some 44, .append 4 56 (.t 35) (.t 43), none, []⟩,
     ⟨some 45, .fieldAddr 3 (.t 5), none, []⟩,
     ⟨none, .store 1 (.t 45) (.t 44), none, []⟩] [1, 2, 4, 5, 6]))
   (.region none [⟨some 32, .mov (.t 6), none, []⟩,
     ⟨some 33, .bin .add (.t 32) (.c (.int .i64 1)), none, []⟩,
     ⟨some 6, .mov (.t 33), none, []⟩] [1, 2, 4, 5, 6])))
theorem run_F21l0 (C : Task → Option Res) (k : Nat) (fr : Fr) (σ : S) : run C k F21l0 fr σ = run C k (.seq (.seq (.region none [⟨some 27, .mov (.t 6), none, []⟩,
     ⟨some 28, .fieldAddr 3 (.t 2), none, []⟩,
     ⟨some 29, .load false 1 (.t 28), none, []⟩,
     ⟨some 30, .len .sl (.t 29), none, []⟩,
     ⟨some 31, .bin .lss (.t 27) (.t 30), none, []⟩] [1, 2, 4, 5, 6, 31])
   (.cond (.t 31)
    (.skip)
    (.exit 0)))
   (.seq (.block 1 (.region (some []) [⟨some 34, .fieldAddr 3 (.t 5), none, []⟩,
     ⟨some 35, .load false 1 (.t 34), none, [8]⟩,
     ⟨some 36, .fieldAddr 3 (.t 2), none, []⟩,
     ⟨some 37, .load false 1 (.t 36), none, []⟩,
     ⟨some 38, .mov (.t 6), none, []⟩,
     ⟨some 39, .indexAddr 4 (.t 37) (.t 38), none, []⟩,
     ⟨some 40, .load true 4 (.t 39), none, []⟩,
     ⟨some 41, .mov (.t 1), none, []⟩,
     ⟨some 42, .call 21 [(.t 40), (.t 41)], none, []⟩,
     ⟨some 43, .bslice 1 [(.lit (.int .i64 0)), (.lit (.int .i64 0)), (.lit (.string ⟨#[]⟩)), (.lit (.slice none 0 0))] [(0, 4, (.t 42))], none, []⟩,
     ⟨some 44, .append 4 56 (.t 35) (.t 43), none, []⟩,
     ⟨some 45, .fieldAddr 3 (.t 5), none, []⟩,
     ⟨none, .store 1 (.t 45) (.t 44), none, []⟩] [1, 2, 4, 5, 6]))
   (.region none [⟨some 32, .mov (.t 6), none, []⟩,
     ⟨some 33, .bin .add (.t 32) (.c (.int .i64 1)), none, []⟩,
     ⟨some 6, .mov (.t 33), none, []⟩] [1, 2, 4, 5, 6]))) fr σ := rfl
/-- arenanet/arenanetref14.Renamed -/
def F21 : PFun := ⟨2, [.cell 4 true 4],
  .seq (.region none [⟨some 2, .box (.t 0), none, []⟩,
    ⟨some 4, .alloc [(.lit (.int .i64 0)), (.lit (.int .i64 0)), (.lit (.string ⟨#[]⟩)), (.lit (.slice none 0 0))], none, []⟩] [1, 2, 4])
  (.seq (.region none [⟨some 7, .fieldAddr 0 (.t 2), none, []⟩,
    ⟨some 8, .load false 1 (.t 7), none, []⟩,
    ⟨some 9, .fieldAddr 1 (.t 2), none, []⟩,
    ⟨some 10, .load false 1 (.t 9), none, []⟩,
    ⟨some 11, .fieldAddr 2 (.t 2), none, []⟩,
    ⟨some 12, .load false 1 (.t 11), none, []⟩,
    ⟨some 13, .build [(.lit (.int .i64 0)), (.lit (.int .i64 0)), (.lit (.string ⟨#[]⟩)), (.lit (.slice none 0 0))] [(0, 1, (.t 8)), (1, 1, (.t 10)), (2, 1, (.t 12))], none, []⟩,
    ⟨some 5, .alloc [(.lit (.int .i64 0)), (.lit (.int .i64 0)), (.lit (.string ⟨#[]⟩)), (.lit (.slice none 0 0))], none, []⟩,
    ⟨none, .store 4 (.t 5) (.t 13), none, []⟩] [1, 2, 4, 5])
  (.seq (.seq (.region none [⟨some 14, .fieldAddr 0 (.t 2), none, []⟩,
    ⟨some 15, .load false 1 (.t 14), none, []⟩,
    ⟨some 16, .bin .eql (.t 15) (.c (.int .i64 1)), none, []⟩,
    ⟨some 17, .mov (.t 16), none, []⟩,
    ⟨some 18, .fieldAddr 0 (.t 2), some (17, false), []⟩,
    ⟨some 19, .load false 1 (.t 18), some (17, false), []⟩,
    ⟨some 20, .bin .eql (.t 19) (.c (.int .i64 10)), some (17, false), []⟩,
    ⟨some 21, .pick (.t 17) (.c (.bool true)) (.t 20), none, []⟩] [1, 2, 4, 5, 21])
  (.cond (.t 21)
   (.region none [⟨some 22, .fieldAddr 2 (.t 2), none, []⟩,
     ⟨some 23, .load false 1 (.t 22), none, []⟩,
     ⟨some 24, .mov (.t 1), none, []⟩,
     ⟨some 25, .bin .add (.t 23) (.t 24), none, []⟩,
     ⟨some 26, .fieldAddr 2 (.t 5), none, []⟩,
     ⟨none, .store 1 (.t 26) (.t 25), none, []⟩] [1, 2, 4, 5])
   (.skip)))
  (.seq (.seq (.region none [⟨some 6, .mov (.c (.int .i64 0)), none, []⟩] [1, 2, 4, 5, 6])
  (.block 0 (.loop F21l0)))
  (.seq (.region none [⟨some 46, .load true 4 (.t 5), none, []⟩,
    ⟨none, .store 4 (.t 4) (.t 46), none, []⟩] [4])
  (.ret))))), false⟩
/-- arenanet/arenanetref14.Name -/
def F22 : PFun := ⟨1, [.tmp 2],
  .seq (.region none [⟨some 2, .mov (.c (.string ⟨#[]⟩)), none, []⟩] [0])
  (.seq (.region none [⟨some 4, .mov (.t 0), none, []⟩,
    ⟨some 5, .call 17 [(.t 4), (.c (.int .i64 20))], none, []⟩,
    ⟨some 3, .mov (.t 5), none, []⟩] [3])
  (.seq (.region none [⟨some 6, .mov (.t 3), none, []⟩,
    ⟨some 7, .bin .add (.c (.int .i64 97)) (.t 6), none, []⟩,
    ⟨some 8, .conv (.int .i32) (.t 7), none, []⟩,
    ⟨some 9, .conv .intStr (.t 8), none, []⟩,
    ⟨some 10, .bin .add (.c (.string ⟨#[118]⟩)) (.t 9), none, []⟩,
    ⟨some 2, .mov (.t 10), none, []⟩] [2])
  (.ret))), false⟩
/-- arenanet/arenanetref01.Ints -/
def F23 : PFun := ⟨2, [.tmp 4],
  .seq (.region none [⟨some 4, .mov (.c (.slice none 0 0)), none, []⟩] [0, 1])
  (.seq (.region none [⟨some 5, .mov (.c (.slice none 0 0)), none, []⟩] [0, 1, 5])
  (.seq (.region none [⟨some 6, .mov (.t 5), none, []⟩,
    ⟨some 7, .mov (.t 0), none, []⟩,
    ⟨some 8, .mov (.t 0), none, []⟩,
    ⟨some 9, .len .sl (.t 8), none, []⟩,
    ⟨some 10, .mov (.t 1), none, []⟩,
    ⟨some 11, .min [(.t 9), (.t 10)], none, []⟩,
    ⟨some 12, .slice 1 (.t 7) none (some (.t 11)), none, []⟩,
    ⟨some 13, .append 1 8 (.t 6) (.t 12), none, []⟩,
    ⟨some 4, .mov (.t 13), none, []⟩] [4])
  (.ret))), false⟩
/-- (*arenanet/arenanetref14.source).expr -/
def F24 : PFun := ⟨3, [.cell 6 true 4],
  .seq (.region none [⟨some 6, .alloc [(.lit (.int .i64 0)), (.lit (.int .i64 0)), (.lit (.string ⟨#[]⟩)), (.lit (.slice none 0 0))], none, []⟩] [0, 1, 2, 6])
  (.seq (.seq (.region none [⟨some 8, .mov (.t 0), none, []⟩,
    ⟨some 9, .call 25 [(.t 8), (.c (.int .i64 24))], none, []⟩,
    ⟨some 10, .bin .eql (.t 9) (.c (.int .i64 5)), none, []⟩] [0, 1, 2, 6, 10])
  (.cond (.t 10)
   (.region none [⟨some 11, .mov (.t 1), none, []⟩,
     ⟨some 12, .bin .sub (.c (.int .i64 3)) (.t 11), none, []⟩,
     ⟨some 1, .mov (.t 12), none, []⟩] [0, 1, 2, 6])
   (.skip)))
  (.seq (.region none [⟨some 13, .mov (.t 0), none, []⟩,
    ⟨some 14, .call 25 [(.t 13), (.c (.int .i64 6))], none, []⟩,
    ⟨some 7, .mov (.t 14), none, []⟩] [0, 1, 2, 6, 7])
  (.seq (.seq (.region none [⟨some 15, .mov (.t 1), none, []⟩,
    ⟨some 16, .bin .eql (.t 15) (.c (.int .i64 2)), none, []⟩] [0, 2, 6, 7, 16])
  (.cond (.t 16)
   (.seq (.seq (.region none [⟨some 17, .mov (.t 2), none, []⟩,
     ⟨some 18, .bin .lss (.t 17) (.c (.int .i64 1)), none, []⟩,
     ⟨some 19, .mov (.t 18), none, []⟩,
     ⟨some 20, .mov (.t 7), some (19, false), []⟩,
     ⟨some 21, .bin .eql (.t 20) (.c (.int .i64 0)), some (19, false), []⟩,
     ⟨some 22, .pick (.t 19) (.c (.bool true)) (.t 21), none, []⟩] [0, 2, 6, 7, 22])
   (.cond (.t 22)
    (.seq (.region none [⟨some 23, .mov (.t 0), none, []⟩,
      ⟨some 24, .call 25 [(.t 23), (.c (.int .i64 2))], none, []⟩,
      ⟨some 25, .build [(.lit (.int .i64 0)), (.lit (.int .i64 0)), (.lit (.string ⟨#[]⟩)), (.lit (.slice none 0 0))] [(0, 1, (.c (.int .i64 9))), (1, 1, (.t 24))], none, []⟩,
      ⟨none, .store 4 (.t 6) (.t 25), none, []⟩] [6])
    (.ret))
    (.skip)))
   (.seq (.seq (.region none [⟨some 26, .mov (.t 7), none, []⟩,
     ⟨some 27, .bin .eql (.t 26) (.c (.int .i64 1)), none, []⟩] [0, 2, 6, 7, 27])
   (.cond (.t 27)
    (.seq (.region none [⟨some 28, .mov (.t 0), none, []⟩,
      ⟨some 29, .mov (.t 2), none, []⟩,
      ⟨some 30, .bin .sub (.t 29) (.c (.int .i64 1)), none, []⟩,
      ⟨some 31, .call 24 [(.t 28), (.c (.int .i64 2)), (.t 30)], none, []⟩,
      ⟨some 32, .bslice 1 [(.lit (.int .i64 0)), (.lit (.int .i64 0)), (.lit (.string ⟨#[]⟩)), (.lit (.slice none 0 0))] [(0, 4, (.t 31))], none, []⟩,
      ⟨some 33, .build [(.lit (.int .i64 0)), (.lit (.int .i64 0)), (.lit (.string ⟨#[]⟩)), (.lit (.slice none 0 0))] [(0, 1, (.c (.int .i64 13))), (2, 1, (.c (.string ⟨#[33]⟩))), (3, 1, (.t 32))], none, []⟩,
      ⟨none, .store 4 (.t 6) (.t 33), none, []⟩] [6])
    (.ret))
    (.skip)))
   (.seq (.seq (.region none [⟨some 34, .mov (.t 7), none, []⟩,
     ⟨some 35, .bin .eql (.t 34) (.c (.int .i64 2)), none, []⟩] [0, 2, 6, 35])
   (.cond (.t 35)
    (.seq (.region none [⟨some 36, .mov (.t 0), none, []⟩,
      ⟨some 37, .bslice 2 [(.lit (.string ⟨#[]⟩)), (.lit (.string ⟨#[]⟩))] [(0, 1, (.c (.string ⟨#[38, 38]⟩))), (1, 1, (.c (.string ⟨#[124, 124]⟩)))], none, []⟩,
      ⟨some 38, .call 34 [(.t 36), (.t 37)], none, []⟩,
      ⟨some 39, .mov (.t 0), none, []⟩,
      ⟨some 40, .mov (.t 2), none, []⟩,
      ⟨some 41, .bin .sub (.t 40) (.c (.int .i64 1)), none, []⟩,
      ⟨some 42, .call 24 [(.t 39), (.c (.int .i64 2)), (.t 41)], none, []⟩,
      ⟨some 43, .mov (.t 0), none, []⟩,
      ⟨some 44, .mov (.t 2), none, []⟩,
      ⟨some 45, .bin .sub (.t 44) (.c (.int .i64 1)), none, []⟩,
      ⟨some 46, .call 24 [(.t 43), (.c (.int .i64 2)), (.t 45)], none, []⟩,
      ⟨some 47, .bslice 2 [(.lit (.int .i64 0)), (.lit (.int .i64 0)), (.lit (.string ⟨#[]⟩)), (.lit (.slice none 0 0)), (.lit (.int .i64 0)), (.lit (.int .i64 0)), (.lit (.string ⟨#[]⟩)), (.lit (.slice none 0 0))] [(0, 4, (.t 42)), (4, 4, (.t 46))], none, []⟩,
      ⟨some 48, .build [(.lit (.int .i64 0)), (.lit (.int .i64 0)), (.lit (.string ⟨#[]⟩)), (.lit (.slice none 0 0))] [(0, 1, (.c (.int .i64 14))), (2, 1, (.t 38)), (3, 1, (.t 47))], none, []⟩,
      ⟨none, .store 4 (.t 6) (.t 48), none, []⟩] [6])
    (.ret))
    (.skip)))
   (.seq (.region none [⟨some 49, .mov (.t 0), none, []⟩,
     ⟨some 50, .bslice 6 [(.lit (.string ⟨#[]⟩)), (.lit (.string ⟨#[]⟩)), (.lit (.string ⟨#[]⟩)), (.lit (.string ⟨#[]⟩)), (.lit (.string ⟨#[]⟩)), (.lit (.string ⟨#[]⟩))] [(0, 1, (.c (.string ⟨#[60]⟩))), (1, 1, (.c (.string ⟨#[60, 61]⟩))), (2, 1, (.c (.string ⟨#[62]⟩))), (3, 1, (.c (.string ⟨#[62, 61]⟩))), (4, 1, (.c (.string ⟨#[61, 61]⟩))), (5, 1, (.c (.string ⟨#[33, 61]⟩)))], none, []⟩,
     ⟨some 51, .call 34 [(.t 49), (.t 50)], none, []⟩,
     ⟨some 52, .mov (.t 0), none, []⟩,
     ⟨some 53, .mov (.t 2), none, []⟩,
     ⟨some 54, .bin .sub (.t 53) (.c (.int .i64 1)), none, []⟩,
     ⟨some 55, .call 24 [(.t 52), (.c (.int .i64 1)), (.t 54)], none, []⟩,
     ⟨some 56, .mov (.t 0), none, []⟩,
     ⟨some 57, .mov (.t 2), none, []⟩,
     ⟨some 58, .bin .sub (.t 57) (.c (.int .i64 1)), none, []⟩,
     ⟨some 59, .call 24 [(.t 56), (.c (.int .i64 1)), (.t 58)], none, []⟩,
     ⟨some 60, .bslice 2 [(.lit (.int .i64 0)), (.lit (.int .i64 0)), (.lit (.string ⟨#[]⟩)), (.lit (.slice none 0 0)), (.lit (.int .i64 0)), (.lit (.int .i64 0)), (.lit (.string ⟨#[]⟩)), (.lit (.slice none 0 0))] [(0, 4, (.t 55)), (4, 4, (.t 59))], none, []⟩,
     ⟨some 61, .build [(.lit (.int .i64 0)), (.lit (.int .i64 0)), (.lit (.string ⟨#[]⟩)), (.lit (.slice none 0 0))] [(0, 1, (.c (.int .i64 14))), (2, 1, (.t 51)), (3, 1, (.t 60))], none, []⟩,
     ⟨none, .store 4 (.t 6) (.t 61), none, []⟩] [6])
   (.ret)))))
   (.skip)))
  (.seq (.seq (.region none [⟨some 62, .mov (.t 2), none, []⟩,
    ⟨some 63, .bin .lss (.t 62) (.c (.int .i64 1)), none, []⟩,
    ⟨some 64, .mov (.t 63), none, []⟩,
    ⟨some 65, .mov (.t 7), some (64, false), []⟩,
    ⟨some 66, .bin .lss (.t 65) (.c (.int .i64 2)), some (64, false), []⟩,
    ⟨some 67, .pick (.t 64) (.c (.bool true)) (.t 66), none, []⟩] [0, 2, 6, 7, 67])
  (.cond (.t 67)
   (.seq (.seq (.region none [⟨some 68, .mov (.t 7), none, []⟩,
     ⟨some 69, .bin .rem (.t 68) (.c (.int .i64 3)), none, []⟩,
     ⟨some 70, .bin .eql (.t 69) (.c (.int .i64 0)), none, []⟩] [0, 6, 7, 70])
   (.cond (.t 70)
    (.seq (.region none [⟨some 71, .mov (.t 0), none, []⟩,
      ⟨some 72, .call 25 [(.t 71), (.c (.int .i64 20))], none, []⟩,
      ⟨some 73, .call 22 [(.t 72)], none, []⟩,
      ⟨some 74, .build [(.lit (.int .i64 0)), (.lit (.int .i64 0)), (.lit (.string ⟨#[]⟩)), (.lit (.slice none 0 0))] [(0, 1, (.c (.int .i64 10))), (2, 1, (.t 73))], none, []⟩,
      ⟨none, .store 4 (.t 6) (.t 74), none, []⟩] [6])
    (.ret))
    (.skip)))
   (.seq (.seq (.region none [⟨some 75, .mov (.t 7), none, []⟩,
     ⟨some 76, .bin .rem (.t 75) (.c (.int .i64 3)), none, []⟩,
     ⟨some 77, .bin .eql (.t 76) (.c (.int .i64 1)), none, []⟩] [0, 6, 77])
   (.cond (.t 77)
    (.seq (.region none [⟨some 78, .mov (.t 0), none, []⟩,
      ⟨some 79, .bslice 3 [(.lit (.string ⟨#[]⟩)), (.lit (.string ⟨#[]⟩)), (.lit (.string ⟨#[]⟩))] [(0, 1, (.c (.string ⟨#[115, 101, 108, 102]⟩))), (1, 1, (.c (.string ⟨#[111, 116, 104, 101, 114]⟩))), (2, 1, (.c (.string ⟨#[116, 105, 99, 107]⟩)))], none, []⟩,
      ⟨some 80, .call 34 [(.t 78), (.t 79)], none, []⟩,
      ⟨some 81, .build [(.lit (.int .i64 0)), (.lit (.int .i64 0)), (.lit (.string ⟨#[]⟩)), (.lit (.slice none 0 0))] [(0, 1, (.c (.int .i64 12))), (2, 1, (.t 80))], none, []⟩,
      ⟨none, .store 4 (.t 6) (.t 81), none, []⟩] [6])
    (.ret))
    (.skip)))
   (.seq (.region none [⟨some 82, .mov (.t 0), none, []⟩,
     ⟨some 83, .call 25 [(.t 82), (.c (.int .i64 100))], none, []⟩,
     ⟨some 84, .build [(.lit (.int .i64 0)), (.lit (.int .i64 0)), (.lit (.string ⟨#[]⟩)), (.lit (.slice none 0 0))] [(0, 1, (.c (.int .i64 8))), (1, 1, (.t 83))], none, []⟩,
     ⟨none, .store 4 (.t 6) (.t 84), none, []⟩] [6])
   (.ret))))
   (.skip)))
  (.seq (.seq (.region none [⟨some 85, .mov (.t 7), none, []⟩,
    ⟨some 86, .bin .eql (.t 85) (.c (.int .i64 2)), none, []⟩] [0, 2, 6, 7, 86])
  (.cond (.t 86)
   (.seq (.region none [⟨some 87, .mov (.t 0), none, []⟩,
     ⟨some 88, .mov (.t 2), none, []⟩,
     ⟨some 89, .bin .sub (.t 88) (.c (.int .i64 1)), none, []⟩,
     ⟨some 90, .call 24 [(.t 87), (.c (.int .i64 1)), (.t 89)], none, []⟩,
     ⟨some 91, .bslice 1 [(.lit (.int .i64 0)), (.lit (.int .i64 0)), (.lit (.string ⟨#[]⟩)), (.lit (.slice none 0 0))] [(0, 4, (.t 90))], none, []⟩,
     ⟨some 92, .build [(.lit (.int .i64 0)), (.lit (.int .i64 0)), (.lit (.string ⟨#[]⟩)), (.lit (.slice none 0 0))] [(0, 1, (.c (.int .i64 13))), (2, 1, (.c (.string ⟨#[45]⟩))), (3, 1, (.t 91))], none, []⟩,
     ⟨none, .store 4 (.t 6) (.t 92), none, []⟩] [6])
   (.ret))
   (.skip)))
  (.seq (.seq (.region none [⟨some 93, .mov (.t 7), none, []⟩,
    ⟨some 94, .bin .eql (.t 93) (.c (.int .i64 3)), none, []⟩] [0, 2, 6, 94])
  (.cond (.t 94)
   (.seq (.region none [⟨some 95, .mov (.t 0), none, []⟩,
     ⟨some 96, .bslice 8 [(.lit (.string ⟨#[]⟩)), (.lit (.string ⟨#[]⟩)), (.lit (.string ⟨#[]⟩)), (.lit (.string ⟨#[]⟩)), (.lit (.string ⟨#[]⟩)), (.lit (.string ⟨#[]⟩)), (.lit (.string ⟨#[]⟩)), (.lit (.string ⟨#[]⟩))] [(0, 1, (.c (.string ⟨#[120]⟩))), (1, 1, (.c (.string ⟨#[121]⟩))), (2, 1, (.c (.string ⟨#[118, 120]⟩))), (3, 1, (.c (.string ⟨#[118, 121]⟩))), (4, 1, (.c (.string ⟨#[97]⟩))), (5, 1, (.c (.string ⟨#[98]⟩))), (6, 1, (.c (.string ⟨#[104, 105, 116]⟩))), (7, 1, (.c (.string ⟨#[115, 116, 105, 108, 108]⟩)))], none, []⟩,
     ⟨some 97, .call 34 [(.t 95), (.t 96)], none, []⟩,
     ⟨some 98, .mov (.t 0), none, []⟩,
     ⟨some 99, .mov (.t 2), none, []⟩,
     ⟨some 100, .bin .sub (.t 99) (.c (.int .i64 1)), none, []⟩,
     ⟨some 101, .call 24 [(.t 98), (.c (.int .i64 1)), (.t 100)], none, []⟩,
     ⟨some 102, .bslice 1 [(.lit (.int .i64 0)), (.lit (.int .i64 0)), (.lit (.string ⟨#[]⟩)), (.lit (.slice none 0 0))] [(0, 4, (.t 101))], none, []⟩,
     ⟨some 103, .build [(.lit (.int .i64 0)), (.lit (.int .i64 0)), (.lit (.string ⟨#[]⟩)), (.lit (.slice none 0 0))] [(0, 1, (.c (.int .i64 11))), (2, 1, (.t 97)), (3, 1, (.t 102))], none, []⟩,
     ⟨none, .store 4 (.t 6) (.t 103), none, []⟩] [6])
   (.ret))
   (.skip)))
  (.seq (.region none [⟨some 104, .mov (.t 0), none, []⟩,
    ⟨some 105, .bslice 4 [(.lit (.string ⟨#[]⟩)), (.lit (.string ⟨#[]⟩)), (.lit (.string ⟨#[]⟩)), (.lit (.string ⟨#[]⟩))] [(0, 1, (.c (.string ⟨#[43]⟩))), (1, 1, (.c (.string ⟨#[45]⟩))), (2, 1, (.c (.string ⟨#[42]⟩))), (3, 1, (.c (.string ⟨#[47]⟩)))], none, []⟩,
    ⟨some 106, .call 34 [(.t 104), (.t 105)], none, []⟩,
    ⟨some 107, .mov (.t 0), none, []⟩,
    ⟨some 108, .mov (.t 2), none, []⟩,
    ⟨some 109, .bin .sub (.t 108) (.c (.int .i64 1)), none, []⟩,
    ⟨some 110, .call 24 [(.t 107), (.c (.int .i64 1)), (.t 109)], none, []⟩,
    ⟨some 111, .mov (.t 0), none, []⟩,
    ⟨some 112, .mov (.t 2), none, []⟩,
    ⟨some 113, .bin .sub (.t 112) (.c (.int .i64 1)), none, []⟩,
    ⟨some 114, .call 24 [(.t 111), (.c (.int .i64 1)), (.t 113)], none, []⟩,
    ⟨some 115, .bslice 2 [(.lit (.int .i64 0)), (.lit (.int .i64 0)), (.lit (.string ⟨#[]⟩)), (.lit (.slice none 0 0)), (.lit (.int .i64 0)), (.lit (.int .i64 0)), (.lit (.string ⟨#[]⟩)), (.lit (.slice none 0 0))] [(0, 4, (.t 110)), (4, 4, (.t 114))], none, []⟩,
    ⟨some 116, .build [(.lit (.int .i64 0)), (.lit (.int .i64 0)), (.lit (.string ⟨#[]⟩)), (.lit (.slice none 0 0))] [(0, 1, (.c (.int .i64 14))), (2, 1, (.t 106)), (3, 1, (.t 115))], none, []⟩,
    ⟨none, .store 4 (.t 6) (.t 116), none, []⟩] [6])
  (.ret)))))))), false⟩
/-- (*arenanet/arenanetref14.source).next -/
def F25 : PFun := ⟨2, [.tmp 4],
  .seq (.region none [⟨some 4, .mov (.c (.int .i64 0)), none, []⟩] [0, 1])
  (.seq (.region none [⟨some 5, .mov (.t 0), none, []⟩,
    ⟨some 6, .mov (.t 0), none, []⟩,
    ⟨some 7, .nilchk (.t 6), none, []⟩,
    ⟨some 8, .fieldAddr 1 (.t 7), none, []⟩,
    ⟨some 9, .load false 1 (.t 8), none, []⟩,
    ⟨some 10, .bin .add (.t 9) (.c (.int .i64 1)), none, []⟩,
    ⟨some 11, .nilchk (.t 5), none, []⟩,
    ⟨some 12, .fieldAddr 1 (.t 11), none, []⟩,
    ⟨none, .store 1 (.t 12) (.t 10), none, []⟩] [0, 1])
  (.seq (.seq (.region (some []) [⟨some 13, .mov (.t 0), none, []⟩,
    ⟨some 14, .nilchk (.t 13), none, []⟩,
    ⟨some 15, .fieldAddr 1 (.t 14), none, []⟩,
    ⟨some 16, .load false 1 (.t 15), none, []⟩,
    ⟨some 17, .mov (.t 0), none, []⟩,
    ⟨some 18, .nilchk (.t 17), none, []⟩,
    ⟨some 19, .fieldAddr 0 (.t 18), none, []⟩,
    ⟨some 20, .load false 1 (.t 19), none, []⟩,
    ⟨some 21, .len .sl (.t 20), none, []⟩,
    ⟨some 22, .bin .gtr (.t 16) (.t 21), none, []⟩] [0, 1, 22])
  (.cond (.t 22)
   (.seq (.region none [⟨some 4, .mov (.c (.int .i64 0)), none, []⟩] [4])
   (.ret))
   (.skip)))
  (.seq (.region (some []) [⟨some 23, .mov (.t 0), none, []⟩,
    ⟨some 24, .nilchk (.t 23), none, []⟩,
    ⟨some 25, .fieldAddr 0 (.t 24), none, []⟩,
    ⟨some 26, .load false 1 (.t 25), none, []⟩,
    ⟨some 27, .mov (.t 0), none, []⟩,
    ⟨some 28, .nilchk (.t 27), none, []⟩,
    ⟨some 29, .fieldAddr 1 (.t 28), none, []⟩,
    ⟨some 30, .load false 1 (.t 29), none, []⟩,
    ⟨some 31, .bin .sub (.t 30) (.c (.int .i64 1)), none, []⟩,
    ⟨some 32, .indexAddr 1 (.t 26) (.t 31), none, []⟩,
    ⟨some 33, .load false 1 (.t 32), none, []⟩,
    ⟨some 34, .call 17 [(.t 33), (.c (.int .i64 1000000007))], none, []⟩,
    ⟨some 35, .mov (.t 1), none, []⟩,
    ⟨some 36, .bin .rem (.t 34) (.t 35), none, []⟩,
    ⟨some 4, .mov (.t 36), none, []⟩] [4])
  (.ret)))), false⟩
/-- arenanet/typecheck.newChecker -/
def F26 : PFun := ⟨0, [.cell 0 true 1],
  .seq (.region none [⟨some 0, .alloc [(.lit (.map none))], none, []⟩] [0])
  (.seq (.region none [⟨some 4, .build [(.lit (.int .i64 0)), (.lit (.int .i64 0))] [(0, 1, (.c (.int .i64 1))), (1, 1, (.c (.int .i64 1)))], none, []⟩,
    ⟨some 5, .build [(.lit (.int .i64 0)), (.lit (.int .i64 0))] [(0, 1, (.c (.int .i64 1))), (1, 1, (.c (.int .i64 2)))], none, []⟩,
    ⟨some 6, .build [(.lit (.int .i64 0)), (.lit (.int .i64 0))] [(0, 1, (.c (.int .i64 2))), (1, 1, (.c (.int .i64 2)))], none, []⟩,
    ⟨some 1, .alloc [(.lit (.int .i64 0)), (.lit (.int .i64 0))], none, []⟩,
    ⟨some 2, .alloc [(.lit (.int .i64 0)), (.lit (.int .i64 0))], none, []⟩,
    ⟨some 3, .alloc [(.lit (.int .i64 0)), (.lit (.int .i64 0))], none, []⟩,
    ⟨none, .store 2 (.t 1) (.t 4), none, []⟩,
    ⟨none, .store 2 (.t 2) (.t 5), none, []⟩,
    ⟨none, .store 2 (.t 3) (.t 6), none, []⟩] [0, 1, 2, 3])
  (.seq (.region none [⟨some 7, .mkmap, none, []⟩,
    ⟨some 8, .load true 2 (.t 1), none, []⟩,
    ⟨none, .mapset .s (.t 7) (.c (.string ⟨#[43]⟩)) (.t 8), none, []⟩,
    ⟨some 9, .load true 2 (.t 1), none, []⟩,
    ⟨none, .mapset .s (.t 7) (.c (.string ⟨#[45]⟩)) (.t 9), none, []⟩,
    ⟨some 10, .load true 2 (.t 1), none, []⟩,
    ⟨none, .mapset .s (.t 7) (.c (.string ⟨#[42]⟩)) (.t 10), none, []⟩,
    ⟨some 11, .load true 2 (.t 1), none, []⟩,
    ⟨none, .mapset .s (.t 7) (.c (.string ⟨#[47]⟩)) (.t 11), none, []⟩,
    ⟨some 12, .load true 2 (.t 2), none, []⟩,
    ⟨none, .mapset .s (.t 7) (.c (.string ⟨#[60]⟩)) (.t 12), none, []⟩,
    ⟨some 13, .load true 2 (.t 2), none, []⟩,
    ⟨none, .mapset .s (.t 7) (.c (.string ⟨#[60, 61]⟩)) (.t 13), none, []⟩,
    ⟨some 14, .load true 2 (.t 2), none, []⟩,
    ⟨none, .mapset .s (.t 7) (.c (.string ⟨#[62]⟩)) (.t 14), none, []⟩,
    ⟨some 15, .load true 2 (.t 2), none, []⟩,
    ⟨none, .mapset .s (.t 7) (.c (.string ⟨#[62, 61]⟩)) (.t 15), none, []⟩,
    ⟨some 16, .load true 2 (.t 2), none, []⟩,
    ⟨none, .mapset .s (.t 7) (.c (.string ⟨#[61, 61]⟩)) (.t 16), none, []⟩,
    ⟨some 17, .load true 2 (.t 2), none, []⟩,
    ⟨none, .mapset .s (.t 7) (.c (.string ⟨#[33, 61]⟩)) (.t 17), none, []⟩,
    ⟨some 18, .load true 2 (.t 3), none, []⟩,
    ⟨none, .mapset .s (.t 7) (.c (.string ⟨#[38, 38]⟩)) (.t 18), none, []⟩,
    ⟨some 19, .load true 2 (.t 3), none, []⟩,
    ⟨none, .mapset .s (.t 7) (.c (.string ⟨#[124, 124]⟩)) (.t 19), none, []⟩,
    ⟨some 20, .mov (.t 7), none, []⟩,
    ⟨some 21, .build [(.lit (.map none))] [(0, 1, (.t 20))], none, []⟩,
    ⟨none, .store 1 (.t 0) (.t 21), none, []⟩] [0])
  (.ret))), false⟩
/-- (arenanet/typecheck.checker).typeOf -/
def F27 : PFun := ⟨2, [.tmp 4],
  .seq (.region none [⟨some 2, .box (.t 0), none, []⟩,
    ⟨some 3, .box (.t 1), none, []⟩,
    ⟨some 4, .mov (.c (.int .i64 0)), none, []⟩] [2, 3])
  (.seq (.region none [⟨some 11, .load true 4 (.t 3), none, []⟩,
    ⟨some 12, .call 35 [(.t 11)], none, []⟩,
    ⟨some 10, .mov (.t 12), none, []⟩,
    ⟨some 13, .extract (.t 10) 0, none, []⟩,
    ⟨some 14, .extract (.t 10) 1, none, []⟩,
    ⟨some 5, .alloc [(.lit (.int .i64 0)), (.lit (.int .i64 0)), (.lit (.string ⟨#[]⟩)), (.lit (.slice none 0 0))], none, []⟩,
    ⟨some 6, .alloc [(.lit (.int .i64 0)), (.lit (.int .i64 0)), (.lit (.string ⟨#[]⟩)), (.lit (.slice none 0 0))], none, []⟩,
    ⟨none, .store 4 (.t 5) (.t 13), none, []⟩,
    ⟨none, .store 4 (.t 6) (.t 14), none, []⟩] [2, 3, 5, 6])
  (.seq (.seq (.region none [⟨some 15, .fieldAddr 0 (.t 3), none, []⟩,
    ⟨some 16, .load false 1 (.t 15), none, []⟩] [2, 3, 5, 6, 16])
  (.block 0 (.seq (.block 5 (.seq (.block 4 (.seq (.block 3 (.seq (.block 2 (.seq (.block 1 (.seq (.seq (.seq (.region none [⟨some 18, .bin .eql (.t 16) (.c (.int .i64 11)), none, []⟩,
    ⟨some 17, .mov (.t 18), none, []⟩] [2, 3, 5, 6, 16, 17])
  (.cond (.t 17)
   (.exit 1)
   (.skip)))
  (.seq (.seq (.seq (.region none [⟨some 20, .bin .eql (.t 16) (.c (.int .i64 8)), none, []⟩,
    ⟨some 19, .mov (.t 20), none, []⟩] [2, 3, 5, 6, 16, 19])
  (.cond (.t 19)
   (.skip)
   (.seq (.region none [⟨some 21, .bin .eql (.t 16) (.c (.int .i64 10)), none, []⟩,
     ⟨some 19, .mov (.t 21), none, []⟩] [2, 3, 5, 6, 16, 19])
   (.cond (.t 19)
    (.skip)
    (.region none [⟨some 22, .bin .eql (.t 16) (.c (.int .i64 12)), none, []⟩,
      ⟨some 19, .mov (.t 22), none, []⟩] [2, 3, 5, 6, 16, 19])))))
  (.cond (.t 19)
   (.exit 2)
   (.skip)))
  (.seq (.seq (.region none [⟨some 24, .bin .eql (.t 16) (.c (.int .i64 9)), none, []⟩,
    ⟨some 23, .mov (.t 24), none, []⟩] [2, 3, 5, 6, 16, 23])
  (.cond (.t 23)
   (.exit 3)
   (.skip)))
  (.seq (.seq (.region none [⟨some 26, .bin .eql (.t 16) (.c (.int .i64 13)), none, []⟩,
    ⟨some 25, .mov (.t 26), none, []⟩] [2, 3, 5, 6, 16, 25])
  (.cond (.t 25)
   (.exit 4)
   (.skip)))
  (.seq (.region none [⟨some 28, .bin .eql (.t 16) (.c (.int .i64 14)), none, []⟩,
    ⟨some 27, .mov (.t 28), none, []⟩] [2, 3, 5, 6, 27])
  (.cond (.t 27)
   (.exit 5)
   (.skip)))))))
  (.exit 0)))
  (.seq (.region none [⟨some 29, .load true 1 (.t 2), none, []⟩,
    ⟨some 30, .load true 4 (.t 5), none, []⟩,
    ⟨some 31, .call 27 [(.t 29), (.t 30)], none, []⟩,
    ⟨some 32, .bin .neq (.t 31) (.c (.int .i64 1)), none, []⟩] [32])
  (.cond (.t 32)
   (.seq (.region none [⟨some 4, .mov (.c (.int .i64 0)), none, []⟩] [4])
   (.ret))
   (.skip)))))
  (.seq (.seq (.region none [⟨some 4, .mov (.c (.int .i64 1)), none, []⟩] [4])
  (.ret))
  (.exit 0))))
  (.seq (.seq (.region none [⟨some 4, .mov (.c (.int .i64 2)), none, []⟩] [4])
  (.ret))
  (.exit 0))))
  (.seq (.seq (.region none [⟨some 7, .mov (.c (.int .i64 2)), none, []⟩] [2, 3, 5, 7])
  (.seq (.seq (.region none [⟨some 33, .fieldAddr 2 (.t 3), none, []⟩,
    ⟨some 34, .load false 1 (.t 33), none, []⟩,
    ⟨some 35, .bin .eql (.t 34) (.c (.string ⟨#[45]⟩)), none, []⟩] [2, 5, 7, 35])
  (.cond (.t 35)
   (.region none [⟨some 7, .mov (.c (.int .i64 1)), none, []⟩] [2, 5, 7])
   (.skip)))
  (.seq (.region none [⟨some 36, .load true 1 (.t 2), none, []⟩,
    ⟨some 37, .load true 4 (.t 5), none, []⟩,
    ⟨some 38, .call 27 [(.t 36), (.t 37)], none, []⟩,
    ⟨some 39, .mov (.t 7), none, []⟩,
    ⟨some 40, .bin .eql (.t 38) (.t 39), none, []⟩] [7, 40])
  (.cond (.t 40)
   (.seq (.region none [⟨some 41, .mov (.t 7), none, []⟩,
     ⟨some 4, .mov (.t 41), none, []⟩] [4])
   (.ret))
   (.skip)))))
  (.exit 0))))
  (.seq (.seq (.region none [⟨some 43, .fieldAddr 0 (.t 2), none, []⟩,
    ⟨some 44, .load false 1 (.t 43), none, []⟩,
    ⟨some 45, .fieldAddr 2 (.t 3), none, []⟩,
    ⟨some 46, .load false 1 (.t 45), none, []⟩,
    ⟨some 47, .lookup .s (.agg [(.lit (.int .i64 0)), (.lit (.int .i64 0))]) (.t 44) (.t 46) true, none, []⟩,
    ⟨some 42, .mov (.t 47), none, []⟩,
    ⟨some 48, .extract (.t 42) 0, none, []⟩,
    ⟨some 49, .extract (.t 42) 1, none, []⟩,
    ⟨some 8, .alloc [(.lit (.int .i64 0)), (.lit (.int .i64 0))], none, []⟩,
    ⟨none, .store 2 (.t 8) (.t 48), none, []⟩,
    ⟨some 9, .mov (.t 49), none, []⟩] [2, 5, 6, 8, 9])
  (.seq (.region (some []) [⟨some 50, .mov (.t 9), none, []⟩,
    ⟨some 51, .mov (.t 50), none, []⟩,
    ⟨some 52, .load true 1 (.t 2), some (51, true), []⟩,
    ⟨some 53, .load true 4 (.t 5), some (51, true), []⟩,
    ⟨some 54, .call 27 [(.t 52), (.t 53)], some (51, true), []⟩,
    ⟨some 55, .fieldAddr 0 (.t 8), some (51, true), []⟩,
    ⟨some 56, .load false 1 (.t 55), some (51, true), [4]⟩,
    ⟨some 57, .bin .eql (.t 54) (.t 56), some (51, true), []⟩,
    ⟨some 58, .pick (.t 51) (.t 57) (.c (.bool false)), none, []⟩,
    ⟨some 59, .mov (.t 58), none, []⟩,
    ⟨some 60, .load true 1 (.t 2), some (59, true), []⟩,
    ⟨some 61, .load true 4 (.t 6), some (59, true), []⟩,
    ⟨some 62, .call 27 [(.t 60), (.t 61)], some (59, true), []⟩,
    ⟨some 63, .fieldAddr 0 (.t 8), some (59, true), []⟩,
    ⟨some 64, .load false 1 (.t 63), some (59, true), [12]⟩,
    ⟨some 65, .bin .eql (.t 62) (.t 64), some (59, true), []⟩,
    ⟨some 66, .pick (.t 59) (.t 65) (.c (.bool false)), none, []⟩] [8, 66])
  (.cond (.t 66)
   (.seq (.region none [⟨some 67, .fieldAddr 1 (.t 8), none, []⟩,
     ⟨some 68, .load false 1 (.t 67), none, []⟩,
     ⟨some 4, .mov (.t 68), none, []⟩] [4])
   (.ret))
   (.skip))))
  (.exit 0)))))
  (.seq (.region none [⟨some 4, .mov (.c (.int .i64 0)), none, []⟩] [4])
  (.ret)))), false⟩
def F28l0 : PC := (.seq (.seq (.region none [⟨some 6, .mov (.t 5), none, []⟩,
     ⟨some 7, .mov (.t 0), none, []⟩,
     ⟨some 8, .len .sl (.t 7), none, []⟩,
     ⟨some 9, .bin .lss (.t 6) (.t 8), none, []⟩] [0, 1, 5, 9])
   (.cond (.t 9)
    (.skip)
    (.exit 0)))
   (.seq (.block 1 (.seq (.region none [⟨some 12, .mov (.t 0), none, []⟩,
     ⟨some 13, .mov (.t 5), none, []⟩,
     ⟨some 14, .indexAddr 1 (.t 12) (.t 13), none, []⟩,
     ⟨some 15, .load false 1 (.t 14), none, []⟩,
     ⟨some 16, .mov (.t 1), none, []⟩,
     ⟨some 17, .bin .eql (.t 15) (.t 16), none, []⟩] [0, 1, 5, 17])
   (.cond (.t 17)
    (.seq (.region none [⟨some 4, .mov (.c (.bool true)), none, []⟩] [4])
    (.ret))
    (.skip))))
   (.region none [⟨some 10, .mov (.t 5), none, []⟩,
     ⟨some 11, .bin .add (.t 10) (.c (.int .i64 1)), none, []⟩,
     ⟨some 5, .mov (.t 11), none, []⟩] [0, 1, 5])))
theorem run_F28l0 (C : Task → Option Res) (k : Nat) (fr : Fr) (σ : S) : run C k F28l0 fr σ = run C k (.seq (.seq (.region none [⟨some 6, .mov (.t 5), none, []⟩,
     ⟨some 7, .mov (.t 0), none, []⟩,
     ⟨some 8, .len .sl (.t 7), none, []⟩,
     ⟨some 9, .bin .lss (.t 6) (.t 8), none, []⟩] [0, 1, 5, 9])
   (.cond (.t 9)
    (.skip)
    (.exit 0)))
   (.seq (.block 1 (.seq (.region none [⟨some 12, .mov (.t 0), none, []⟩,
     ⟨some 13, .mov (.t 5), none, []⟩,
     ⟨some 14, .indexAddr 1 (.t 12) (.t 13), none, []⟩,
     ⟨some 15, .load false 1 (.t 14), none, []⟩,
     ⟨some 16, .mov (.t 1), none, []⟩,
     ⟨some 17, .bin .eql (.t 15) (.t 16), none, []⟩] [0, 1, 5, 17])
   (.cond (.t 17)
    (.seq (.region none [⟨some 4, .mov (.c (.bool true)), none, []⟩] [4])
    (.ret))
    (.skip))))
   (.region none [⟨some 10, .mov (.t 5), none, []⟩,
     ⟨some 11, .bin .add (.t 10) (.c (.int .i64 1)), none, []⟩,
     ⟨some 5, .mov (.t 11), none, []⟩] [0, 1, 5]))) fr σ := rfl
/-- arenanet/arenanetref14.in -/
def F28 : PFun := ⟨2, [.tmp 4],
  .seq (.region none [⟨some 4, .mov (.c (.bool false)), none, []⟩] [0, 1])
  (.seq (.seq (.region none [⟨some 5, .mov (.c (.int .i64 0)), none, []⟩] [0, 1, 5])
  (.block 0 (.loop F28l0)))
  (.seq (.region none [⟨some 4, .mov (.c (.bool false)), none, []⟩] [4])
  (.ret))), false⟩
def F29l0 : PC := (.seq (.seq (.region none [⟨some 10, .mov (.t 6), none, []⟩,
     ⟨some 11, .bin .gtr (.t 10) (.c (.int .i64 0)), none, []⟩] [0, 1, 4, 5, 6, 11])
   (.cond (.t 11)
    (.skip)
    (.exit 0)))
   (.seq (.block 1 (.region (some []) [⟨some 14, .fieldAddr 3 (.t 5), none, []⟩,
     ⟨some 15, .load false 1 (.t 14), none, [4]⟩,
     ⟨some 16, .mov (.t 0), none, []⟩,
     ⟨some 17, .mov (.t 1), none, []⟩,
     ⟨some 18, .call 36 [(.t 16), (.t 17)], none, []⟩,
     ⟨some 19, .bslice 1 [(.lit (.int .i64 0)), (.lit (.int .i64 0)), (.lit (.string ⟨#[]⟩)), (.lit (.slice none 0 0))] [(0, 4, (.t 18))], none, []⟩,
     ⟨some 20, .append 4 56 (.t 15) (.t 19), none, []⟩,
     ⟨some 21, .fieldAddr 3 (.t 5), none, []⟩,
     ⟨none, .store 1 (.t 21) (.t 20), none, []⟩] [0, 1, 4, 5, 6]))
   (.region none [⟨some 12, .mov (.t 6), none, []⟩,
     ⟨some 13, .bin .sub (.t 12) (.c (.int .i64 1)), none, []⟩,
     ⟨some 6, .mov (.t 13), none, []⟩] [0, 1, 4, 5, 6])))
theorem run_F29l0 (C : Task → Option Res) (k : Nat) (fr : Fr) (σ : S) : run C k F29l0 fr σ = run C k (.seq (.seq (.region none [⟨some 10, .mov (.t 6), none, []⟩,
     ⟨some 11, .bin .gtr (.t 10) (.c (.int .i64 0)), none, []⟩] [0, 1, 4, 5, 6, 11])
   (.cond (.t 11)
    (.skip)
    (.exit 0)))
   (.seq (.block 1 (.region (some []) [⟨some 14, .fieldAddr 3 (.t 5), none, []⟩,
     ⟨some 15, .load false 1 (.t 14), none, [4]⟩,
     ⟨some 16, .mov (.t 0), none, []⟩,
     ⟨some 17, .mov (.t 1), none, []⟩,
     ⟨some 18, .call 36 [(.t 16), (.t 17)], none, []⟩,
     ⟨some 19, .bslice 1 [(.lit (.int .i64 0)), (.lit (.int .i64 0)), (.lit (.string ⟨#[]⟩)), (.lit (.slice none 0 0))] [(0, 4, (.t 18))], none, []⟩,
     ⟨some 20, .append 4 56 (.t 15) (.t 19), none, []⟩,
     ⟨some 21, .fieldAddr 3 (.t 5), none, []⟩,
     ⟨none, .store 1 (.t 21) (.t 20), none, []⟩] [0, 1, 4, 5, 6]))
   (.region none [⟨some 12, .mov (.t 6), none, []⟩,
     ⟨some 13, .bin .sub (.t 12) (.c (.int .i64 1)), none, []⟩,
     ⟨some 6, .mov (.t 13), none, []⟩] [0, 1, 4, 5, 6]))) fr σ := rfl
/-- (*arenanet/arenanetref14.source).block -/
def F29 : PFun := ⟨2, [.cell 4 true 4],
  .seq (.region none [⟨some 4, .alloc [(.lit (.int .i64 0)), (.lit (.int .i64 0)), (.lit (.string ⟨#[]⟩)), (.lit (.slice none 0 0))], none, []⟩] [0, 1, 4])
  (.seq (.region none [⟨some 7, .build [(.lit (.int .i64 0)), (.lit (.int .i64 0)), (.lit (.string ⟨#[]⟩)), (.lit (.slice none 0 0))] [(0, 1, (.c (.int .i64 7)))], none, []⟩,
    ⟨some 5, .alloc [(.lit (.int .i64 0)), (.lit (.int .i64 0)), (.lit (.string ⟨#[]⟩)), (.lit (.slice none 0 0))], none, []⟩,
    ⟨none, .store 4 (.t 5) (.t 7), none, []⟩] [0, 1, 4, 5])
  (.seq (.seq (.region none [⟨some 8, .mov (.t 0), none, []⟩,
    ⟨some 9, .call 25 [(.t 8), (.c (.int .i64 4))], none, []⟩,
    ⟨some 6, .mov (.t 9), none, []⟩] [0, 1, 4, 5, 6])
  (.block 0 (.loop F29l0)))
  (.seq (.region none [⟨some 22, .load true 4 (.t 5), none, []⟩,
    ⟨none, .store 4 (.t 4) (.t 22), none, []⟩] [4])
  (.ret)))), false⟩
/-- (arenanet/typecheck.checker).wellTyped -/
def F30 : PFun := ⟨2, [.tmp 4],
  .seq (.region none [⟨some 2, .box (.t 0), none, []⟩,
    ⟨some 3, .box (.t 1), none, []⟩,
    ⟨some 4, .mov (.c (.bool false)), none, []⟩] [2, 3])
  (.seq (.region none [⟨some 8, .load true 4 (.t 3), none, []⟩,
    ⟨some 9, .call 35 [(.t 8)], none, []⟩,
    ⟨some 7, .mov (.t 9), none, []⟩,
    ⟨some 10, .extract (.t 7) 0, none, []⟩,
    ⟨some 11, .extract (.t 7) 1, none, []⟩,
    ⟨some 5, .alloc [(.lit (.int .i64 0)), (.lit (.int .i64 0)), (.lit (.string ⟨#[]⟩)), (.lit (.slice none 0 0))], none, []⟩,
    ⟨some 6, .alloc [(.lit (.int .i64 0)), (.lit (.int .i64 0)), (.lit (.string ⟨#[]⟩)), (.lit (.slice none 0 0))], none, []⟩,
    ⟨none, .store 4 (.t 5) (.t 10), none, []⟩,
    ⟨none, .store 4 (.t 6) (.t 11), none, []⟩] [2, 3, 5, 6])
  (.seq (.seq (.region none [⟨some 12, .fieldAddr 0 (.t 3), none, []⟩,
    ⟨some 13, .load false 1 (.t 12), none, []⟩] [2, 3, 5, 6, 13])
  (.block 0 (.seq (.block 6 (.seq (.block 5 (.seq (.block 4 (.seq (.block 3 (.seq (.block 2 (.seq (.block 1 (.seq (.seq (.seq (.region none [⟨some 15, .bin .eql (.t 13) (.c (.int .i64 1)), none, []⟩,
    ⟨some 14, .mov (.t 15), none, []⟩] [2, 3, 5, 6, 13, 14])
  (.cond (.t 14)
   (.exit 1)
   (.skip)))
  (.seq (.seq (.region none [⟨some 17, .bin .eql (.t 13) (.c (.int .i64 2)), none, []⟩,
    ⟨some 16, .mov (.t 17), none, []⟩] [2, 3, 5, 6, 13, 16])
  (.cond (.t 16)
   (.exit 2)
   (.skip)))
  (.seq (.seq (.region none [⟨some 19, .bin .eql (.t 13) (.c (.int .i64 5)), none, []⟩,
    ⟨some 18, .mov (.t 19), none, []⟩] [2, 3, 5, 6, 13, 18])
  (.cond (.t 18)
   (.exit 3)
   (.skip)))
  (.seq (.seq (.seq (.region none [⟨some 21, .bin .eql (.t 13) (.c (.int .i64 3)), none, []⟩,
    ⟨some 20, .mov (.t 21), none, []⟩] [2, 3, 5, 13, 20])
  (.cond (.t 20)
   (.skip)
   (.region none [⟨some 22, .bin .eql (.t 13) (.c (.int .i64 4)), none, []⟩,
     ⟨some 20, .mov (.t 22), none, []⟩] [2, 3, 5, 13, 20])))
  (.cond (.t 20)
   (.exit 4)
   (.skip)))
  (.seq (.seq (.region none [⟨some 24, .bin .eql (.t 13) (.c (.int .i64 6)), none, []⟩,
    ⟨some 23, .mov (.t 24), none, []⟩] [2, 3, 13, 23])
  (.cond (.t 23)
   (.exit 5)
   (.skip)))
  (.seq (.region none [⟨some 26, .bin .eql (.t 13) (.c (.int .i64 7)), none, []⟩,
    ⟨some 25, .mov (.t 26), none, []⟩] [2, 3, 25])
  (.cond (.t 25)
   (.exit 6)
   (.skip))))))))
  (.exit 0)))
  (.seq (.seq (.region none [⟨some 27, .load true 1 (.t 2), none, []⟩,
    ⟨some 28, .load true 4 (.t 5), none, []⟩,
    ⟨some 29, .call 27 [(.t 27), (.t 28)], none, []⟩,
    ⟨some 30, .bin .eql (.t 29) (.c (.int .i64 1)), none, []⟩,
    ⟨some 4, .mov (.t 30), none, []⟩] [4])
  (.ret))
  (.exit 0))))
  (.seq (.region none [⟨some 31, .fieldAddr 2 (.t 3), none, []⟩,
    ⟨some 32, .load false 1 (.t 31), none, []⟩,
    ⟨some 33, .bin .eql (.t 32) (.c (.string ⟨#[104, 105, 116]⟩)), none, []⟩,
    ⟨some 34, .mov (.t 33), none, []⟩,
    ⟨some 35, .fieldAddr 2 (.t 3), some (34, false), []⟩,
    ⟨some 36, .load false 1 (.t 35), some (34, false), []⟩,
    ⟨some 37, .bin .eql (.t 36) (.c (.string ⟨#[115, 116, 105, 108, 108]⟩)), some (34, false), []⟩,
    ⟨some 38, .pick (.t 34) (.c (.bool true)) (.t 37), none, []⟩] [2, 5, 6, 38])
  (.cond (.t 38)
   (.seq (.region none [⟨some 4, .mov (.c (.bool false)), none, []⟩] [4])
   (.ret))
   (.skip)))))
  (.seq (.seq (.region none [⟨some 39, .load true 1 (.t 2), none, []⟩,
    ⟨some 40, .load true 4 (.t 5), none, []⟩,
    ⟨some 41, .call 27 [(.t 39), (.t 40)], none, []⟩,
    ⟨some 42, .bin .eql (.t 41) (.c (.int .i64 1)), none, []⟩,
    ⟨some 43, .mov (.t 42), none, []⟩,
    ⟨some 44, .load true 1 (.t 2), some (43, true), []⟩,
    ⟨some 45, .load true 4 (.t 6), some (43, true), []⟩,
    ⟨some 46, .call 27 [(.t 44), (.t 45)], some (43, true), []⟩,
    ⟨some 47, .bin .eql (.t 46) (.c (.int .i64 1)), some (43, true), []⟩,
    ⟨some 48, .pick (.t 43) (.t 47) (.c (.bool false)), none, []⟩,
    ⟨some 4, .mov (.t 48), none, []⟩] [4])
  (.ret))
  (.exit 0))))
  (.seq (.seq (.seq (.region none [⟨some 49, .load true 1 (.t 2), none, []⟩,
    ⟨some 50, .load true 4 (.t 5), none, []⟩,
    ⟨some 51, .call 27 [(.t 49), (.t 50)], none, []⟩,
    ⟨some 52, .bin .neq (.t 51) (.c (.int .i64 2)), none, []⟩] [2, 3, 52])
  (.cond (.t 52)
   (.seq (.region none [⟨some 4, .mov (.c (.bool false)), none, []⟩] [4])
   (.ret))
   (.skip)))
  (.seq (.region (some []) [⟨some 53, .load true 1 (.t 2), none, []⟩,
    ⟨some 54, .fieldAddr 3 (.t 3), none, []⟩,
    ⟨some 55, .load false 1 (.t 54), none, []⟩,
    ⟨some 56, .slice 4 (.t 55) (some (.c (.int .i64 1))) none, none, []⟩,
    ⟨some 57, .call 37 [(.t 53), (.t 56)], none, []⟩,
    ⟨some 4, .mov (.t 57), none, []⟩] [4])
  (.ret)))
  (.exit 0))))
  (.seq (.seq (.region none [⟨some 4, .mov (.c (.bool true)), none, []⟩] [4])
  (.ret))
  (.exit 0))))
  (.seq (.seq (.region none [⟨some 58, .load true 1 (.t 2), none, []⟩,
    ⟨some 59, .fieldAddr 3 (.t 3), none, []⟩,
    ⟨some 60, .load false 1 (.t 59), none, []⟩,
    ⟨some 61, .call 37 [(.t 58), (.t 60)], none, []⟩,
    ⟨some 4, .mov (.t 61), none, []⟩] [4])
  (.ret))
  (.exit 0)))))
  (.seq (.region none [⟨some 4, .mov (.c (.bool false)), none, []⟩] [4])
  (.ret)))), false⟩
def F31l0 : PC := (.seq (.seq (.region none [⟨some 13, .mov (.t 3), none, []⟩,
      ⟨some 14, .fieldAddr 3 (.t 1), none, []⟩,
      ⟨some 15, .load false 1 (.t 14), none, []⟩,
      ⟨some 16, .len .sl (.t 15), none, []⟩,
      ⟨some 17, .bin .lss (.t 13) (.t 16), none, []⟩] [1, 3, 17])
    (.cond (.t 17)
     (.skip)
     (.exit 0)))
    (.seq (.block 1 (.seq (.region none [⟨some 20, .fieldAddr 3 (.t 1), none, []⟩,
      ⟨some 21, .load false 1 (.t 20), none, []⟩,
      ⟨some 22, .mov (.t 3), none, []⟩,
      ⟨some 23, .indexAddr 4 (.t 21) (.t 22), none, []⟩,
      ⟨some 24, .load true 4 (.t 23), none, []⟩,
      ⟨some 25, .call 31 [(.t 24)], none, []⟩,
      ⟨some 4, .mov (.t 25), none, []⟩] [1, 3, 4])
    (.seq (.region none [⟨some 26, .mov (.t 4), none, []⟩,
      ⟨some 27, .un .not (.t 26), none, []⟩] [1, 3, 27])
    (.cond (.t 27)
     (.seq (.region none [⟨some 2, .mov (.c (.bool false)), none, []⟩] [2])
     (.ret))
     (.skip)))))
    (.region none [⟨some 18, .mov (.t 3), none, []⟩,
      ⟨some 19, .bin .add (.t 18) (.c (.int .i64 1)), none, []⟩,
      ⟨some 3, .mov (.t 19), none, []⟩] [1, 3])))
theorem run_F31l0 (C : Task → Option Res) (k : Nat) (fr : Fr) (σ : S) : run C k F31l0 fr σ = run C k (.seq (.seq (.region none [⟨some 13, .mov (.t 3), none, []⟩,
      ⟨some 14, .fieldAddr 3 (.t 1), none, []⟩,
      ⟨some 15, .load false 1 (.t 14), none, []⟩,
      ⟨some 16, .len .sl (.t 15), none, []⟩,
      ⟨some 17, .bin .lss (.t 13) (.t 16), none, []⟩] [1, 3, 17])
    (.cond (.t 17)
     (.skip)
     (.exit 0)))
    (.seq (.block 1 (.seq (.region none [⟨some 20, .fieldAddr 3 (.t 1), none, []⟩,
      ⟨some 21, .load false 1 (.t 20), none, []⟩,
      ⟨some 22, .mov (.t 3), none, []⟩,
      ⟨some 23, .indexAddr 4 (.t 21) (.t 22), none, []⟩,
      ⟨some 24, .load true 4 (.t 23), none, []⟩,
      ⟨some 25, .call 31 [(.t 24)], none, []⟩,
      ⟨some 4, .mov (.t 25), none, []⟩] [1, 3, 4])
    (.seq (.region none [⟨some 26, .mov (.t 4), none, []⟩,
      ⟨some 27, .un .not (.t 26), none, []⟩] [1, 3, 27])
    (.cond (.t 27)
     (.seq (.region none [⟨some 2, .mov (.c (.bool false)), none, []⟩] [2])
     (.ret))
     (.skip)))))
    (.region none [⟨some 18, .mov (.t 3), none, []⟩,
      ⟨some 19, .bin .add (.t 18) (.c (.int .i64 1)), none, []⟩,
      ⟨some 3, .mov (.t 19), none, []⟩] [1, 3]))) fr σ := rfl
def F31l1 : PC := (.seq (.seq (.region none [⟨some 41, .mov (.t 6), none, []⟩,
      ⟨some 42, .fieldAddr 3 (.t 1), none, []⟩,
      ⟨some 43, .load false 1 (.t 42), none, []⟩,
      ⟨some 44, .len .sl (.t 43), none, []⟩,
      ⟨some 45, .bin .lss (.t 41) (.t 44), none, []⟩] [1, 5, 6, 45])
    (.cond (.t 45)
     (.skip)
     (.exit 2)))
    (.seq (.block 3 (.seq (.region none [⟨some 48, .fieldAddr 3 (.t 1), none, []⟩,
      ⟨some 49, .load false 1 (.t 48), none, []⟩,
      ⟨some 50, .mov (.t 6), none, []⟩,
      ⟨some 51, .indexAddr 4 (.t 49) (.t 50), none, []⟩,
      ⟨some 52, .load true 4 (.t 51), none, []⟩,
      ⟨some 53, .call 31 [(.t 52)], none, []⟩,
      ⟨some 7, .mov (.t 53), none, []⟩] [1, 5, 6, 7])
    (.seq (.region none [⟨some 54, .mov (.t 7), none, []⟩,
      ⟨some 55, .un .not (.t 54), none, []⟩] [1, 5, 6, 55])
    (.cond (.t 55)
     (.seq (.region none [⟨some 2, .mov (.c (.bool false)), none, []⟩] [2])
     (.ret))
     (.skip)))))
    (.region none [⟨some 46, .mov (.t 6), none, []⟩,
      ⟨some 47, .bin .add (.t 46) (.c (.int .i64 1)), none, []⟩,
      ⟨some 6, .mov (.t 47), none, []⟩] [1, 5, 6])))
theorem run_F31l1 (C : Task → Option Res) (k : Nat) (fr : Fr) (σ : S) : run C k F31l1 fr σ = run C k (.seq (.seq (.region none [⟨some 41, .mov (.t 6), none, []⟩,
      ⟨some 42, .fieldAddr 3 (.t 1), none, []⟩,
      ⟨some 43, .load false 1 (.t 42), none, []⟩,
      ⟨some 44, .len .sl (.t 43), none, []⟩,
      ⟨some 45, .bin .lss (.t 41) (.t 44), none, []⟩] [1, 5, 6, 45])
    (.cond (.t 45)
     (.skip)
     (.exit 2)))
    (.seq (.block 3 (.seq (.region none [⟨some 48, .fieldAddr 3 (.t 1), none, []⟩,
      ⟨some 49, .load false 1 (.t 48), none, []⟩,
      ⟨some 50, .mov (.t 6), none, []⟩,
      ⟨some 51, .indexAddr 4 (.t 49) (.t 50), none, []⟩,
      ⟨some 52, .load true 4 (.t 51), none, []⟩,
      ⟨some 53, .call 31 [(.t 52)], none, []⟩,
      ⟨some 7, .mov (.t 53), none, []⟩] [1, 5, 6, 7])
    (.seq (.region none [⟨some 54, .mov (.t 7), none, []⟩,
      ⟨some 55, .un .not (.t 54), none, []⟩] [1, 5, 6, 55])
    (.cond (.t 55)
     (.seq (.region none [⟨some 2, .mov (.c (.bool false)), none, []⟩] [2])
     (.ret))
     (.skip)))))
    (.region none [⟨some 46, .mov (.t 6), none, []⟩,
      ⟨some 47, .bin .add (.t 46) (.c (.int .i64 1)), none, []⟩,
      ⟨some 6, .mov (.t 47), none, []⟩] [1, 5, 6]))) fr σ := rfl
def F31l2 : PC := (.seq (.seq (.region none [⟨some 67, .mov (.t 8), none, []⟩,
     ⟨some 68, .fieldAddr 3 (.t 1), none, []⟩,
     ⟨some 69, .load false 1 (.t 68), none, []⟩,
     ⟨some 70, .len .sl (.t 69), none, []⟩,
     ⟨some 71, .bin .lss (.t 67) (.t 70), none, []⟩] [1, 8, 71])
   (.cond (.t 71)
    (.skip)
    (.exit 4)))
   (.seq (.block 5 (.seq (.region none [⟨some 74, .fieldAddr 3 (.t 1), none, []⟩,
     ⟨some 75, .load false 1 (.t 74), none, []⟩,
     ⟨some 76, .mov (.t 8), none, []⟩,
     ⟨some 77, .indexAddr 4 (.t 75) (.t 76), none, []⟩,
     ⟨some 78, .load true 4 (.t 77), none, []⟩,
     ⟨some 79, .call 9 [(.t 78)], none, []⟩,
     ⟨some 9, .mov (.t 79), none, []⟩] [1, 8, 9])
   (.seq (.region none [⟨some 80, .mov (.t 9), none, []⟩,
     ⟨some 81, .bin .neq (.t 80) (.c (.int .i64 1)), none, []⟩] [1, 8, 81])
   (.cond (.t 81)
    (.seq (.region none [⟨some 2, .mov (.c (.bool false)), none, []⟩] [2])
    (.ret))
    (.skip)))))
   (.region none [⟨some 72, .mov (.t 8), none, []⟩,
     ⟨some 73, .bin .add (.t 72) (.c (.int .i64 1)), none, []⟩,
     ⟨some 8, .mov (.t 73), none, []⟩] [1, 8])))
theorem run_F31l2 (C : Task → Option Res) (k : Nat) (fr : Fr) (σ : S) : run C k F31l2 fr σ = run C k (.seq (.seq (.region none [⟨some 67, .mov (.t 8), none, []⟩,
     ⟨some 68, .fieldAddr 3 (.t 1), none, []⟩,
     ⟨some 69, .load false 1 (.t 68), none, []⟩,
     ⟨some 70, .len .sl (.t 69), none, []⟩,
     ⟨some 71, .bin .lss (.t 67) (.t 70), none, []⟩] [1, 8, 71])
   (.cond (.t 71)
    (.skip)
    (.exit 4)))
   (.seq (.block 5 (.seq (.region none [⟨some 74, .fieldAddr 3 (.t 1), none, []⟩,
     ⟨some 75, .load false 1 (.t 74), none, []⟩,
     ⟨some 76, .mov (.t 8), none, []⟩,
     ⟨some 77, .indexAddr 4 (.t 75) (.t 76), none, []⟩,
     ⟨some 78, .load true 4 (.t 77), none, []⟩,
     ⟨some 79, .call 9 [(.t 78)], none, []⟩,
     ⟨some 9, .mov (.t 79), none, []⟩] [1, 8, 9])
   (.seq (.region none [⟨some 80, .mov (.t 9), none, []⟩,
     ⟨some 81, .bin .neq (.t 80) (.c (.int .i64 1)), none, []⟩] [1, 8, 81])
   (.cond (.t 81)
    (.seq (.region none [⟨some 2, .mov (.c (.bool false)), none, []⟩] [2])
    (.ret))
    (.skip)))))
   (.region none [⟨some 72, .mov (.t 8), none, []⟩,
     ⟨some 73, .bin .add (.t 72) (.c (.int .i64 1)), none, []⟩,
     ⟨some 8, .mov (.t 73), none, []⟩] [1, 8]))) fr σ := rfl
/-- arenanet/arenanetref14.Well -/
def F31 : PFun := ⟨1, [.tmp 2],
  .seq (.region none [⟨some 1, .box (.t 0), none, []⟩,
    ⟨some 2, .mov (.c (.bool false)), none, []⟩] [1])
  (.seq (.seq (.region none [⟨some 10, .fieldAddr 0 (.t 1), none, []⟩,
    ⟨some 11, .load false 1 (.t 10), none, []⟩,
    ⟨some 12, .bin .eql (.t 11) (.c (.int .i64 7)), none, []⟩] [1, 12])
  (.cond (.t 12)
   (.seq (.seq (.region none [⟨some 3, .mov (.c (.int .i64 0)), none, []⟩] [1, 3])
   (.block 0 (.loop F31l0)))
   (.seq (.region none [⟨some 2, .mov (.c (.bool true)), none, []⟩] [2])
   (.ret)))
   (.skip)))
  (.seq (.seq (.region none [⟨some 28, .fieldAddr 0 (.t 1), none, []⟩,
    ⟨some 29, .load false 1 (.t 28), none, []⟩,
    ⟨some 30, .bin .eql (.t 29) (.c (.int .i64 3)), none, []⟩,
    ⟨some 31, .mov (.t 30), none, []⟩,
    ⟨some 32, .fieldAddr 0 (.t 1), some (31, false), []⟩,
    ⟨some 33, .load false 1 (.t 32), some (31, false), []⟩,
    ⟨some 34, .bin .eql (.t 33) (.c (.int .i64 4)), some (31, false), []⟩,
    ⟨some 35, .pick (.t 31) (.c (.bool true)) (.t 34), none, []⟩] [1, 35])
  (.cond (.t 35)
   (.seq (.region none [⟨some 36, .fieldAddr 3 (.t 1), none, []⟩,
     ⟨some 37, .load false 1 (.t 36), none, []⟩,
     ⟨some 38, .indexAddr 4 (.t 37) (.c (.int .i64 0)), none, []⟩,
     ⟨some 39, .load true 4 (.t 38), none, []⟩,
     ⟨some 40, .call 9 [(.t 39)], none, []⟩,
     ⟨some 5, .mov (.t 40), none, []⟩] [1, 5])
   (.seq (.seq (.region none [⟨some 6, .mov (.c (.int .i64 1)), none, []⟩] [1, 5, 6])
   (.block 2 (.loop F31l1)))
   (.seq (.region none [⟨some 56, .mov (.t 5), none, []⟩,
     ⟨some 57, .bin .eql (.t 56) (.c (.int .i64 2)), none, []⟩,
     ⟨some 2, .mov (.t 57), none, []⟩] [2])
   (.ret))))
   (.skip)))
  (.seq (.seq (.region none [⟨some 58, .fieldAddr 0 (.t 1), none, []⟩,
    ⟨some 59, .load false 1 (.t 58), none, []⟩,
    ⟨some 60, .bin .eql (.t 59) (.c (.int .i64 2)), none, []⟩,
    ⟨some 61, .mov (.t 60), none, []⟩,
    ⟨some 62, .bslice 2 [(.lit (.string ⟨#[]⟩)), (.lit (.string ⟨#[]⟩))] [(0, 1, (.c (.string ⟨#[104, 105, 116]⟩))), (1, 1, (.c (.string ⟨#[115, 116, 105, 108, 108]⟩)))], some (61, true), []⟩,
    ⟨some 63, .fieldAddr 2 (.t 1), some (61, true), []⟩,
    ⟨some 64, .load false 1 (.t 63), some (61, true), []⟩,
    ⟨some 65, .call 28 [(.t 62), (.t 64)], some (61, true), []⟩,
    ⟨some 66, .pick (.t 61) (.t 65) (.c (.bool false)), none, []⟩] [1, 66])
  (.cond (.t 66)
   (.seq (.region none [⟨some 2, .mov (.c (.bool false)), none, []⟩] [2])
   (.ret))
   (.skip)))
  (.seq (.seq (.region none [⟨some 8, .mov (.c (.int .i64 0)), none, []⟩] [1, 8])
  (.block 4 (.loop F31l2)))
  (.seq (.region none [⟨some 2, .mov (.c (.bool true)), none, []⟩] [2])
  (.ret)))))), false⟩
/-- arenanet/typecheck.nodes -/
def F32 : PFun := ⟨1, [.tmp 2],
  .seq (.region none [⟨some 1, .box (.t 0), none, []⟩,
    ⟨some 2, .mov (.c .nilFunc), none, []⟩] [1])
  (.seq (.region none [⟨some 3, .mkfn 38 [] [(.t 1)], none, []⟩,
    ⟨some 2, .mov (.t 3), none, []⟩] [2])
  (.ret)), false⟩
def F33l0 : PC := (.seq (.seq (.region none [⟨some 30, .mov (.t 6), none, []⟩,
     ⟨some 31, .fieldAddr 3 (.t 2), none, []⟩,
     ⟨some 32, .load false 1 (.t 31), none, []⟩,
     ⟨some 33, .len .sl (.t 32), none, []⟩,
     ⟨some 34, .bin .lss (.t 30) (.t 33), none, []⟩] [1, 2, 6, 34])
   (.cond (.t 34)
    (.skip)
    (.exit 0)))
   (.seq (.block 1 (.region none [⟨some 37, .fieldAddr 3 (.t 2), none, []⟩,
     ⟨some 38, .load false 1 (.t 37), none, []⟩,
     ⟨some 39, .mov (.t 6), none, []⟩,
     ⟨some 40, .indexAddr 4 (.t 38) (.t 39), none, []⟩,
     ⟨some 41, .load true 4 (.t 40), none, []⟩,
     ⟨some 42, .mov (.t 1), none, []⟩,
     ⟨some 43, .call 33 [(.t 41), (.t 42)], none, []⟩,
     ⟨some 1, .mov (.t 43), none, []⟩] [1, 2, 6]))
   (.region none [⟨some 35, .mov (.t 6), none, []⟩,
     ⟨some 36, .bin .add (.t 35) (.c (.int .i64 1)), none, []⟩,
     ⟨some 6, .mov (.t 36), none, []⟩] [1, 2, 6])))
theorem run_F33l0 (C : Task → Option Res) (k : Nat) (fr : Fr) (σ : S) : run C k F33l0 fr σ = run C k (.seq (.seq (.region none [⟨some 30, .mov (.t 6), none, []⟩,
     ⟨some 31, .fieldAddr 3 (.t 2), none, []⟩,
     ⟨some 32, .load false 1 (.t 31), none, []⟩,
     ⟨some 33, .len .sl (.t 32), none, []⟩,
     ⟨some 34, .bin .lss (.t 30) (.t 33), none, []⟩] [1, 2, 6, 34])
   (.cond (.t 34)
    (.skip)
    (.exit 0)))
   (.seq (.block 1 (.region none [⟨some 37, .fieldAddr 3 (.t 2), none, []⟩,
     ⟨some 38, .load false 1 (.t 37), none, []⟩,
     ⟨some 39, .mov (.t 6), none, []⟩,
     ⟨some 40, .indexAddr 4 (.t 38) (.t 39), none, []⟩,
     ⟨some 41, .load true 4 (.t 40), none, []⟩,
     ⟨some 42, .mov (.t 1), none, []⟩,
     ⟨some 43, .call 33 [(.t 41), (.t 42)], none, []⟩,
     ⟨some 1, .mov (.t 43), none, []⟩] [1, 2, 6]))
   (.region none [⟨some 35, .mov (.t 6), none, []⟩,
     ⟨some 36, .bin .add (.t 35) (.c (.int .i64 1)), none, []⟩,
     ⟨some 6, .mov (.t 36), none, []⟩] [1, 2, 6]))) fr σ := rfl
/-- arenanet/arenanetref14.names -/
def F33 : PFun := ⟨2, [.tmp 4],
  .seq (.region none [⟨some 2, .box (.t 0), none, []⟩,
    ⟨some 4, .mov (.c (.slice none 0 0)), none, []⟩] [1, 2])
  (.seq (.seq (.region none [⟨some 7, .fieldAddr 0 (.t 2), none, []⟩,
    ⟨some 8, .load false 1 (.t 7), none, []⟩,
    ⟨some 9, .bin .eql (.t 8) (.c (.int .i64 1)), none, []⟩,
    ⟨some 10, .mov (.t 9), none, []⟩,
    ⟨some 11, .fieldAddr 0 (.t 2), some (10, false), []⟩,
    ⟨some 12, .load false 1 (.t 11), some (10, false), []⟩,
    ⟨some 13, .bin .eql (.t 12) (.c (.int .i64 10)), some (10, false), []⟩,
    ⟨some 14, .pick (.t 10) (.c (.bool true)) (.t 13), none, []⟩,
    ⟨some 15, .mov (.t 14), none, []⟩,
    ⟨some 16, .mov (.t 1), some (15, true), []⟩,
    ⟨some 17, .fieldAddr 2 (.t 2), some (15, true), []⟩,
    ⟨some 18, .load false 1 (.t 17), some (15, true), []⟩,
    ⟨some 19, .call 28 [(.t 16), (.t 18)], some (15, true), []⟩,
    ⟨some 20, .un .not (.t 19), some (15, true), []⟩,
    ⟨some 21, .pick (.t 15) (.t 20) (.c (.bool false)), none, []⟩] [1, 2, 21])
  (.cond (.t 21)
   (.seq (.region none [⟨some 5, .mov (.c (.slice none 0 0)), none, []⟩] [1, 2, 5])
   (.seq (.region none [⟨some 22, .mov (.t 5), none, []⟩,
     ⟨some 23, .mov (.t 1), none, []⟩,
     ⟨some 24, .append 1 16 (.t 22) (.t 23), none, []⟩,
     ⟨some 5, .mov (.t 24), none, []⟩] [2, 5])
   (.region none [⟨some 25, .mov (.t 5), none, []⟩,
     ⟨some 26, .fieldAddr 2 (.t 2), none, []⟩,
     ⟨some 27, .load false 1 (.t 26), none, []⟩,
     ⟨some 28, .bslice 1 [(.lit (.string ⟨#[]⟩))] [(0, 1, (.t 27))], none, []⟩,
     ⟨some 29, .append 1 16 (.t 25) (.t 28), none, []⟩,
     ⟨some 1, .mov (.t 29), none, []⟩] [1, 2])))
   (.skip)))
  (.seq (.seq (.region none [⟨some 6, .mov (.c (.int .i64 0)), none, []⟩] [1, 2, 6])
  (.block 0 (.loop F33l0)))
  (.seq (.region none [⟨some 44, .mov (.t 1), none, []⟩,
    ⟨some 4, .mov (.t 44), none, []⟩] [4])
  (.ret)))), false⟩
/-- (*arenanet/arenanetref14.source).pick -/
def F34 : PFun := ⟨2, [.tmp 4],
  .seq (.region none [⟨some 4, .mov (.c (.string ⟨#[]⟩)), none, []⟩] [0, 1])
  (.seq (.region none [⟨some 5, .mov (.t 1), none, []⟩,
    ⟨some 6, .mov (.t 0), none, []⟩,
    ⟨some 7, .mov (.t 1), none, []⟩,
    ⟨some 8, .len .sl (.t 7), none, []⟩,
    ⟨some 9, .call 25 [(.t 6), (.t 8)], none, []⟩,
    ⟨some 10, .indexAddr 1 (.t 5) (.t 9), none, []⟩,
    ⟨some 11, .load false 1 (.t 10), none, []⟩,
    ⟨some 4, .mov (.t 11), none, []⟩] [4])
  (.ret)), false⟩
/-- arenanet/typecheck.kids -/
def F35 : PFun := ⟨1, [.cell 2 true 4, .cell 3 true 4],
  .seq (.region none [⟨some 1, .box (.t 0), none, []⟩,
    ⟨some 2, .alloc [(.lit (.int .i64 0)), (.lit (.int .i64 0)), (.lit (.string ⟨#[]⟩)), (.lit (.slice none 0 0))], none, []⟩,
    ⟨some 3, .alloc [(.lit (.int .i64 0)), (.lit (.int .i64 0)), (.lit (.string ⟨#[]⟩)), (.lit (.slice none 0 0))], none, []⟩] [1, 2, 3])
  (.seq (.seq (.region none [⟨some 4, .fieldAddr 3 (.t 1), none, []⟩,
    ⟨some 5, .load false 1 (.t 4), none, []⟩,
    ⟨some 6, .len .sl (.t 5), none, []⟩,
    ⟨some 7, .bin .gtr (.t 6) (.c (.int .i64 0)), none, []⟩] [1, 2, 3, 7])
  (.cond (.t 7)
   (.region none [⟨some 8, .fieldAddr 3 (.t 1), none, []⟩,
     ⟨some 9, .load false 1 (.t 8), none, []⟩,
     ⟨some 10, .indexAddr 4 (.t 9) (.c (.int .i64 0)), none, []⟩,
     ⟨some 11, .load true 4 (.t 10), none, []⟩,
     ⟨none, .store 4 (.t 2) (.t 11), none, []⟩] [1, 2, 3])
   (.skip)))
  (.seq (.seq (.region none [⟨some 12, .fieldAddr 3 (.t 1), none, []⟩,
    ⟨some 13, .load false 1 (.t 12), none, []⟩,
    ⟨some 14, .len .sl (.t 13), none, []⟩,
    ⟨some 15, .bin .gtr (.t 14) (.c (.int .i64 1)), none, []⟩] [1, 2, 3, 15])
  (.cond (.t 15)
   (.region none [⟨some 16, .fieldAddr 3 (.t 1), none, []⟩,
     ⟨some 17, .load false 1 (.t 16), none, []⟩,
     ⟨some 18, .indexAddr 4 (.t 17) (.c (.int .i64 1)), none, []⟩,
     ⟨some 19, .load true 4 (.t 18), none, []⟩,
     ⟨none, .store 4 (.t 3) (.t 19), none, []⟩] [2, 3])
   (.skip)))
  (.seq (.region (some []) [⟨some 20, .load true 4 (.t 2), none, []⟩,
    ⟨some 21, .load true 4 (.t 3), none, [2]⟩,
    ⟨none, .store 4 (.t 2) (.t 20), none, []⟩,
    ⟨none, .store 4 (.t 3) (.t 21), none, []⟩] [2, 3])
  (.ret)))), false⟩
/-- (*arenanet/arenanetref14.source).statement -/
def F36 : PFun := ⟨2, [.cell 4 true 4],
  .seq (.region none [⟨some 4, .alloc [(.lit (.int .i64 0)), (.lit (.int .i64 0)), (.lit (.string ⟨#[]⟩)), (.lit (.slice none 0 0))], none, []⟩] [0, 1, 4])
  (.seq (.region none [⟨some 7, .mov (.t 0), none, []⟩,
    ⟨some 8, .call 25 [(.t 7), (.c (.int .i64 9))], none, []⟩,
    ⟨some 5, .mov (.t 8), none, []⟩] [0, 1, 4, 5])
  (.seq (.seq (.region none [⟨some 9, .mov (.t 1), none, []⟩,
    ⟨some 10, .bin .lss (.t 9) (.c (.int .i64 1)), none, []⟩,
    ⟨some 11, .mov (.t 10), none, []⟩,
    ⟨some 12, .mov (.t 5), some (11, true), []⟩,
    ⟨some 13, .bin .gtr (.t 12) (.c (.int .i64 6)), some (11, true), []⟩,
    ⟨some 14, .pick (.t 11) (.t 13) (.c (.bool false)), none, []⟩] [0, 1, 4, 5, 14])
  (.cond (.t 14)
   (.region none [⟨some 5, .mov (.c (.int .i64 0)), none, []⟩] [0, 1, 4, 5])
   (.skip)))
  (.seq (.seq (.region none [⟨some 15, .mov (.t 5), none, []⟩,
    ⟨some 16, .bin .lss (.t 15) (.c (.int .i64 3)), none, []⟩] [0, 1, 4, 5, 16])
  (.cond (.t 16)
   (.seq (.region none [⟨some 17, .mov (.t 0), none, []⟩,
     ⟨some 18, .call 25 [(.t 17), (.c (.int .i64 20))], none, []⟩,
     ⟨some 19, .call 22 [(.t 18)], none, []⟩,
     ⟨some 20, .mov (.t 0), none, []⟩,
     ⟨some 21, .call 24 [(.t 20), (.c (.int .i64 1)), (.c (.int .i64 3))], none, []⟩,
     ⟨some 22, .bslice 1 [(.lit (.int .i64 0)), (.lit (.int .i64 0)), (.lit (.string ⟨#[]⟩)), (.lit (.slice none 0 0))] [(0, 4, (.t 21))], none, []⟩,
     ⟨some 23, .build [(.lit (.int .i64 0)), (.lit (.int .i64 0)), (.lit (.string ⟨#[]⟩)), (.lit (.slice none 0 0))] [(0, 1, (.c (.int .i64 1))), (2, 1, (.t 19)), (3, 1, (.t 22))], none, []⟩,
     ⟨none, .store 4 (.t 4) (.t 23), none, []⟩] [4])
   (.ret))
   (.skip)))
  (.seq (.seq (.region none [⟨some 24, .mov (.t 5), none, []⟩,
    ⟨some 25, .bin .lss (.t 24) (.c (.int .i64 5)), none, []⟩] [0, 1, 4, 5, 25])
  (.cond (.t 25)
   (.seq (.region none [⟨some 26, .mov (.t 0), none, []⟩,
     ⟨some 27, .bslice 16 [(.lit (.string ⟨#[]⟩)), (.lit (.string ⟨#[]⟩)), (.lit (.string ⟨#[]⟩)), (.lit (.string ⟨#[]⟩)), (.lit (.string ⟨#[]⟩)), (.lit (.string ⟨#[]⟩)), (.lit (.string ⟨#[]⟩)), (.lit (.string ⟨#[]⟩)), (.lit (.string ⟨#[]⟩)), (.lit (.string ⟨#[]⟩)), (.lit (.string ⟨#[]⟩)), (.lit (.string ⟨#[]⟩)), (.lit (.string ⟨#[]⟩)), (.lit (.string ⟨#[]⟩)), (.lit (.string ⟨#[]⟩)), (.lit (.string ⟨#[]⟩))] [(0, 1, (.c (.string ⟨#[120]⟩))), (1, 1, (.c (.string ⟨#[121]⟩))), (2, 1, (.c (.string ⟨#[118, 120]⟩))), (3, 1, (.c (.string ⟨#[118, 121]⟩))), (4, 1, (.c (.string ⟨#[97]⟩))), (5, 1, (.c (.string ⟨#[98]⟩))), (6, 1, (.c (.string ⟨#[97]⟩))), (7, 1, (.c (.string ⟨#[98]⟩))), (8, 1, (.c (.string ⟨#[120]⟩))), (9, 1, (.c (.string ⟨#[121]⟩))), (10, 1, (.c (.string ⟨#[118, 120]⟩))), (11, 1, (.c (.string ⟨#[118, 121]⟩))), (12, 1, (.c (.string ⟨#[97]⟩))), (13, 1, (.c (.string ⟨#[98]⟩))), (14, 1, (.c (.string ⟨#[104, 105, 116]⟩))), (15, 1, (.c (.string ⟨#[115, 116, 105, 108, 108]⟩)))], none, []⟩,
     ⟨some 28, .call 34 [(.t 26), (.t 27)], none, []⟩,
     ⟨some 6, .mov (.t 28), none, []⟩] [0, 4, 6])
   (.seq (.region none [⟨some 29, .mov (.t 6), none, []⟩,
     ⟨some 30, .mov (.t 0), none, []⟩,
     ⟨some 31, .call 24 [(.t 30), (.c (.int .i64 1)), (.c (.int .i64 2))], none, []⟩,
     ⟨some 32, .mov (.t 0), none, []⟩,
     ⟨some 33, .call 24 [(.t 32), (.c (.int .i64 1)), (.c (.int .i64 2))], none, []⟩,
     ⟨some 34, .bslice 2 [(.lit (.int .i64 0)), (.lit (.int .i64 0)), (.lit (.string ⟨#[]⟩)), (.lit (.slice none 0 0)), (.lit (.int .i64 0)), (.lit (.int .i64 0)), (.lit (.string ⟨#[]⟩)), (.lit (.slice none 0 0))] [(0, 4, (.t 31)), (4, 4, (.t 33))], none, []⟩,
     ⟨some 35, .build [(.lit (.int .i64 0)), (.lit (.int .i64 0)), (.lit (.string ⟨#[]⟩)), (.lit (.slice none 0 0))] [(0, 1, (.c (.int .i64 2))), (2, 1, (.t 29)), (3, 1, (.t 34))], none, []⟩,
     ⟨none, .store 4 (.t 4) (.t 35), none, []⟩] [4])
   (.ret)))
   (.skip)))
  (.seq (.seq (.region none [⟨some 36, .mov (.t 5), none, []⟩,
    ⟨some 37, .bin .eql (.t 36) (.c (.int .i64 5)), none, []⟩] [0, 1, 4, 5, 37])
  (.cond (.t 37)
   (.seq (.region none [⟨some 38, .mov (.t 0), none, []⟩,
     ⟨some 39, .call 24 [(.t 38), (.c (.int .i64 1)), (.c (.int .i64 2))], none, []⟩,
     ⟨some 40, .mov (.t 0), none, []⟩,
     ⟨some 41, .call 24 [(.t 40), (.c (.int .i64 1)), (.c (.int .i64 2))], none, []⟩,
     ⟨some 42, .bslice 2 [(.lit (.int .i64 0)), (.lit (.int .i64 0)), (.lit (.string ⟨#[]⟩)), (.lit (.slice none 0 0)), (.lit (.int .i64 0)), (.lit (.int .i64 0)), (.lit (.string ⟨#[]⟩)), (.lit (.slice none 0 0))] [(0, 4, (.t 39)), (4, 4, (.t 41))], none, []⟩,
     ⟨some 43, .build [(.lit (.int .i64 0)), (.lit (.int .i64 0)), (.lit (.string ⟨#[]⟩)), (.lit (.slice none 0 0))] [(0, 1, (.c (.int .i64 5))), (3, 1, (.t 42))], none, []⟩,
     ⟨none, .store 4 (.t 4) (.t 43), none, []⟩] [4])
   (.ret))
   (.skip)))
  (.seq (.seq (.region none [⟨some 44, .mov (.t 5), none, []⟩,
    ⟨some 45, .bin .eql (.t 44) (.c (.int .i64 6)), none, []⟩] [0, 1, 4, 5, 45])
  (.cond (.t 45)
   (.seq (.region none [⟨some 46, .build [(.lit (.int .i64 0)), (.lit (.int .i64 0)), (.lit (.string ⟨#[]⟩)), (.lit (.slice none 0 0))] [(0, 1, (.c (.int .i64 6)))], none, []⟩,
     ⟨none, .store 4 (.t 4) (.t 46), none, []⟩] [4])
   (.ret))
   (.skip)))
  (.seq (.seq (.region none [⟨some 47, .mov (.t 5), none, []⟩,
    ⟨some 48, .bin .eql (.t 47) (.c (.int .i64 7)), none, []⟩] [0, 1, 4, 48])
  (.cond (.t 48)
   (.seq (.region none [⟨some 49, .mov (.t 0), none, []⟩,
     ⟨some 50, .call 24 [(.t 49), (.c (.int .i64 2)), (.c (.int .i64 2))], none, []⟩,
     ⟨some 51, .mov (.t 0), none, []⟩,
     ⟨some 52, .mov (.t 1), none, []⟩,
     ⟨some 53, .bin .sub (.t 52) (.c (.int .i64 1)), none, []⟩,
     ⟨some 54, .call 29 [(.t 51), (.t 53)], none, []⟩,
     ⟨some 55, .mov (.t 0), none, []⟩,
     ⟨some 56, .mov (.t 1), none, []⟩,
     ⟨some 57, .bin .sub (.t 56) (.c (.int .i64 1)), none, []⟩,
     ⟨some 58, .call 29 [(.t 55), (.t 57)], none, []⟩,
     ⟨some 59, .bslice 3 [(.lit (.int .i64 0)), (.lit (.int .i64 0)), (.lit (.string ⟨#[]⟩)), (.lit (.slice none 0 0)), (.lit (.int .i64 0)), (.lit (.int .i64 0)), (.lit (.string ⟨#[]⟩)), (.lit (.slice none 0 0)), (.lit (.int .i64 0)), (.lit (.int .i64 0)), (.lit (.string ⟨#[]⟩)), (.lit (.slice none 0 0))] [(0, 4, (.t 50)), (4, 4, (.t 54)), (8, 4, (.t 58))], none, []⟩,
     ⟨some 60, .build [(.lit (.int .i64 0)), (.lit (.int .i64 0)), (.lit (.string ⟨#[]⟩)), (.lit (.slice none 0 0))] [(0, 1, (.c (.int .i64 3))), (3, 1, (.t 59))], none, []⟩,
     ⟨none, .store 4 (.t 4) (.t 60), none, []⟩] [4])
   (.ret))
   (.skip)))
  (.seq (.region none [⟨some 61, .mov (.t 0), none, []⟩,
    ⟨some 62, .call 24 [(.t 61), (.c (.int .i64 2)), (.c (.int .i64 2))], none, []⟩,
    ⟨some 63, .mov (.t 0), none, []⟩,
    ⟨some 64, .mov (.t 1), none, []⟩,
    ⟨some 65, .bin .sub (.t 64) (.c (.int .i64 1)), none, []⟩,
    ⟨some 66, .call 29 [(.t 63), (.t 65)], none, []⟩,
    ⟨some 67, .bslice 2 [(.lit (.int .i64 0)), (.lit (.int .i64 0)), (.lit (.string ⟨#[]⟩)), (.lit (.slice none 0 0)), (.lit (.int .i64 0)), (.lit (.int .i64 0)), (.lit (.string ⟨#[]⟩)), (.lit (.slice none 0 0))] [(0, 4, (.t 62)), (4, 4, (.t 66))], none, []⟩,
    ⟨some 68, .build [(.lit (.int .i64 0)), (.lit (.int .i64 0)), (.lit (.string ⟨#[]⟩)), (.lit (.slice none 0 0))] [(0, 1, (.c (.int .i64 4))), (3, 1, (.t 67))], none, []⟩,
    ⟨none, .store 4 (.t 4) (.t 68), none, []⟩] [4])
  (.ret))))))))), false⟩
def F37l0 : PC := (.seq (.region none [⟨some 10, .bin .lss (.t 9) (.t 8), none, []⟩] [2, 7, 8, 9, 10])
   (.seq (.cond (.t 10)
    (.skip)
    (.exit 0))
   (.seq (.block 1 (.seq (.region none [⟨some 11, .indexAddr 4 (.t 7) (.t 9), none, []⟩,
     ⟨some 12, .load true 4 (.t 11), none, []⟩,
     ⟨some 6, .alloc [(.lit (.int .i64 0)), (.lit (.int .i64 0)), (.lit (.string ⟨#[]⟩)), (.lit (.slice none 0 0))], none, []⟩,
     ⟨none, .store 4 (.t 6) (.t 12), none, []⟩] [2, 6, 7, 8, 9])
   (.seq (.region none [⟨some 13, .load true 1 (.t 2), none, []⟩,
     ⟨some 14, .load true 4 (.t 6), none, []⟩,
     ⟨some 15, .call 30 [(.t 13), (.t 14)], none, []⟩,
     ⟨some 16, .un .not (.t 15), none, []⟩] [2, 7, 8, 9, 16])
   (.cond (.t 16)
    (.seq (.region none [⟨some 4, .mov (.c (.bool false)), none, []⟩] [4])
    (.ret))
    (.skip)))))
   (.region none [⟨some 17, .bin .add (.t 9) (.c (.int .i64 1)), none, []⟩,
     ⟨some 9, .mov (.t 17), none, []⟩] [2, 7, 8, 9]))))
theorem run_F37l0 (C : Task → Option Res) (k : Nat) (fr : Fr) (σ : S) : run C k F37l0 fr σ = run C k (.seq (.region none [⟨some 10, .bin .lss (.t 9) (.t 8), none, []⟩] [2, 7, 8, 9, 10])
   (.seq (.cond (.t 10)
    (.skip)
    (.exit 0))
   (.seq (.block 1 (.seq (.region none [⟨some 11, .indexAddr 4 (.t 7) (.t 9), none, []⟩,
     ⟨some 12, .load true 4 (.t 11), none, []⟩,
     ⟨some 6, .alloc [(.lit (.int .i64 0)), (.lit (.int .i64 0)), (.lit (.string ⟨#[]⟩)), (.lit (.slice none 0 0))], none, []⟩,
     ⟨none, .store 4 (.t 6) (.t 12), none, []⟩] [2, 6, 7, 8, 9])
   (.seq (.region none [⟨some 13, .load true 1 (.t 2), none, []⟩,
     ⟨some 14, .load true 4 (.t 6), none, []⟩,
     ⟨some 15, .call 30 [(.t 13), (.t 14)], none, []⟩,
     ⟨some 16, .un .not (.t 15), none, []⟩] [2, 7, 8, 9, 16])
   (.cond (.t 16)
    (.seq (.region none [⟨some 4, .mov (.c (.bool false)), none, []⟩] [4])
    (.ret))
    (.skip)))))
   (.region none [⟨some 17, .bin .add (.t 9) (.c (.int .i64 1)), none, []⟩,
     ⟨some 9, .mov (.t 17), none, []⟩] [2, 7, 8, 9])))) fr σ := rfl
/-- (arenanet/typecheck.checker).allWellTyped -/
def F37 : PFun := ⟨2, [.tmp 4],
  .seq (.region none [⟨some 2, .box (.t 0), none, []⟩,
    ⟨some 4, .mov (.c (.bool false)), none, []⟩] [1, 2])
  (.seq (.seq (.region none [⟨some 7, .mov (.t 1), none, []⟩,
    ⟨some 8, .len .sl (.t 7), none, []⟩,
    ⟨some 9, .mov (.c (.int .i64 0)), none, []⟩] [2, 7, 8, 9])
  (.block 0 (.loop F37l0)))
  (.seq (.region none [⟨some 4, .mov (.c (.bool true)), none, []⟩] [4])
  (.ret))), false⟩
/-- arenanet/typecheck.nodes$1 -/
def F38 : PFun := ⟨2, [],
  .region none [⟨some 3, .load true 4 (.t 1), none, []⟩,
    ⟨some 4, .mov (.t 0), none, []⟩,
    ⟨some 5, .call 39 [(.t 3), (.t 4)], none, []⟩] [], false⟩
def F39l0 : PC := (.seq (.region none [⟨some 15, .bin .lss (.t 14) (.t 13), none, []⟩] [1, 12, 13, 14, 15])
   (.seq (.cond (.t 15)
    (.skip)
    (.exit 0))
   (.seq (.block 1 (.seq (.region none [⟨some 16, .indexAddr 4 (.t 12) (.t 14), none, []⟩,
     ⟨some 17, .load true 4 (.t 16), none, []⟩,
     ⟨some 6, .alloc [(.lit (.int .i64 0)), (.lit (.int .i64 0)), (.lit (.string ⟨#[]⟩)), (.lit (.slice none 0 0))], none, []⟩,
     ⟨none, .store 4 (.t 6) (.t 17), none, []⟩] [1, 6, 12, 13, 14])
   (.seq (.region none [⟨some 18, .load true 4 (.t 6), none, []⟩,
     ⟨some 19, .mov (.t 1), none, []⟩,
     ⟨some 20, .call 39 [(.t 18), (.t 19)], none, []⟩,
     ⟨some 21, .un .not (.t 20), none, []⟩] [1, 12, 13, 14, 21])
   (.cond (.t 21)
    (.seq (.region none [⟨some 4, .mov (.c (.bool false)), none, []⟩] [4])
    (.ret))
    (.skip)))))
   (.region none [⟨some 22, .bin .add (.t 14) (.c (.int .i64 1)), none, []⟩,
     ⟨some 14, .mov (.t 22), none, []⟩] [1, 12, 13, 14]))))
theorem run_F39l0 (C : Task → Option Res) (k : Nat) (fr : Fr) (σ : S) : run C k F39l0 fr σ = run C k (.seq (.region none [⟨some 15, .bin .lss (.t 14) (.t 13), none, []⟩] [1, 12, 13, 14, 15])
   (.seq (.cond (.t 15)
    (.skip)
    (.exit 0))
   (.seq (.block 1 (.seq (.region none [⟨some 16, .indexAddr 4 (.t 12) (.t 14), none, []⟩,
     ⟨some 17, .load true 4 (.t 16), none, []⟩,
     ⟨some 6, .alloc [(.lit (.int .i64 0)), (.lit (.int .i64 0)), (.lit (.string ⟨#[]⟩)), (.lit (.slice none 0 0))], none, []⟩,
     ⟨none, .store 4 (.t 6) (.t 17), none, []⟩] [1, 6, 12, 13, 14])
   (.seq (.region none [⟨some 18, .load true 4 (.t 6), none, []⟩,
     ⟨some 19, .mov (.t 1), none, []⟩,
     ⟨some 20, .call 39 [(.t 18), (.t 19)], none, []⟩,
     ⟨some 21, .un .not (.t 20), none, []⟩] [1, 12, 13, 14, 21])
   (.cond (.t 21)
    (.seq (.region none [⟨some 4, .mov (.c (.bool false)), none, []⟩] [4])
    (.ret))
    (.skip)))))
   (.region none [⟨some 22, .bin .add (.t 14) (.c (.int .i64 1)), none, []⟩,
     ⟨some 14, .mov (.t 22), none, []⟩] [1, 12, 13, 14])))) fr σ := rfl
/-- arenanet/typecheck.visit -/
def F39 : PFun := ⟨2, [.tmp 4],
  .seq (.region none [⟨some 2, .box (.t 0), none, []⟩,
    ⟨some 4, .mov (.c (.bool false)), none, []⟩] [1, 2])
  (.seq (.seq (.region none [⟨some 7, .mov (.t 1), none, []⟩,
    ⟨some 8, .load true 4 (.t 2), none, []⟩,
    ⟨some 9, .callv (.t 7) [(.t 8)], none, []⟩,
    ⟨some 10, .un .not (.t 9), none, []⟩] [1, 2, 10])
  (.cond (.t 10)
   (.seq (.region none [⟨some 4, .mov (.c (.bool false)), none, []⟩] [4])
   (.ret))
   (.skip)))
  (.seq (.seq (.region none [⟨some 11, .fieldAddr 3 (.t 2), none, []⟩,
    ⟨some 12, .load false 1 (.t 11), none, []⟩,
    ⟨some 13, .len .sl (.t 12), none, []⟩,
    ⟨some 14, .mov (.c (.int .i64 0)), none, []⟩] [1, 12, 13, 14])
  (.block 0 (.loop F39l0)))
  (.seq (.region none [⟨some 4, .mov (.c (.bool true)), none, []⟩] [4])
  (.ret)))), false⟩
def prog : Nat → Option PFun
  | 0 => some F0
  | 1 => some F1
  | 2 => some F2
  | 3 => some F3
  | 4 => some F4
  | 5 => some F5
  | 6 => some F6
  | 7 => some F7
  | 8 => some F8
  | 9 => some F9
  | 10 => some F10
  | 11 => some F11
  | 12 => some F12
  | 13 => some F13
  | 14 => some F14
  | 15 => some F15
  | 16 => some F16
  | 17 => some F17
  | 18 => some F18
  | 19 => some F19
  | 20 => some F20
  | 21 => some F21
  | 22 => some F22
  | 23 => some F23
  | 24 => some F24
  | 25 => some F25
  | 26 => some F26
  | 27 => some F27
  | 28 => some F28
  | 29 => some F29
  | 30 => some F30
  | 31 => some F31
  | 32 => some F32
  | 33 => some F33
  | 34 => some F34
  | 35 => some F35
  | 36 => some F36
  | 37 => some F37
  | 38 => some F38
  | 39 => some F39
  | _ => none
end Go.Pm.F
