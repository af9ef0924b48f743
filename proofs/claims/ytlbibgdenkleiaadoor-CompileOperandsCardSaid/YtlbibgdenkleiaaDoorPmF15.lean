/- The abstract machine's program, the second part. -/
import Derived.Test.YtlbibgdenkleiaaDoorPmF15a
set_option linter.unusedSimpArgs false
set_option linter.unusedVariables false
section SF15
namespace Go.Pm.F
/-- (*arenanet/arenanetref13.P).expect -/
def F150 : PFun := ⟨2, [],
 .seq (.seq (.region none [⟨some 4, .mov (.t 0), none, []⟩,
 ⟨some 5, .nilchk (.t 4), none, []⟩,
 ⟨some 6, .fieldAddr 3 (.t 5), none, []⟩,
 ⟨some 7, .load false 1 (.t 6), none, []⟩,
 ⟨some 8, .bin .eql (.t 7) (.c (.int .i64 0)), none, []⟩,
 ⟨some 9, .mov (.t 8), none, []⟩,
 ⟨some 10, .mov (.t 0), some (9, true), []⟩,
 ⟨some 11, .call 151 [(.t 10)], some (9, true), []⟩,
 ⟨some 12, .mov (.t 1), some (9, true), []⟩,
 ⟨some 13, .bin .neq (.t 11) (.t 12), some (9, true), []⟩,
 ⟨some 14, .pick (.t 9) (.t 13) (.c (.bool false)), none, []⟩] [0, 14])
 (.cond (.t 14)
 (.region none [⟨some 15, .mov (.t 0), none, []⟩,
 ⟨some 16, .call 153 [(.t 15), (.c (.int .i64 12))], none, []⟩] [0])
 (.skip)))
 (.seq (.region none [⟨some 17, .mov (.t 0), none, []⟩,
 ⟨some 18, .nilchk (.t 17), none, []⟩,
 ⟨some 19, .fieldAddr 3 (.t 18), none, []⟩,
 ⟨some 20, .load false 1 (.t 19), none, []⟩,
 ⟨some 21, .bin .eql (.t 20) (.c (.int .i64 0)), none, []⟩] [0, 21])
 (.cond (.t 21)
 (.region none [⟨some 22, .mov (.t 0), none, []⟩,
 ⟨some 23, .call 154 [(.t 22)], none, []⟩] [])
 (.skip))), false, false, false⟩
/-- (*arenanet/arenanetref13.P).next -/
def F151 : PFun := ⟨1, [.tmp 2],
 .seq (.region none [⟨some 2, .mov (.c (.string ⟨#[]⟩)), none, []⟩] [0])
 (.seq (.region (some [(22, [(.lit (.int .i64 0)), (.lit (.string ⟨#[]⟩)), (.lit (.int .i64 0))])]) [⟨some 4, .mov (.t 0), none, []⟩,
 ⟨some 5, .nilchk (.t 4), none, []⟩,
 ⟨some 6, .fieldAddr 0 (.t 5), none, []⟩,
 ⟨some 7, .load false 1 (.t 6), none, []⟩,
 ⟨some 8, .mov (.t 0), none, []⟩,
 ⟨some 9, .nilchk (.t 8), none, []⟩,
 ⟨some 10, .fieldAddr 1 (.t 9), none, []⟩,
 ⟨some 11, .load false 1 (.t 10), none, []⟩,
 ⟨some 12, .indexAddr 3 (.t 7) (.t 11), none, []⟩,
 ⟨some 13, .load true 3 (.t 12), none, []⟩,
 ⟨some 3, .fill 22, none, []⟩,
 ⟨none, .store 3 (.t 3) (.t 13), none, []⟩] [3])
 (.seq (.seq (.region none [⟨some 14, .fieldAddr 2 (.t 3), none, []⟩,
 ⟨some 15, .load false 1 (.t 14), none, []⟩,
 ⟨some 16, .bin .neq (.t 15) (.c (.int .i64 0)), none, []⟩] [3, 16])
 (.cond (.t 16)
 (.seq (.region none [⟨some 2, .mov (.c (.string ⟨#[63]⟩)), none, []⟩] [2])
 (.ret))
 (.skip)))
 (.seq (.region none [⟨some 17, .fieldAddr 1 (.t 3), none, []⟩,
 ⟨some 18, .load false 1 (.t 17), none, []⟩,
 ⟨some 2, .mov (.t 18), none, []⟩] [2])
 (.ret)))), false, false, false⟩
/-- arenanet/arenanetref13.handlers -/
def F152 : PFun := ⟨0, [.tmp 0],
 .seq (.region none [⟨some 0, .mov (.c (.slice none 0 0)), none, []⟩] [])
 (.seq (.region none [⟨some 1, .bslice 3 [(.lit (.string ⟨#[]⟩)), (.lit (.string ⟨#[]⟩)), (.lit (.string ⟨#[]⟩))] [(0, 1, (.c (.string ⟨#[97, 99, 116]⟩))), (1, 1, (.c (.string ⟨#[116, 105, 99, 107]⟩))), (2, 1, (.c (.string ⟨#[104, 105, 116]⟩)))], none, []⟩,
 ⟨some 0, .mov (.t 1), none, []⟩] [0])
 (.ret)), false, false, false⟩
/-- (*arenanet/arenanetref13.P).fail -/
def F153 : PFun := ⟨2, [],
 .seq (.seq (.region none [⟨some 4, .mov (.t 0), none, []⟩,
 ⟨some 5, .nilchk (.t 4), none, []⟩,
 ⟨some 6, .fieldAddr 3 (.t 5), none, []⟩,
 ⟨some 7, .load false 1 (.t 6), none, []⟩,
 ⟨some 8, .bin .neq (.t 7) (.c (.int .i64 0)), none, []⟩] [0, 1, 8])
 (.cond (.t 8)
 (.ret)
 (.skip)))
 (.seq (.region (some []) [⟨some 9, .mov (.t 0), none, []⟩,
 ⟨some 10, .mov (.t 0), none, []⟩,
 ⟨some 11, .nilchk (.t 10), none, []⟩,
 ⟨some 12, .fieldAddr 0 (.t 11), none, []⟩,
 ⟨some 13, .load false 1 (.t 12), none, []⟩,
 ⟨some 14, .mov (.t 0), none, []⟩,
 ⟨some 15, .nilchk (.t 14), none, []⟩,
 ⟨some 16, .fieldAddr 1 (.t 15), none, []⟩,
 ⟨some 17, .load false 1 (.t 16), none, []⟩,
 ⟨some 18, .indexAddr 3 (.t 13) (.t 17), none, []⟩,
 ⟨some 19, .fieldAddr 0 (.t 18), none, []⟩,
 ⟨some 20, .load false 1 (.t 19), none, []⟩,
 ⟨some 21, .nilchk (.t 9), none, []⟩,
 ⟨some 22, .fieldAddr 2 (.t 21), none, []⟩,
 ⟨none, .store 1 (.t 22) (.t 20), none, []⟩] [0, 1])
 (.seq (.region none [⟨some 23, .mov (.t 0), none, []⟩,
 ⟨some 24, .mov (.t 1), none, []⟩,
 ⟨some 25, .nilchk (.t 23), none, []⟩,
 ⟨some 26, .fieldAddr 3 (.t 25), none, []⟩,
 ⟨none, .store 1 (.t 26) (.t 24), none, []⟩] [0])
 (.seq (.region (some []) [⟨some 27, .mov (.t 0), none, []⟩,
 ⟨some 28, .nilchk (.t 27), none, []⟩,
 ⟨some 29, .fieldAddr 0 (.t 28), none, []⟩,
 ⟨some 30, .load false 1 (.t 29), none, []⟩,
 ⟨some 31, .mov (.t 0), none, []⟩,
 ⟨some 32, .nilchk (.t 31), none, []⟩,
 ⟨some 33, .fieldAddr 1 (.t 32), none, []⟩,
 ⟨some 34, .load false 1 (.t 33), none, []⟩,
 ⟨some 35, .indexAddr 3 (.t 30) (.t 34), none, []⟩,
 ⟨some 36, .fieldAddr 2 (.t 35), none, []⟩,
 ⟨some 37, .load false 1 (.t 36), none, []⟩,
 ⟨some 38, .bin .neq (.t 37) (.c (.int .i64 0)), none, []⟩] [0, 38])
 (.cond (.t 38)
 (.region (some []) [⟨some 39, .mov (.t 0), none, []⟩,
 ⟨some 40, .mov (.t 0), none, []⟩,
 ⟨some 41, .nilchk (.t 40), none, []⟩,
 ⟨some 42, .fieldAddr 0 (.t 41), none, []⟩,
 ⟨some 43, .load false 1 (.t 42), none, []⟩,
 ⟨some 44, .mov (.t 0), none, []⟩,
 ⟨some 45, .nilchk (.t 44), none, []⟩,
 ⟨some 46, .fieldAddr 1 (.t 45), none, []⟩,
 ⟨some 47, .load false 1 (.t 46), none, []⟩,
 ⟨some 48, .indexAddr 3 (.t 43) (.t 47), none, []⟩,
 ⟨some 49, .fieldAddr 2 (.t 48), none, []⟩,
 ⟨some 50, .load false 1 (.t 49), none, []⟩,
 ⟨some 51, .nilchk (.t 39), none, []⟩,
 ⟨some 52, .fieldAddr 3 (.t 51), none, []⟩,
 ⟨none, .store 1 (.t 52) (.t 50), none, []⟩] [])
 (.skip))))), false, false, false⟩
/-- (*arenanet/arenanetref13.P).take -/
def F154 : PFun := ⟨1, [],
 .seq (.region (some []) [⟨some 2, .mov (.t 0), none, []⟩,
 ⟨some 3, .nilchk (.t 2), none, []⟩,
 ⟨some 4, .fieldAddr 1 (.t 3), none, []⟩,
 ⟨some 5, .load false 1 (.t 4), none, []⟩,
 ⟨some 6, .bin .add (.t 5) (.c (.int .i64 1)), none, []⟩,
 ⟨some 7, .mov (.t 0), none, []⟩,
 ⟨some 8, .nilchk (.t 7), none, []⟩,
 ⟨some 9, .fieldAddr 0 (.t 8), none, []⟩,
 ⟨some 10, .load false 1 (.t 9), none, []⟩,
 ⟨some 11, .len .sl (.t 10), none, []⟩,
 ⟨some 12, .bin .lss (.t 6) (.t 11), none, []⟩] [0, 12])
 (.cond (.t 12)
 (.region none [⟨some 13, .mov (.t 0), none, []⟩,
 ⟨some 14, .nilchk (.t 13), none, []⟩,
 ⟨some 15, .fieldAddr 1 (.t 14), none, []⟩,
 ⟨some 16, .load false 1 (.t 15), none, []⟩,
 ⟨some 17, .bin .add (.t 16) (.c (.int .i64 1)), none, []⟩,
 ⟨some 18, .nilchk (.t 13), none, []⟩,
 ⟨some 19, .fieldAddr 1 (.t 18), none, []⟩,
 ⟨none, .store 1 (.t 19) (.t 17), none, []⟩] [])
 (.skip)), false, false, false⟩
@[simp] def F155l0x : PC := (.seq (.seq (.region none [⟨some 10, .mov (.t 0), none, []⟩,
 ⟨some 11, .nilchk (.t 10), none, []⟩,
 ⟨some 12, .fieldAddr 3 (.t 11), none, []⟩,
 ⟨some 13, .load false 1 (.t 12), none, []⟩,
 ⟨some 14, .bin .eql (.t 13) (.c (.int .i64 0)), none, []⟩,
 ⟨some 15, .mov (.t 14), none, []⟩,
 ⟨some 16, .mov (.t 0), some (15, true), []⟩,
 ⟨some 17, .call 151 [(.t 16)], some (15, true), []⟩,
 ⟨some 18, .bin .neq (.t 17) (.c (.string ⟨#[125]⟩)), some (15, true), []⟩,
 ⟨some 19, .pick (.t 15) (.t 18) (.c (.bool false)), none, []⟩] [0, 1, 4, 5, 19])
 (.cond (.t 19)
 (.skip)
 (.exit 0)))
 (.block 1 (.region (some []) [⟨some 20, .fieldAddr 3 (.t 5), none, []⟩,
 ⟨some 21, .load false 1 (.t 20), none, [4]⟩,
 ⟨some 22, .mov (.t 0), none, []⟩,
 ⟨some 23, .mov (.t 1), none, []⟩,
 ⟨some 24, .call 173 [(.t 22), (.t 23)], none, []⟩,
 ⟨some 25, .bslice 1 [(.lit (.int .i64 0)), (.lit (.int .i64 0)), (.lit (.string ⟨#[]⟩)), (.lit (.slice none 0 0))] [(0, 4, (.t 24))], none, []⟩,
 ⟨some 26, .append 4 56 (.t 21) (.t 25), none, []⟩,
 ⟨some 27, .fieldAddr 3 (.t 5), none, []⟩,
 ⟨none, .store 1 (.t 27) (.t 26), none, []⟩] [0, 1, 4, 5] [4])))
def F155l0 : PC := F155l0x
theorem run_F155l0 (C : Task → Option Res) (k : Nat) (fr : Fr) (σ : S) : run C k F155l0 fr σ = run C k F155l0x fr σ := rfl
/-- (*arenanet/arenanetref13.P).block -/
def F155 : PFun := ⟨2, [.cell 4 true 4],
 .seq (.region none [⟨some 4, .alloc [(.lit (.int .i64 0)), (.lit (.int .i64 0)), (.lit (.string ⟨#[]⟩)), (.lit (.slice none 0 0))], none, []⟩] [0, 1, 4])
 (.seq (.region none [⟨some 6, .build [(.lit (.int .i64 0)), (.lit (.int .i64 0)), (.lit (.string ⟨#[]⟩)), (.lit (.slice none 0 0))] [(0, 1, (.c (.int .i64 7)))], none, []⟩,
 ⟨some 5, .alloc [(.lit (.int .i64 0)), (.lit (.int .i64 0)), (.lit (.string ⟨#[]⟩)), (.lit (.slice none 0 0))], none, []⟩,
 ⟨none, .store 4 (.t 5) (.t 6), none, []⟩] [0, 1, 4, 5])
 (.seq (.region none [⟨some 7, .mov (.t 0), none, []⟩,
 ⟨some 8, .mov (.t 1), none, []⟩,
 ⟨some 9, .call 172 [(.t 7), (.c (.string ⟨#[123]⟩)), (.t 8)], none, []⟩] [0, 1, 4, 5])
 (.seq (.block 0 (.loop F155l0))
 (.seq (.region none [⟨some 28, .mov (.t 0), none, []⟩,
 ⟨some 29, .call 150 [(.t 28), (.c (.string ⟨#[125]⟩))], none, []⟩] [4, 5])
 (.seq (.region none [⟨some 30, .load true 4 (.t 5), none, []⟩,
 ⟨none, .store 4 (.t 4) (.t 30), none, []⟩] [4])
 (.ret)))))), false, false, false⟩
@[simp] def F33l0x : PC := (.seq (.seq (.region none [⟨some 30, .mov (.t 6), none, []⟩,
 ⟨some 31, .fieldAddr 3 (.t 2), none, []⟩,
 ⟨some 32, .load false 1 (.t 31), none, []⟩,
 ⟨some 33, .len .sl (.t 32), none, []⟩,
 ⟨some 34, .bin .lss (.t 30) (.t 33), none, []⟩] [1, 2, 6, 34])
 (.cond (.t 34)
 (.skip)
 (.exit 0)))
 (.seq (.block 1 (.region none [⟨some 37, .fieldAddr 3 (.t 2), none, []⟩,
 ⟨some 38, .load false 1 (.t 37), none, []⟩,
 ⟨some 39, .mov (.t 6), none, []⟩,
 ⟨some 40, .indexAddr 4 (.t 38) (.t 39), none, []⟩,
 ⟨some 41, .load true 4 (.t 40), none, []⟩,
 ⟨some 42, .mov (.t 1), none, []⟩,
 ⟨some 43, .call 33 [(.t 41), (.t 42)], none, []⟩,
 ⟨some 1, .mov (.t 43), none, []⟩] [1, 2, 6]))
 (.region none [⟨some 35, .mov (.t 6), none, []⟩,
 ⟨some 36, .bin .add (.t 35) (.c (.int .i64 1)), none, []⟩,
 ⟨some 6, .mov (.t 36), none, []⟩] [1, 2, 6])))
def F33l0 : PC := F33l0x
theorem run_F33l0 (C : Task → Option Res) (k : Nat) (fr : Fr) (σ : S) : run C k F33l0 fr σ = run C k F33l0x fr σ := rfl
/-- arenanet/arenanetref14.names -/
def F33 : PFun := ⟨2, [.tmp 4],
 .seq (.region none [⟨some 2, .box (.t 0), none, []⟩,
 ⟨some 4, .mov (.c (.slice none 0 0)), none, []⟩] [1, 2])
 (.seq (.seq (.region none [⟨some 7, .fieldAddr 0 (.t 2), none, []⟩,
 ⟨some 8, .load false 1 (.t 7), none, []⟩,
 ⟨some 9, .bin .eql (.t 8) (.c (.int .i64 1)), none, []⟩,
 ⟨some 10, .mov (.t 9), none, []⟩,
 ⟨some 11, .fieldAddr 0 (.t 2), some (10, false), []⟩,
 ⟨some 12, .load false 1 (.t 11), some (10, false), []⟩,
 ⟨some 13, .bin .eql (.t 12) (.c (.int .i64 10)), some (10, false), []⟩,
 ⟨some 14, .pick (.t 10) (.c (.bool true)) (.t 13), none, []⟩,
 ⟨some 15, .mov (.t 14), none, []⟩,
 ⟨some 16, .mov (.t 1), some (15, true), []⟩,
 ⟨some 17, .fieldAddr 2 (.t 2), some (15, true), []⟩,
 ⟨some 18, .load false 1 (.t 17), some (15, true), []⟩,
 ⟨some 19, .call 28 [(.t 16), (.t 18)], some (15, true), []⟩,
 ⟨some 20, .un .not (.t 19), some (15, true), []⟩,
 ⟨some 21, .pick (.t 15) (.t 20) (.c (.bool false)), none, []⟩] [1, 2, 21])
 (.cond (.t 21)
 (.seq (.region none [⟨some 5, .mov (.c (.slice none 0 0)), none, []⟩] [1, 2, 5])
 (.seq (.region none [⟨some 22, .mov (.t 5), none, []⟩,
 ⟨some 23, .mov (.t 1), none, []⟩,
 ⟨some 24, .append 1 16 (.t 22) (.t 23), none, []⟩,
 ⟨some 5, .mov (.t 24), none, []⟩] [2, 5])
 (.region none [⟨some 25, .mov (.t 5), none, []⟩,
 ⟨some 26, .fieldAddr 2 (.t 2), none, []⟩,
 ⟨some 27, .load false 1 (.t 26), none, []⟩,
 ⟨some 28, .bslice 1 [(.lit (.string ⟨#[]⟩))] [(0, 1, (.t 27))], none, []⟩,
 ⟨some 29, .append 1 16 (.t 25) (.t 28), none, []⟩,
 ⟨some 1, .mov (.t 29), none, []⟩] [1, 2])))
 (.skip)))
 (.seq (.seq (.region none [⟨some 6, .mov (.c (.int .i64 0)), none, []⟩] [1, 2, 6])
 (.block 0 (.loop F33l0)))
 (.seq (.region none [⟨some 44, .mov (.t 1), none, []⟩,
 ⟨some 4, .mov (.t 44), none, []⟩] [4])
 (.ret)))), false, false, false⟩
@[simp] def F156l0x : PC := (.seq (.seq (.region none [⟨some 6, .mov (.t 5), none, []⟩,
 ⟨some 7, .mov (.t 0), none, []⟩,
 ⟨some 8, .len .sl (.t 7), none, []⟩,
 ⟨some 9, .bin .lss (.t 6) (.t 8), none, []⟩] [0, 1, 5, 9])
 (.cond (.t 9)
 (.skip)
 (.exit 0)))
 (.seq (.block 1 (.seq (.region none [⟨some 12, .mov (.t 0), none, []⟩,
 ⟨some 13, .mov (.t 5), none, []⟩,
 ⟨some 14, .indexAddr 1 (.t 12) (.t 13), none, []⟩,
 ⟨some 15, .load false 1 (.t 14), none, []⟩,
 ⟨some 16, .mov (.t 1), none, []⟩,
 ⟨some 17, .bin .eql (.t 15) (.t 16), none, []⟩] [0, 1, 5, 17])
 (.cond (.t 17)
 (.seq (.region none [⟨some 18, .mov (.t 5), none, []⟩,
 ⟨some 4, .mov (.t 18), none, []⟩] [4])
 (.ret))
 (.skip))))
 (.region none [⟨some 10, .mov (.t 5), none, []⟩,
 ⟨some 11, .bin .add (.t 10) (.c (.int .i64 1)), none, []⟩,
 ⟨some 5, .mov (.t 11), none, []⟩] [0, 1, 5])))
def F156l0 : PC := F156l0x
theorem run_F156l0 (C : Task → Option Res) (k : Nat) (fr : Fr) (σ : S) : run C k F156l0 fr σ = run C k F156l0x fr σ := rfl
/-- arenanet/arenanetref15.index -/
def F156 : PFun := ⟨2, [.tmp 4],
 .seq (.region none [⟨some 4, .mov (.c (.int .i64 0)), none, []⟩] [0, 1])
 (.seq (.seq (.region none [⟨some 5, .mov (.c (.int .i64 0)), none, []⟩] [0, 1, 5])
 (.block 0 (.loop F156l0)))
 (.seq (.region none [⟨some 4, .mov (.c (.int .i64 (-1))), none, []⟩] [4])
 (.ret))), false, false, false⟩
/-- arenanet/arenanetref15.name -/
def F157 : PFun := ⟨1, [.tmp 2],
 .seq (.region none [⟨some 2, .mov (.c (.int .i64 0)), none, []⟩] [0])
 (.seq (.seq (.region none [⟨some 3, .mov (.t 0), none, []⟩,
 ⟨some 4, .bin .eql (.t 3) (.c (.string ⟨#[115, 101, 108, 102]⟩)), none, []⟩] [0, 4])
 (.cond (.t 4)
 (.seq (.region none [⟨some 2, .mov (.c (.int .i64 6)), none, []⟩] [2])
 (.ret))
 (.skip)))
 (.seq (.seq (.region none [⟨some 5, .mov (.t 0), none, []⟩,
 ⟨some 6, .bin .eql (.t 5) (.c (.string ⟨#[111, 116, 104, 101, 114]⟩)), none, []⟩] [6])
 (.cond (.t 6)
 (.seq (.region none [⟨some 2, .mov (.c (.int .i64 7)), none, []⟩] [2])
 (.ret))
 (.skip)))
 (.seq (.region none [⟨some 2, .mov (.c (.int .i64 8)), none, []⟩] [2])
 (.ret)))), false, false, false⟩
/-- arenanet/arenanetref15.binary -/
def F158 : PFun := ⟨3, [.tmp 6],
 .seq (.region none [⟨some 3, .box (.t 0), none, []⟩,
 ⟨some 6, .mov (.c (.slice none 0 0)), none, []⟩] [1, 2, 3])
 (.seq (.region none [⟨some 11, .fieldAddr 3 (.t 3), none, []⟩,
 ⟨some 12, .load false 1 (.t 11), none, []⟩,
 ⟨some 13, .slice 4 (.t 12) none (some (.c (.int .i64 1))), none, []⟩,
 ⟨some 7, .mov (.t 13), none, []⟩] [1, 2, 3, 7])
 (.seq (.region none [⟨some 14, .fieldAddr 3 (.t 3), none, []⟩,
 ⟨some 15, .load false 1 (.t 14), none, []⟩,
 ⟨some 16, .slice 4 (.t 15) (some (.c (.int .i64 1))) (some (.c (.int .i64 2))), none, []⟩,
 ⟨some 8, .mov (.t 16), none, []⟩] [1, 2, 3, 7, 8])
 (.seq (.seq (.region none [⟨some 17, .fieldAddr 2 (.t 3), none, []⟩,
 ⟨some 18, .load false 1 (.t 17), none, []⟩,
 ⟨some 19, .bin .eql (.t 18) (.c (.string ⟨#[38, 38]⟩)), none, []⟩] [1, 2, 3, 7, 8, 19])
 (.cond (.t 19)
 (.seq (.region none [⟨some 20, .mov (.t 7), none, []⟩,
 ⟨some 21, .indexAddr 4 (.t 20) (.c (.int .i64 0)), none, []⟩,
 ⟨some 22, .load true 4 (.t 21), none, []⟩,
 ⟨some 23, .mov (.t 8), none, []⟩,
 ⟨some 24, .mov (.t 1), none, []⟩,
 ⟨some 25, .mov (.t 2), none, []⟩,
 ⟨some 26, .call 159 [(.t 22), (.t 23), (.c (.int .i64 0)), (.c (.slice none 0 0)), (.c (.int .i64 0)), (.t 24), (.t 25)], none, []⟩,
 ⟨some 6, .mov (.t 26), none, []⟩] [6])
 (.ret))
 (.skip)))
 (.seq (.seq (.region none [⟨some 27, .fieldAddr 2 (.t 3), none, []⟩,
 ⟨some 28, .load false 1 (.t 27), none, []⟩,
 ⟨some 29, .bin .eql (.t 28) (.c (.string ⟨#[124, 124]⟩)), none, []⟩] [1, 2, 3, 7, 8, 29])
 (.cond (.t 29)
 (.seq (.region none [⟨some 30, .mov (.t 7), none, []⟩,
 ⟨some 31, .indexAddr 4 (.t 30) (.c (.int .i64 0)), none, []⟩,
 ⟨some 32, .load true 4 (.t 31), none, []⟩,
 ⟨some 33, .mov (.t 8), none, []⟩,
 ⟨some 34, .mov (.t 1), none, []⟩,
 ⟨some 35, .mov (.t 2), none, []⟩,
 ⟨some 36, .call 159 [(.t 32), (.c (.slice none 0 0)), (.c (.int .i64 1)), (.t 33), (.c (.int .i64 0)), (.t 34), (.t 35)], none, []⟩,
 ⟨some 6, .mov (.t 36), none, []⟩] [6])
 (.ret))
 (.skip)))
 (.seq (.region (some []) [⟨some 37, .mov (.t 7), none, []⟩,
 ⟨some 38, .indexAddr 4 (.t 37) (.c (.int .i64 0)), none, []⟩,
 ⟨some 39, .load true 4 (.t 38), none, []⟩,
 ⟨some 40, .mov (.t 8), none, []⟩,
 ⟨some 41, .indexAddr 4 (.t 40) (.c (.int .i64 0)), none, []⟩,
 ⟨some 42, .load true 4 (.t 41), none, []⟩,
 ⟨some 43, .bslice 2 [(.lit (.int .i64 0)), (.lit (.int .i64 0)), (.lit (.string ⟨#[]⟩)), (.lit (.slice none 0 0)), (.lit (.int .i64 0)), (.lit (.int .i64 0)), (.lit (.string ⟨#[]⟩)), (.lit (.slice none 0 0))] [(0, 4, (.t 39)), (4, 4, (.t 42))], none, []⟩,
 ⟨some 9, .mov (.t 43), none, []⟩] [1, 2, 3, 7, 8, 9])
 (.seq (.seq (.region none [⟨some 44, .fieldAddr 2 (.t 3), none, []⟩,
 ⟨some 45, .load false 1 (.t 44), none, []⟩,
 ⟨some 46, .bin .eql (.t 45) (.c (.string ⟨#[62]⟩)), none, []⟩,
 ⟨some 47, .mov (.t 46), none, []⟩,
 ⟨some 48, .fieldAddr 2 (.t 3), some (47, false), []⟩,
 ⟨some 49, .load false 1 (.t 48), some (47, false), []⟩,
 ⟨some 50, .bin .eql (.t 49) (.c (.string ⟨#[62, 61]⟩)), some (47, false), []⟩,
 ⟨some 51, .pick (.t 47) (.c (.bool true)) (.t 50), none, []⟩] [1, 2, 3, 7, 8, 9, 51])
 (.cond (.t 51)
 (.region (some []) [⟨some 52, .mov (.t 8), none, []⟩,
 ⟨some 53, .indexAddr 4 (.t 52) (.c (.int .i64 0)), none, []⟩,
 ⟨some 54, .load true 4 (.t 53), none, []⟩,
 ⟨some 55, .mov (.t 7), none, []⟩,
 ⟨some 56, .indexAddr 4 (.t 55) (.c (.int .i64 0)), none, []⟩,
 ⟨some 57, .load true 4 (.t 56), none, []⟩,
 ⟨some 58, .bslice 2 [(.lit (.int .i64 0)), (.lit (.int .i64 0)), (.lit (.string ⟨#[]⟩)), (.lit (.slice none 0 0)), (.lit (.int .i64 0)), (.lit (.int .i64 0)), (.lit (.string ⟨#[]⟩)), (.lit (.slice none 0 0))] [(0, 4, (.t 54)), (4, 4, (.t 57))], none, []⟩,
 ⟨some 9, .mov (.t 58), none, []⟩] [1, 2, 3, 9])
 (.skip)))
 (.seq (.region (some []) [⟨some 59, .mov (.t 9), none, []⟩,
 ⟨some 60, .mov (.t 1), none, []⟩,
 ⟨some 61, .mov (.t 2), none, []⟩,
 ⟨some 62, .call 160 [(.t 59), (.t 60), (.t 61)], none, []⟩,
 ⟨some 63, .fieldAddr 2 (.t 3), none, []⟩,
 ⟨some 64, .load false 1 (.t 63), none, [3]⟩,
 ⟨some 65, .call 174 [(.t 64)], none, []⟩,
 ⟨some 66, .build [(.lit (.int .i64 0)), (.lit (.int .i64 0))] [(0, 1, (.t 65))], none, []⟩,
 ⟨some 67, .bslice 1 [(.lit (.int .i64 0)), (.lit (.int .i64 0))] [(0, 2, (.t 66))], none, []⟩,
 ⟨some 68, .append 2 16 (.t 62) (.t 67), none, []⟩,
 ⟨some 10, .mov (.t 68), none, []⟩] [3, 10] [6])
 (.seq (.seq (.region none [⟨some 69, .fieldAddr 2 (.t 3), none, []⟩,
 ⟨some 70, .load false 1 (.t 69), none, []⟩,
 ⟨some 71, .bin .eql (.t 70) (.c (.string ⟨#[33, 61]⟩)), none, []⟩] [10, 71])
 (.cond (.t 71)
 (.region none [⟨some 72, .mov (.t 10), none, []⟩,
 ⟨some 73, .build [(.lit (.int .i64 0)), (.lit (.int .i64 0))] [(0, 1, (.c (.int .i64 17)))], none, []⟩,
 ⟨some 74, .bslice 1 [(.lit (.int .i64 0)), (.lit (.int .i64 0))] [(0, 2, (.t 73))], none, []⟩,
 ⟨some 75, .append 2 16 (.t 72) (.t 74), none, []⟩,
 ⟨some 10, .mov (.t 75), none, []⟩] [10])
 (.skip)))
 (.seq (.region none [⟨some 76, .mov (.t 10), none, []⟩,
 ⟨some 6, .mov (.t 76), none, []⟩] [6])
 (.ret)))))))))), true, false, false⟩
/-- arenanet/arenanetref15.branch -/
def F159 : PFun := ⟨7, [.tmp 14],
 .seq (.region none [⟨some 7, .box (.t 0), none, []⟩,
 ⟨some 14, .mov (.c (.slice none 0 0)), none, []⟩] [1, 2, 3, 4, 5, 6, 7])
 (.seq (.region none [⟨some 19, .load true 4 (.t 7), none, []⟩,
 ⟨some 20, .mov (.t 5), none, []⟩,
 ⟨some 21, .mov (.t 6), none, []⟩,
 ⟨some 22, .call 135 [(.t 19), (.t 20), (.t 21)], none, []⟩,
 ⟨some 15, .mov (.t 22), none, []⟩] [1, 2, 3, 4, 5, 6, 15])
 (.seq (.region none [⟨some 23, .mov (.t 1), none, []⟩,
 ⟨some 24, .mov (.t 2), none, []⟩,
 ⟨some 25, .mov (.t 5), none, []⟩,
 ⟨some 26, .mov (.t 6), none, []⟩,
 ⟨some 27, .mov (.t 15), none, []⟩,
 ⟨some 28, .len .sl (.t 27), none, []⟩,
 ⟨some 29, .bin .add (.t 26) (.t 28), none, []⟩,
 ⟨some 30, .bin .add (.t 29) (.c (.int .i64 1)), none, []⟩,
 ⟨some 31, .call 175 [(.t 23), (.t 24), (.t 25), (.t 30)], none, []⟩,
 ⟨some 16, .mov (.t 31), none, []⟩] [3, 4, 5, 6, 15, 16])
 (.seq (.region none [⟨some 32, .mov (.t 6), none, []⟩,
 ⟨some 33, .mov (.t 15), none, []⟩,
 ⟨some 34, .len .sl (.t 33), none, []⟩,
 ⟨some 35, .bin .add (.t 32) (.t 34), none, []⟩,
 ⟨some 36, .bin .add (.t 35) (.c (.int .i64 1)), none, []⟩,
 ⟨some 37, .mov (.t 16), none, []⟩,
 ⟨some 38, .len .sl (.t 37), none, []⟩,
 ⟨some 39, .bin .add (.t 36) (.t 38), none, []⟩,
 ⟨some 40, .bin .add (.t 39) (.c (.int .i64 1)), none, []⟩,
 ⟨some 17, .mov (.t 40), none, []⟩] [3, 4, 5, 15, 16, 17])
 (.seq (.region none [⟨some 41, .mov (.t 3), none, []⟩,
 ⟨some 42, .mov (.t 4), none, []⟩,
 ⟨some 43, .mov (.t 5), none, []⟩,
 ⟨some 44, .mov (.t 17), none, []⟩,
 ⟨some 45, .call 175 [(.t 41), (.t 42), (.t 43), (.t 44)], none, []⟩,
 ⟨some 18, .mov (.t 45), none, []⟩] [15, 16, 17, 18])
 (.seq (.region none [⟨some 46, .mov (.t 15), none, []⟩,
 ⟨some 47, .mov (.t 17), none, []⟩,
 ⟨some 48, .build [(.lit (.int .i64 0)), (.lit (.int .i64 0))] [(0, 1, (.c (.int .i64 19))), (1, 1, (.t 47))], none, []⟩,
 ⟨some 49, .bslice 1 [(.lit (.int .i64 0)), (.lit (.int .i64 0))] [(0, 2, (.t 48))], none, []⟩,
 ⟨some 50, .append 2 16 (.t 46) (.t 49), none, []⟩,
 ⟨some 15, .mov (.t 50), none, []⟩] [15, 16, 17, 18])
 (.seq (.region none [⟨some 51, .mov (.t 15), none, []⟩,
 ⟨some 52, .mov (.t 16), none, []⟩,
 ⟨some 53, .append 2 16 (.t 51) (.t 52), none, []⟩,
 ⟨some 15, .mov (.t 53), none, []⟩] [15, 17, 18])
 (.seq (.region none [⟨some 54, .mov (.t 15), none, []⟩,
 ⟨some 55, .mov (.t 17), none, []⟩,
 ⟨some 56, .mov (.t 18), none, []⟩,
 ⟨some 57, .len .sl (.t 56), none, []⟩,
 ⟨some 58, .bin .add (.t 55) (.t 57), none, []⟩,
 ⟨some 59, .build [(.lit (.int .i64 0)), (.lit (.int .i64 0))] [(0, 1, (.c (.int .i64 18))), (1, 1, (.t 58))], none, []⟩,
 ⟨some 60, .bslice 1 [(.lit (.int .i64 0)), (.lit (.int .i64 0))] [(0, 2, (.t 59))], none, []⟩,
 ⟨some 61, .append 2 16 (.t 54) (.t 60), none, []⟩,
 ⟨some 15, .mov (.t 61), none, []⟩] [15, 18])
 (.seq (.region none [⟨some 62, .mov (.t 15), none, []⟩,
 ⟨some 63, .mov (.t 18), none, []⟩,
 ⟨some 64, .append 2 16 (.t 62) (.t 63), none, []⟩,
 ⟨some 14, .mov (.t 64), none, []⟩] [14])
 (.ret))))))))), true, false, false⟩
@[simp] def F160l0x : PC := (.seq (.seq (.region none [⟨some 9, .mov (.t 8), none, []⟩,
 ⟨some 10, .mov (.t 0), none, []⟩,
 ⟨some 11, .len .sl (.t 10), none, []⟩,
 ⟨some 12, .bin .lss (.t 9) (.t 11), none, []⟩] [0, 1, 2, 7, 8, 12])
 (.cond (.t 12)
 (.skip)
 (.exit 0)))
 (.seq (.block 1 (.region none [⟨some 15, .mov (.t 7), none, []⟩,
 ⟨some 16, .mov (.t 0), none, []⟩,
 ⟨some 17, .mov (.t 8), none, []⟩,
 ⟨some 18, .indexAddr 4 (.t 16) (.t 17), none, []⟩,
 ⟨some 19, .load true 4 (.t 18), none, []⟩,
 ⟨some 20, .mov (.t 1), none, []⟩,
 ⟨some 21, .mov (.t 2), none, []⟩,
 ⟨some 22, .mov (.t 7), none, []⟩,
 ⟨some 23, .len .sl (.t 22), none, []⟩,
 ⟨some 24, .bin .add (.t 21) (.t 23), none, []⟩,
 ⟨some 25, .call 135 [(.t 19), (.t 20), (.t 24)], none, []⟩,
 ⟨some 26, .append 2 16 (.t 15) (.t 25), none, []⟩,
 ⟨some 7, .mov (.t 26), none, []⟩] [0, 1, 2, 7, 8]))
 (.region none [⟨some 13, .mov (.t 8), none, []⟩,
 ⟨some 14, .bin .add (.t 13) (.c (.int .i64 1)), none, []⟩,
 ⟨some 8, .mov (.t 14), none, []⟩] [0, 1, 2, 7, 8])))
def F160l0 : PC := F160l0x
theorem run_F160l0 (C : Task → Option Res) (k : Nat) (fr : Fr) (σ : S) : run C k F160l0 fr σ = run C k F160l0x fr σ := rfl
/-- arenanet/arenanetref15.sequence -/
def F160 : PFun := ⟨3, [.tmp 6],
 .seq (.region none [⟨some 6, .mov (.c (.slice none 0 0)), none, []⟩] [0, 1, 2])
 (.seq (.region none [⟨some 7, .mov (.c (.slice none 0 0)), none, []⟩] [0, 1, 2, 7])
 (.seq (.seq (.region none [⟨some 8, .mov (.c (.int .i64 0)), none, []⟩] [0, 1, 2, 7, 8])
 (.block 0 (.loop F160l0)))
 (.seq (.region none [⟨some 27, .mov (.t 7), none, []⟩,
 ⟨some 6, .mov (.t 27), none, []⟩] [6])
 (.ret)))), true, false, false⟩
@[simp] def F161l0x : PC := (.seq (.seq (.region none [⟨some 6, .mov (.t 4), none, []⟩,
 ⟨some 7, .bin .lss (.t 6) (.c (.int .i64 8)), none, []⟩] [0, 3, 4, 7])
 (.cond (.t 7)
 (.skip)
 (.exit 0)))
 (.seq (.block 1 (.seq (.region none [⟨some 10, .mov (.t 3), none, []⟩,
 ⟨some 11, .mov (.t 4), none, []⟩,
 ⟨some 12, .indexAddr 1 (.t 10) (.t 11), none, []⟩,
 ⟨some 13, .load false 1 (.t 12), none, []⟩,
 ⟨some 14, .mov (.t 0), none, []⟩,
 ⟨some 15, .bin .eql (.t 13) (.t 14), none, []⟩] [0, 3, 4, 15])
 (.cond (.t 15)
 (.seq (.region none [⟨some 16, .mov (.t 4), none, []⟩,
 ⟨some 2, .mov (.t 16), none, []⟩] [2])
 (.ret))
 (.skip))))
 (.region none [⟨some 8, .mov (.t 4), none, []⟩,
 ⟨some 9, .bin .add (.t 8) (.c (.int .i64 1)), none, []⟩,
 ⟨some 4, .mov (.t 9), none, []⟩] [0, 3, 4])))
def F161l0 : PC := F161l0x
theorem run_F161l0 (C : Task → Option Res) (k : Nat) (fr : Fr) (σ : S) : run C k F161l0 fr σ = run C k F161l0x fr σ := rfl
/-- arenanet/arenanetref12.Field -/
def F161 : PFun := ⟨1, [.tmp 2],
 .seq (.region none [⟨some 2, .mov (.c (.int .i64 0)), none, []⟩] [0])
 (.seq (.region none [⟨some 5, .bslice 8 [(.lit (.string ⟨#[]⟩)), (.lit (.string ⟨#[]⟩)), (.lit (.string ⟨#[]⟩)), (.lit (.string ⟨#[]⟩)), (.lit (.string ⟨#[]⟩)), (.lit (.string ⟨#[]⟩)), (.lit (.string ⟨#[]⟩)), (.lit (.string ⟨#[]⟩))] [(0, 1, (.c (.string ⟨#[120]⟩))), (1, 1, (.c (.string ⟨#[121]⟩))), (2, 1, (.c (.string ⟨#[118, 120]⟩))), (3, 1, (.c (.string ⟨#[118, 121]⟩))), (4, 1, (.c (.string ⟨#[97]⟩))), (5, 1, (.c (.string ⟨#[98]⟩))), (6, 1, (.c (.string ⟨#[104, 105, 116]⟩))), (7, 1, (.c (.string ⟨#[115, 116, 105, 108, 108]⟩)))], none, []⟩,
 ⟨some 3, .mov (.t 5), none, []⟩] [0, 3])
 (.seq (.seq (.region none [⟨some 4, .mov (.c (.int .i64 0)), none, []⟩] [0, 3, 4])
 (.block 0 (.loop F161l0)))
 (.seq (.region none [⟨some 2, .mov (.c (.int .i64 (-1))), none, []⟩] [2])
 (.ret)))), false, false, false⟩
/-- (*arenanet/arenanetref13.G).statement -/
def F162 : PFun := ⟨2, [.cell 4 true 4],
 .seq (.region none [⟨some 4, .alloc [(.lit (.int .i64 0)), (.lit (.int .i64 0)), (.lit (.string ⟨#[]⟩)), (.lit (.slice none 0 0))], none, []⟩] [0, 1, 4])
 (.seq (.region none [⟨some 13, .mov (.t 0), none, []⟩,
 ⟨some 14, .call 136 [(.t 13), (.c (.int .i64 10))], none, []⟩,
 ⟨some 5, .mov (.t 14), none, []⟩] [0, 1, 4, 5])
 (.seq (.seq (.region none [⟨some 15, .mov (.t 1), none, []⟩,
 ⟨some 16, .bin .leq (.t 15) (.c (.int .i64 0)), none, []⟩] [0, 1, 4, 5, 16])
 (.cond (.t 16)
 (.region none [⟨some 17, .mov (.t 5), none, []⟩,
 ⟨some 18, .bin .rem (.t 17) (.c (.int .i64 7)), none, []⟩,
 ⟨some 5, .mov (.t 18), none, []⟩] [0, 1, 4, 5])
 (.skip)))
 (.seq (.seq (.region none [⟨some 19, .mov (.t 5), none, []⟩] [0, 1, 4, 19])
 (.block 0 (.seq (.seq (.region none [⟨some 21, .bin .eql (.t 19) (.c (.int .i64 0)), none, []⟩,
 ⟨some 20, .mov (.t 21), none, []⟩] [0, 1, 4, 19, 20])
 (.cond (.t 20)
 (.skip)
 (.region none [⟨some 22, .bin .eql (.t 19) (.c (.int .i64 1)), none, []⟩,
 ⟨some 20, .mov (.t 22), none, []⟩] [0, 1, 4, 19, 20])))
 (.cond (.t 20)
 (.seq (.region (some []) [⟨some 23, .bslice 4 [(.lit (.string ⟨#[]⟩)), (.lit (.string ⟨#[]⟩)), (.lit (.string ⟨#[]⟩)), (.lit (.string ⟨#[]⟩))] [(0, 1, (.c (.string ⟨#[105]⟩))), (1, 1, (.c (.string ⟨#[110]⟩))), (2, 1, (.c (.string ⟨#[115, 117, 109]⟩))), (3, 1, (.c (.string ⟨#[118, 51]⟩)))], none, []⟩,
 ⟨some 24, .mov (.t 0), none, []⟩,
 ⟨some 25, .call 136 [(.t 24), (.c (.int .i64 4))], none, []⟩,
 ⟨some 26, .indexAddr 1 (.t 23) (.t 25), none, []⟩,
 ⟨some 27, .load false 1 (.t 26), none, [6]⟩,
 ⟨some 28, .mov (.t 0), none, []⟩,
 ⟨some 29, .call 177 [(.t 28), (.c (.int .i64 2))], none, []⟩,
 ⟨some 30, .call 176 [(.c (.int .i64 1)), (.t 27), (.t 29)], none, []⟩,
 ⟨none, .store 4 (.t 4) (.t 30), none, []⟩] [4] [6, 7])
 (.ret))
 (.seq (.seq (.region none [⟨some 32, .bin .eql (.t 19) (.c (.int .i64 2)), none, []⟩,
 ⟨some 31, .mov (.t 32), none, []⟩] [0, 1, 4, 19, 31])
 (.cond (.t 31)
 (.skip)
 (.seq (.region none [⟨some 33, .bin .eql (.t 19) (.c (.int .i64 3)), none, []⟩,
 ⟨some 31, .mov (.t 33), none, []⟩] [0, 1, 4, 19, 31])
 (.cond (.t 31)
 (.skip)
 (.region none [⟨some 34, .bin .eql (.t 19) (.c (.int .i64 4)), none, []⟩,
 ⟨some 31, .mov (.t 34), none, []⟩] [0, 1, 4, 19, 31])))))
 (.cond (.t 31)
 (.seq (.region none [⟨some 35, .bslice 6 [(.lit (.string ⟨#[]⟩)), (.lit (.string ⟨#[]⟩)), (.lit (.string ⟨#[]⟩)), (.lit (.string ⟨#[]⟩)), (.lit (.string ⟨#[]⟩)), (.lit (.string ⟨#[]⟩))] [(0, 1, (.c (.string ⟨#[120]⟩))), (1, 1, (.c (.string ⟨#[121]⟩))), (2, 1, (.c (.string ⟨#[118, 120]⟩))), (3, 1, (.c (.string ⟨#[118, 121]⟩))), (4, 1, (.c (.string ⟨#[97]⟩))), (5, 1, (.c (.string ⟨#[98]⟩)))], none, []⟩,
 ⟨some 36, .mov (.t 0), none, []⟩,
 ⟨some 37, .call 136 [(.t 36), (.c (.int .i64 6))], none, []⟩,
 ⟨some 38, .indexAddr 1 (.t 35) (.t 37), none, []⟩,
 ⟨some 39, .load false 1 (.t 38), none, []⟩,
 ⟨some 6, .mov (.t 39), none, []⟩] [0, 4, 6])
 (.seq (.region none [⟨some 40, .mov (.t 0), none, []⟩,
 ⟨some 41, .call 177 [(.t 40), (.c (.int .i64 1))], none, []⟩,
 ⟨some 7, .alloc [(.lit (.int .i64 0)), (.lit (.int .i64 0)), (.lit (.string ⟨#[]⟩)), (.lit (.slice none 0 0))], none, []⟩,
 ⟨none, .store 4 (.t 7) (.t 41), none, []⟩] [0, 4, 6, 7])
 (.seq (.region (some []) [⟨some 42, .mov (.t 6), none, []⟩,
 ⟨some 43, .load true 4 (.t 7), none, [3]⟩,
 ⟨some 44, .mov (.t 0), none, []⟩,
 ⟨some 45, .call 177 [(.t 44), (.c (.int .i64 2))], none, []⟩,
 ⟨some 46, .call 178 [(.c (.int .i64 2)), (.t 42), (.t 43), (.t 45)], none, []⟩,
 ⟨none, .store 4 (.t 4) (.t 46), none, []⟩] [4] [3, 4])
 (.ret))))
 (.seq (.region none [⟨some 48, .bin .eql (.t 19) (.c (.int .i64 5)), none, []⟩,
 ⟨some 47, .mov (.t 48), none, []⟩] [0, 1, 4, 19, 47])
 (.cond (.t 47)
 (.seq (.region none [⟨some 49, .mov (.t 0), none, []⟩,
 ⟨some 50, .call 177 [(.t 49), (.c (.int .i64 0))], none, []⟩,
 ⟨some 8, .alloc [(.lit (.int .i64 0)), (.lit (.int .i64 0)), (.lit (.string ⟨#[]⟩)), (.lit (.slice none 0 0))], none, []⟩,
 ⟨none, .store 4 (.t 8) (.t 50), none, []⟩] [0, 4, 8])
 (.seq (.region (some []) [⟨some 51, .load true 4 (.t 8), none, [2]⟩,
 ⟨some 52, .mov (.t 0), none, []⟩,
 ⟨some 53, .call 177 [(.t 52), (.c (.int .i64 1))], none, []⟩,
 ⟨some 54, .call 178 [(.c (.int .i64 5)), (.c (.string ⟨#[]⟩)), (.t 51), (.t 53)], none, []⟩,
 ⟨none, .store 4 (.t 4) (.t 54), none, []⟩] [4] [2, 3])
 (.ret)))
 (.seq (.region none [⟨some 56, .bin .eql (.t 19) (.c (.int .i64 6)), none, []⟩,
 ⟨some 55, .mov (.t 56), none, []⟩] [0, 1, 4, 19, 55])
 (.cond (.t 55)
 (.seq (.seq (.region none [⟨some 57, .mov (.t 0), none, []⟩,
 ⟨some 58, .call 136 [(.t 57), (.c (.int .i64 3))], none, []⟩,
 ⟨some 59, .bin .gtr (.t 58) (.c (.int .i64 0)), none, []⟩] [0, 4, 59])
 (.cond (.t 59)
 (.seq (.region none [⟨some 60, .mov (.t 0), none, []⟩,
 ⟨some 61, .call 177 [(.t 60), (.c (.int .i64 1))], none, []⟩,
 ⟨some 62, .call 176 [(.c (.int .i64 1)), (.c (.string ⟨#[110]⟩)), (.t 61)], none, []⟩,
 ⟨none, .store 4 (.t 4) (.t 62), none, []⟩] [4])
 (.ret))
 (.skip)))
 (.seq (.region none [⟨some 63, .build [(.lit (.int .i64 0)), (.lit (.int .i64 0)), (.lit (.string ⟨#[]⟩)), (.lit (.slice none 0 0))] [(0, 1, (.c (.int .i64 6)))], none, []⟩,
 ⟨none, .store 4 (.t 4) (.t 63), none, []⟩] [4])
 (.ret)))
 (.seq (.region none [⟨some 65, .bin .eql (.t 19) (.c (.int .i64 7)), none, []⟩,
 ⟨some 64, .mov (.t 65), none, []⟩] [0, 1, 4, 64])
 (.cond (.t 64)
 (.seq (.region none [⟨some 66, .mov (.t 0), none, []⟩,
 ⟨some 67, .call 179 [(.t 66), (.c (.int .i64 1))], none, []⟩,
 ⟨some 9, .alloc [(.lit (.int .i64 0)), (.lit (.int .i64 0)), (.lit (.string ⟨#[]⟩)), (.lit (.slice none 0 0))], none, []⟩,
 ⟨none, .store 4 (.t 9) (.t 67), none, []⟩] [0, 1, 4, 9])
 (.seq (.region (some []) [⟨some 68, .load true 4 (.t 9), none, [4]⟩,
 ⟨some 69, .mov (.t 0), none, []⟩,
 ⟨some 70, .mov (.t 1), none, []⟩,
 ⟨some 71, .bin .sub (.t 70) (.c (.int .i64 1)), none, []⟩,
 ⟨some 72, .call 137 [(.t 69), (.t 71), (.c (.int .i64 2))], none, []⟩,
 ⟨some 73, .call 178 [(.c (.int .i64 4)), (.c (.string ⟨#[]⟩)), (.t 68), (.t 72)], none, []⟩,
 ⟨none, .store 4 (.t 4) (.t 73), none, []⟩] [4] [4, 5])
 (.ret)))
 (.skip)))))))))))))
 (.seq (.region none [⟨some 74, .mov (.t 0), none, []⟩,
 ⟨some 75, .call 179 [(.t 74), (.c (.int .i64 2))], none, []⟩,
 ⟨some 10, .alloc [(.lit (.int .i64 0)), (.lit (.int .i64 0)), (.lit (.string ⟨#[]⟩)), (.lit (.slice none 0 0))], none, []⟩,
 ⟨none, .store 4 (.t 10) (.t 75), none, []⟩] [0, 1, 4, 10])
 (.seq (.region none [⟨some 76, .mov (.t 0), none, []⟩,
 ⟨some 77, .mov (.t 1), none, []⟩,
 ⟨some 78, .bin .sub (.t 77) (.c (.int .i64 1)), none, []⟩,
 ⟨some 79, .call 137 [(.t 76), (.t 78), (.c (.int .i64 2))], none, []⟩,
 ⟨some 11, .alloc [(.lit (.int .i64 0)), (.lit (.int .i64 0)), (.lit (.string ⟨#[]⟩)), (.lit (.slice none 0 0))], none, []⟩,
 ⟨none, .store 4 (.t 11) (.t 79), none, []⟩] [0, 1, 4, 10, 11])
 (.seq (.region none [⟨some 80, .build [(.lit (.int .i64 0)), (.lit (.int .i64 0)), (.lit (.string ⟨#[]⟩)), (.lit (.slice none 0 0))] [(0, 1, (.c (.int .i64 7)))], none, []⟩,
 ⟨some 12, .alloc [(.lit (.int .i64 0)), (.lit (.int .i64 0)), (.lit (.string ⟨#[]⟩)), (.lit (.slice none 0 0))], none, []⟩,
 ⟨none, .store 4 (.t 12) (.t 80), none, []⟩] [0, 1, 4, 10, 11, 12])
 (.seq (.seq (.region none [⟨some 81, .mov (.t 0), none, []⟩,
 ⟨some 82, .call 136 [(.t 81), (.c (.int .i64 2))], none, []⟩,
 ⟨some 83, .bin .eql (.t 82) (.c (.int .i64 1)), none, []⟩] [0, 1, 4, 10, 11, 12, 83])
 (.cond (.t 83)
 (.region none [⟨some 84, .mov (.t 0), none, []⟩,
 ⟨some 85, .mov (.t 1), none, []⟩,
 ⟨some 86, .bin .sub (.t 85) (.c (.int .i64 1)), none, []⟩,
 ⟨some 87, .call 137 [(.t 84), (.t 86), (.c (.int .i64 2))], none, []⟩,
 ⟨none, .store 4 (.t 12) (.t 87), none, []⟩] [4, 10, 11, 12])
 (.skip)))
 (.seq (.region none [⟨some 88, .load true 4 (.t 10), none, []⟩,
 ⟨some 89, .load true 4 (.t 11), none, []⟩,
 ⟨some 90, .load true 4 (.t 12), none, []⟩,
 ⟨some 91, .bslice 3 [(.lit (.int .i64 0)), (.lit (.int .i64 0)), (.lit (.string ⟨#[]⟩)), (.lit (.slice none 0 0)), (.lit (.int .i64 0)), (.lit (.int .i64 0)), (.lit (.string ⟨#[]⟩)), (.lit (.slice none 0 0)), (.lit (.int .i64 0)), (.lit (.int .i64 0)), (.lit (.string ⟨#[]⟩)), (.lit (.slice none 0 0))] [(0, 4, (.t 88)), (4, 4, (.t 89)), (8, 4, (.t 90))], none, []⟩,
 ⟨some 92, .build [(.lit (.int .i64 0)), (.lit (.int .i64 0)), (.lit (.string ⟨#[]⟩)), (.lit (.slice none 0 0))] [(0, 1, (.c (.int .i64 3))), (3, 1, (.t 91))], none, []⟩,
 ⟨none, .store 4 (.t 4) (.t 92), none, []⟩] [4])
 (.ret))))))))), false, false, false⟩
/-- arenanet/compile.known -/
def F163 : PFun := ⟨1, [.tmp 2],
 .seq (.region none [⟨some 2, .mov (.c (.bool false)), none, []⟩] [0])
 (.seq (.region none [⟨some 3, .mov (.t 0), none, []⟩,
 ⟨some 4, .bin .geq (.t 3) (.c (.int .i64 1)), none, []⟩,
 ⟨some 5, .mov (.t 4), none, []⟩,
 ⟨some 6, .mov (.t 0), some (5, true), []⟩,
 ⟨some 7, .bin .leq (.t 6) (.c (.int .i64 21)), some (5, true), []⟩,
 ⟨some 8, .pick (.t 5) (.t 7) (.c (.bool false)), none, []⟩,
 ⟨some 2, .mov (.t 8), none, []⟩] [2])
 (.ret)), false, false, false⟩
/-- arenanet/compile.successors -/
def F164 : PFun := ⟨2, [.tmp 4],
 .seq (.region none [⟨some 2, .box (.t 0), none, []⟩,
 ⟨some 4, .mov (.c (.slice none 0 0)), none, []⟩] [1, 2])
 (.seq (.seq (.region none [⟨some 6, .fieldAddr 0 (.t 2), none, []⟩,
 ⟨some 7, .load false 1 (.t 6), none, []⟩,
 ⟨some 8, .mov (.t 1), none, []⟩,
 ⟨some 9, .indexAddr 2 (.t 7) (.t 8), none, []⟩,
 ⟨some 10, .load true 2 (.t 9), none, []⟩,
 ⟨some 5, .alloc [(.lit (.int .i64 0)), (.lit (.int .i64 0))], none, []⟩,
 ⟨none, .store 2 (.t 5) (.t 10), none, []⟩] [1, 5])
 (.seq (.region none [⟨some 11, .fieldAddr 0 (.t 5), none, []⟩,
 ⟨some 12, .load false 1 (.t 11), none, []⟩] [1, 5, 12])
 (.block 0 (.seq (.region none [⟨some 14, .bin .eql (.t 12) (.c (.int .i64 21)), none, []⟩,
 ⟨some 13, .mov (.t 14), none, []⟩] [1, 5, 12, 13])
 (.cond (.t 13)
 (.seq (.region none [⟨some 4, .mov (.c (.slice none 0 0)), none, []⟩] [4])
 (.ret))
 (.seq (.region none [⟨some 16, .bin .eql (.t 12) (.c (.int .i64 18)), none, []⟩,
 ⟨some 15, .mov (.t 16), none, []⟩] [1, 5, 12, 15])
 (.cond (.t 15)
 (.seq (.region none [⟨some 17, .fieldAddr 1 (.t 5), none, []⟩,
 ⟨some 18, .load false 1 (.t 17), none, []⟩,
 ⟨some 19, .bslice 1 [(.lit (.int .i64 0))] [(0, 1, (.t 18))], none, []⟩,
 ⟨some 4, .mov (.t 19), none, []⟩] [4])
 (.ret))
 (.seq (.region none [⟨some 21, .bin .eql (.t 12) (.c (.int .i64 19)), none, []⟩,
 ⟨some 20, .mov (.t 21), none, []⟩] [1, 5, 20])
 (.cond (.t 20)
 (.seq (.region none [⟨some 22, .mov (.t 1), none, []⟩,
 ⟨some 23, .bin .add (.t 22) (.c (.int .i64 1)), none, []⟩,
 ⟨some 24, .fieldAddr 1 (.t 5), none, []⟩,
 ⟨some 25, .load false 1 (.t 24), none, []⟩,
 ⟨some 26, .bslice 2 [(.lit (.int .i64 0)), (.lit (.int .i64 0))] [(0, 1, (.t 23)), (1, 1, (.t 25))], none, []⟩,
 ⟨some 4, .mov (.t 26), none, []⟩] [4])
 (.ret))
 (.skip))))))))))
 (.seq (.region none [⟨some 27, .mov (.t 1), none, []⟩,
 ⟨some 28, .bin .add (.t 27) (.c (.int .i64 1)), none, []⟩,
 ⟨some 29, .bslice 1 [(.lit (.int .i64 0))] [(0, 1, (.t 28))], none, []⟩,
 ⟨some 4, .mov (.t 29), none, []⟩] [4])
 (.ret))), false, false, false⟩
/-- arenanet/typecheck.nodes -/
def F32 : PFun := ⟨1, [.tmp 2],
 .seq (.region none [⟨some 1, .box (.t 0), none, []⟩,
 ⟨some 2, .mov (.c .nilFunc), none, []⟩] [1])
 (.seq (.region none [⟨some 3, .mkfn 38 [] [(.t 1)], none, []⟩,
 ⟨some 2, .mov (.t 3), none, []⟩] [2])
 (.ret)), false, false, false⟩
/-- (*arenanet/compile.translator).kid -/
def F165 : PFun := ⟨3, [],
 .seq (.region none [⟨some 4, .box (.t 1), none, []⟩] [0, 2, 4])
 (.seq (.region none [⟨some 6, .mov (.t 2), none, []⟩,
 ⟨some 7, .fieldAddr 3 (.t 4), none, []⟩,
 ⟨some 8, .load false 1 (.t 7), none, []⟩,
 ⟨some 9, .len .sl (.t 8), none, []⟩,
 ⟨some 10, .bin .lss (.t 6) (.t 9), none, []⟩] [0, 2, 4, 10])
 (.cond (.t 10)
 (.region none [⟨some 11, .mov (.t 0), none, []⟩,
 ⟨some 12, .fieldAddr 3 (.t 4), none, []⟩,
 ⟨some 13, .load false 1 (.t 12), none, []⟩,
 ⟨some 14, .mov (.t 2), none, []⟩,
 ⟨some 15, .indexAddr 4 (.t 13) (.t 14), none, []⟩,
 ⟨some 16, .load true 4 (.t 15), none, []⟩,
 ⟨some 17, .call 147 [(.t 11), (.t 16)], none, []⟩] [])
 (.skip))), false, false, false⟩
/-- (*arenanet/compile.translator).name -/
def F166 : PFun := ⟨2, [],
 .seq (.region none [⟨some 3, .box (.t 1), none, []⟩] [0, 3])
 (.seq (.region none [⟨some 4, .fieldAddr 2 (.t 3), none, []⟩,
 ⟨some 5, .load false 1 (.t 4), none, []⟩] [0, 5])
 (.block 0 (.seq (.region none [⟨some 9, .bin .eql (.t 5) (.c (.string ⟨#[115, 101, 108, 102]⟩)), none, []⟩,
 ⟨some 8, .mov (.t 9), none, []⟩] [0, 5, 8])
 (.cond (.t 8)
 (.region none [⟨some 10, .mov (.t 0), none, []⟩,
 ⟨some 11, .call 148 [(.t 10), (.c (.int .i64 6)), (.c (.int .i64 0))], none, []⟩] [])
 (.seq (.region none [⟨some 13, .bin .eql (.t 5) (.c (.string ⟨#[111, 116, 104, 101, 114]⟩)), none, []⟩,
 ⟨some 12, .mov (.t 13), none, []⟩] [0, 12])
 (.cond (.t 12)
 (.region none [⟨some 14, .mov (.t 0), none, []⟩,
 ⟨some 15, .call 148 [(.t 14), (.c (.int .i64 7)), (.c (.int .i64 0))], none, []⟩] [])
 (.region none [⟨some 6, .mov (.t 0), none, []⟩,
 ⟨some 7, .call 148 [(.t 6), (.c (.int .i64 8)), (.c (.int .i64 0))], none, []⟩] []))))))), false, false, false⟩
/-- (*arenanet/compile.translator).unary -/
def F167 : PFun := ⟨2, [],
 .seq (.region none [⟨some 3, .box (.t 1), none, []⟩] [0, 3])
 (.seq (.region none [⟨some 4, .mov (.t 0), none, []⟩,
 ⟨some 5, .load true 4 (.t 3), none, []⟩,
 ⟨some 6, .call 165 [(.t 4), (.t 5), (.c (.int .i64 0))], none, []⟩] [0, 3])
 (.seq (.region none [⟨some 7, .fieldAddr 2 (.t 3), none, []⟩,
 ⟨some 8, .load false 1 (.t 7), none, []⟩,
 ⟨some 9, .bin .eql (.t 8) (.c (.string ⟨#[45]⟩)), none, []⟩] [0, 9])
 (.cond (.t 9)
 (.region none [⟨some 10, .mov (.t 0), none, []⟩,
 ⟨some 11, .call 148 [(.t 10), (.c (.int .i64 13)), (.c (.int .i64 0))], none, []⟩] [])
 (.region none [⟨some 12, .mov (.t 0), none, []⟩,
 ⟨some 13, .call 148 [(.t 12), (.c (.int .i64 17)), (.c (.int .i64 0))], none, []⟩] [])))), false, false, false⟩
/-- (*arenanet/compile.translator).binary -/
def F168 : PFun := ⟨2, [],
 .seq (.region none [⟨some 2, .box (.t 0), none, []⟩,
 ⟨some 3, .box (.t 1), none, []⟩] [2, 3])
 (.seq (.region none [⟨some 4, .fieldAddr 2 (.t 3), none, []⟩,
 ⟨some 5, .load false 1 (.t 4), none, []⟩] [2, 3, 5])
 (.block 0 (.seq (.region none [⟨some 18, .bin .eql (.t 5) (.c (.string ⟨#[38, 38]⟩)), none, []⟩,
 ⟨some 17, .mov (.t 18), none, []⟩] [2, 3, 5, 17])
 (.cond (.t 17)
 (.region none [⟨some 19, .load false 1 (.t 2), none, []⟩,
 ⟨some 20, .mkfn 181 [] [(.t 2), (.t 3)], none, []⟩,
 ⟨some 21, .mkfn 182 [] [(.t 2), (.t 3)], none, []⟩,
 ⟨some 22, .mkfn 183 [] [(.t 2)], none, []⟩,
 ⟨some 23, .call 180 [(.t 19), (.t 20), (.t 21), (.t 22)], none, []⟩] [])
 (.seq (.region none [⟨some 25, .bin .eql (.t 5) (.c (.string ⟨#[124, 124]⟩)), none, []⟩,
 ⟨some 24, .mov (.t 25), none, []⟩] [2, 3, 5, 24])
 (.cond (.t 24)
 (.region none [⟨some 26, .load false 1 (.t 2), none, []⟩,
 ⟨some 27, .mkfn 184 [] [(.t 2), (.t 3)], none, []⟩,
 ⟨some 28, .mkfn 185 [] [(.t 2)], none, []⟩,
 ⟨some 29, .mkfn 186 [] [(.t 2), (.t 3)], none, []⟩,
 ⟨some 30, .call 180 [(.t 26), (.t 27), (.t 28), (.t 29)], none, []⟩] [])
 (.seq (.seq (.region none [⟨some 32, .bin .eql (.t 5) (.c (.string ⟨#[62]⟩)), none, []⟩,
 ⟨some 31, .mov (.t 32), none, []⟩] [2, 3, 5, 31])
 (.cond (.t 31)
 (.skip)
 (.region none [⟨some 33, .bin .eql (.t 5) (.c (.string ⟨#[62, 61]⟩)), none, []⟩,
 ⟨some 31, .mov (.t 33), none, []⟩] [2, 3, 5, 31])))
 (.cond (.t 31)
 (.seq (.region none [⟨some 34, .load false 1 (.t 2), none, []⟩,
 ⟨some 35, .load true 4 (.t 3), none, []⟩,
 ⟨some 36, .call 165 [(.t 34), (.t 35), (.c (.int .i64 1))], none, []⟩] [2, 3])
 (.seq (.region none [⟨some 37, .load false 1 (.t 2), none, []⟩,
 ⟨some 38, .load true 4 (.t 3), none, []⟩,
 ⟨some 39, .call 165 [(.t 37), (.t 38), (.c (.int .i64 0))], none, []⟩] [2, 3])
 (.region (some []) [⟨some 40, .load false 1 (.t 2), none, [3]⟩,
 ⟨some 41, .fieldAddr 2 (.t 3), none, []⟩,
 ⟨some 42, .load false 1 (.t 41), none, []⟩,
 ⟨some 43, .call 187 [(.t 42)], none, []⟩,
 ⟨some 44, .call 148 [(.t 40), (.t 43), (.c (.int .i64 0))], none, []⟩] [] [3, 4])))
 (.seq (.region none [⟨some 46, .bin .eql (.t 5) (.c (.string ⟨#[33, 61]⟩)), none, []⟩,
 ⟨some 45, .mov (.t 46), none, []⟩] [2, 3, 45])
 (.cond (.t 45)
 (.seq (.region none [⟨some 47, .load false 1 (.t 2), none, []⟩,
 ⟨some 48, .load true 4 (.t 3), none, []⟩,
 ⟨some 49, .call 165 [(.t 47), (.t 48), (.c (.int .i64 0))], none, []⟩] [2, 3])
 (.seq (.region none [⟨some 50, .load false 1 (.t 2), none, []⟩,
 ⟨some 51, .load true 4 (.t 3), none, []⟩,
 ⟨some 52, .call 165 [(.t 50), (.t 51), (.c (.int .i64 1))], none, []⟩] [2])
 (.seq (.region none [⟨some 53, .load false 1 (.t 2), none, []⟩,
 ⟨some 54, .call 148 [(.t 53), (.c (.int .i64 16)), (.c (.int .i64 0))], none, []⟩] [2])
 (.region none [⟨some 55, .load false 1 (.t 2), none, []⟩,
 ⟨some 56, .call 148 [(.t 55), (.c (.int .i64 17)), (.c (.int .i64 0))], none, []⟩] []))))
 (.seq (.region none [⟨some 6, .load false 1 (.t 2), none, []⟩,
 ⟨some 7, .load true 4 (.t 3), none, []⟩,
 ⟨some 8, .call 165 [(.t 6), (.t 7), (.c (.int .i64 0))], none, []⟩] [2, 3])
 (.seq (.region none [⟨some 9, .load false 1 (.t 2), none, []⟩,
 ⟨some 10, .load true 4 (.t 3), none, []⟩,
 ⟨some 11, .call 165 [(.t 9), (.t 10), (.c (.int .i64 1))], none, []⟩] [2, 3])
 (.region (some []) [⟨some 12, .load false 1 (.t 2), none, [3]⟩,
 ⟨some 13, .fieldAddr 2 (.t 3), none, []⟩,
 ⟨some 14, .load false 1 (.t 13), none, []⟩,
 ⟨some 15, .call 187 [(.t 14)], none, []⟩,
 ⟨some 16, .call 148 [(.t 12), (.t 15), (.c (.int .i64 0))], none, []⟩] [] [3, 4]))))))))))))), false, false, false⟩
@[simp] def F169l0x : PC := (.seq (.region none [⟨some 66, .bin .lss (.t 65) (.t 64), none, []⟩] [2, 3, 64, 65, 66])
 (.seq (.cond (.t 66)
 (.skip)
 (.exit 1))
 (.seq (.block 2 (.seq (.region none [⟨some 67, .mov (.t 65), none, []⟩,
 ⟨some 4, .mov (.t 67), none, []⟩] [2, 3, 4, 64, 65])
 (.region none [⟨some 68, .load false 1 (.t 2), none, []⟩,
 ⟨some 69, .load true 4 (.t 3), none, []⟩,
 ⟨some 70, .mov (.t 4), none, []⟩,
 ⟨some 71, .call 165 [(.t 68), (.t 69), (.t 70)], none, []⟩] [2, 3, 64, 65])))
 (.region none [⟨some 72, .bin .add (.t 65) (.c (.int .i64 1)), none, []⟩,
 ⟨some 65, .mov (.t 72), none, []⟩] [2, 3, 64, 65]))))
def F169l0 : PC := F169l0x
theorem run_F169l0 (C : Task → Option Res) (k : Nat) (fr : Fr) (σ : S) : run C k F169l0 fr σ = run C k F169l0x fr σ := rfl
/-- (*arenanet/compile.translator).statement -/
def F169 : PFun := ⟨2, [],
 .seq (.region none [⟨some 2, .box (.t 0), none, []⟩,
 ⟨some 3, .box (.t 1), none, []⟩] [2, 3])
 (.seq (.region none [⟨some 5, .fieldAddr 0 (.t 3), none, []⟩,
 ⟨some 6, .load false 1 (.t 5), none, []⟩] [2, 3, 6])
 (.block 0 (.seq (.region none [⟨some 8, .bin .eql (.t 6) (.c (.int .i64 1)), none, []⟩,
 ⟨some 7, .mov (.t 8), none, []⟩] [2, 3, 6, 7])
 (.cond (.t 7)
 (.seq (.region none [⟨some 9, .load false 1 (.t 2), none, []⟩,
 ⟨some 10, .load true 4 (.t 3), none, []⟩,
 ⟨some 11, .call 165 [(.t 9), (.t 10), (.c (.int .i64 0))], none, []⟩] [2, 3])
 (.region (some []) [⟨some 12, .load false 1 (.t 2), none, []⟩,
 ⟨some 13, .load false 1 (.t 2), none, []⟩,
 ⟨some 14, .nilchk (.t 13), none, []⟩,
 ⟨some 15, .fieldAddr 1 (.t 14), none, []⟩,
 ⟨some 16, .load false 1 (.t 15), none, []⟩,
 ⟨some 17, .fieldAddr 2 (.t 3), none, []⟩,
 ⟨some 18, .load false 1 (.t 17), none, []⟩,
 ⟨some 19, .lookup .s (.lit (.int .i64 0)) (.t 16) (.t 18) false, none, []⟩,
 ⟨some 20, .call 148 [(.t 12), (.c (.int .i64 3)), (.t 19)], none, []⟩] [] [8]))
 (.seq (.region none [⟨some 22, .bin .eql (.t 6) (.c (.int .i64 2)), none, []⟩,
 ⟨some 21, .mov (.t 22), none, []⟩] [2, 3, 6, 21])
 (.cond (.t 21)
 (.seq (.region none [⟨some 23, .load false 1 (.t 2), none, []⟩,
 ⟨some 24, .load true 4 (.t 3), none, []⟩,
 ⟨some 25, .call 165 [(.t 23), (.t 24), (.c (.int .i64 0))], none, []⟩] [2, 3])
 (.seq (.region none [⟨some 26, .load false 1 (.t 2), none, []⟩,
 ⟨some 27, .load true 4 (.t 3), none, []⟩,
 ⟨some 28, .call 165 [(.t 26), (.t 27), (.c (.int .i64 1))], none, []⟩] [2, 3])
 (.region (some []) [⟨some 29, .load false 1 (.t 2), none, [3]⟩,
 ⟨some 30, .fieldAddr 2 (.t 3), none, []⟩,
 ⟨some 31, .load false 1 (.t 30), none, []⟩,
 ⟨some 32, .call 134 [(.t 31)], none, []⟩,
 ⟨some 33, .call 148 [(.t 29), (.c (.int .i64 5)), (.t 32)], none, []⟩] [] [3, 4])))
 (.seq (.region none [⟨some 35, .bin .eql (.t 6) (.c (.int .i64 3)), none, []⟩,
 ⟨some 34, .mov (.t 35), none, []⟩] [2, 3, 6, 34])
 (.cond (.t 34)
 (.region none [⟨some 36, .load false 1 (.t 2), none, []⟩,
 ⟨some 37, .mkfn 188 [] [(.t 2), (.t 3)], none, []⟩,
 ⟨some 38, .mkfn 189 [] [(.t 2), (.t 3)], none, []⟩,
 ⟨some 39, .mkfn 190 [] [(.t 2), (.t 3)], none, []⟩,
 ⟨some 40, .call 180 [(.t 36), (.t 37), (.t 38), (.t 39)], none, []⟩] [])
 (.seq (.region none [⟨some 42, .bin .eql (.t 6) (.c (.int .i64 4)), none, []⟩,
 ⟨some 41, .mov (.t 42), none, []⟩] [2, 3, 6, 41])
 (.cond (.t 41)
 (.region none [⟨some 43, .load false 1 (.t 2), none, []⟩,
 ⟨some 44, .load true 4 (.t 3), none, []⟩,
 ⟨some 45, .call 191 [(.t 43), (.t 44)], none, []⟩] [])
 (.seq (.region none [⟨some 47, .bin .eql (.t 6) (.c (.int .i64 5)), none, []⟩,
 ⟨some 46, .mov (.t 47), none, []⟩] [2, 3, 6, 46])
 (.cond (.t 46)
 (.seq (.region none [⟨some 48, .load false 1 (.t 2), none, []⟩,
 ⟨some 49, .load true 4 (.t 3), none, []⟩,
 ⟨some 50, .call 165 [(.t 48), (.t 49), (.c (.int .i64 0))], none, []⟩] [2, 3])
 (.seq (.region none [⟨some 51, .load false 1 (.t 2), none, []⟩,
 ⟨some 52, .load true 4 (.t 3), none, []⟩,
 ⟨some 53, .call 165 [(.t 51), (.t 52), (.c (.int .i64 1))], none, []⟩] [2])
 (.region none [⟨some 54, .load false 1 (.t 2), none, []⟩,
 ⟨some 55, .call 148 [(.t 54), (.c (.int .i64 20)), (.c (.int .i64 0))], none, []⟩] [])))
 (.seq (.region none [⟨some 57, .bin .eql (.t 6) (.c (.int .i64 6)), none, []⟩,
 ⟨some 56, .mov (.t 57), none, []⟩] [2, 3, 6, 56])
 (.cond (.t 56)
 (.region none [⟨some 58, .load false 1 (.t 2), none, []⟩,
 ⟨some 59, .call 148 [(.t 58), (.c (.int .i64 21)), (.c (.int .i64 0))], none, []⟩] [])
 (.seq (.region none [⟨some 61, .bin .eql (.t 6) (.c (.int .i64 7)), none, []⟩,
 ⟨some 60, .mov (.t 61), none, []⟩] [2, 3, 60])
 (.cond (.t 60)
 (.seq (.region none [⟨some 62, .fieldAddr 3 (.t 3), none, []⟩,
 ⟨some 63, .load false 1 (.t 62), none, []⟩,
 ⟨some 64, .len .sl (.t 63), none, []⟩,
 ⟨some 65, .mov (.c (.int .i64 0)), none, []⟩] [2, 3, 64, 65])
 (.block 1 (.loop F169l0)))
 (.skip))))))))))))))))), false, false, false⟩
@[simp] def F170l1x : PC := (.seq (.seq (.region none [⟨some 13, .mov (.t 1), none, []⟩,
 ⟨some 14, .mov (.t 0), none, []⟩,
 ⟨some 15, .len .str (.t 14), none, []⟩,
 ⟨some 16, .bin .lss (.t 13) (.t 15), none, []⟩,
 ⟨some 17, .mov (.t 16), none, []⟩,
 ⟨some 18, .mov (.t 0), some (17, true), []⟩,
 ⟨some 19, .mov (.t 1), some (17, true), []⟩,
 ⟨some 20, .indexS (.t 18) (.t 19), some (17, true), []⟩,
 ⟨some 21, .bin .neq (.t 20) (.c (.int .u8 10)), some (17, true), []⟩,
 ⟨some 22, .pick (.t 17) (.t 21) (.c (.bool false)), none, []⟩] [0, 1, 22])
 (.cond (.t 22)
 (.skip)
 (.exit 2)))
 (.block 3 (.region none [⟨some 23, .mov (.t 1), none, []⟩,
 ⟨some 24, .bin .add (.t 23) (.c (.int .i64 1)), none, []⟩,
 ⟨some 1, .mov (.t 24), none, []⟩] [0, 1])))
def F170l1 : PC := F170l1x
theorem run_F170l1 (C : Task → Option Res) (k : Nat) (fr : Fr) (σ : S) : run C k F170l1 fr σ = run C k F170l1x fr σ := rfl
@[simp] def F170l0x : PC := (.seq (.seq (.region none [⟨some 5, .mov (.t 1), none, []⟩,
 ⟨some 6, .mov (.t 0), none, []⟩,
 ⟨some 7, .len .str (.t 6), none, []⟩,
 ⟨some 8, .bin .lss (.t 5) (.t 7), none, []⟩] [0, 1, 8])
 (.cond (.t 8)
 (.skip)
 (.exit 0)))
 (.block 1 (.seq (.seq (.region none [⟨some 9, .mov (.t 0), none, []⟩,
 ⟨some 10, .mov (.t 1), none, []⟩,
 ⟨some 11, .indexS (.t 9) (.t 10), none, []⟩,
 ⟨some 12, .bin .eql (.t 11) (.c (.int .u8 35)), none, []⟩] [0, 1, 12])
 (.cond (.t 12)
 (.seq (.block 2 (.loop F170l1))
 (.exit 1))
 (.skip)))
 (.seq (.seq (.region none [⟨some 25, .mov (.t 0), none, []⟩,
 ⟨some 26, .mov (.t 1), none, []⟩,
 ⟨some 27, .indexS (.t 25) (.t 26), none, []⟩,
 ⟨some 28, .bin .neq (.t 27) (.c (.int .u8 32)), none, []⟩,
 ⟨some 29, .mov (.t 28), none, []⟩,
 ⟨some 30, .mov (.t 0), some (29, true), []⟩,
 ⟨some 31, .mov (.t 1), some (29, true), []⟩,
 ⟨some 32, .indexS (.t 30) (.t 31), some (29, true), []⟩,
 ⟨some 33, .bin .neq (.t 32) (.c (.int .u8 9)), some (29, true), []⟩,
 ⟨some 34, .pick (.t 29) (.t 33) (.c (.bool false)), none, []⟩,
 ⟨some 35, .mov (.t 34), none, []⟩,
 ⟨some 36, .mov (.t 0), some (35, true), []⟩,
 ⟨some 37, .mov (.t 1), some (35, true), []⟩,
 ⟨some 38, .indexS (.t 36) (.t 37), some (35, true), []⟩,
 ⟨some 39, .bin .neq (.t 38) (.c (.int .u8 10)), some (35, true), []⟩,
 ⟨some 40, .pick (.t 35) (.t 39) (.c (.bool false)), none, []⟩] [0, 1, 40])
 (.cond (.t 40)
 (.exit 0)
 (.skip)))
 (.region none [⟨some 41, .mov (.t 1), none, []⟩,
 ⟨some 42, .bin .add (.t 41) (.c (.int .i64 1)), none, []⟩,
 ⟨some 1, .mov (.t 42), none, []⟩] [0, 1])))))
def F170l0 : PC := F170l0x
theorem run_F170l0 (C : Task → Option Res) (k : Nat) (fr : Fr) (σ : S) : run C k F170l0 fr σ = run C k F170l0x fr σ := rfl
/-- arenanet/arenanetref13.skip -/
def F170 : PFun := ⟨2, [.tmp 4],
 .seq (.region none [⟨some 4, .mov (.c (.int .i64 0)), none, []⟩] [0, 1])
 (.seq (.block 0 (.loop F170l0))
 (.seq (.region none [⟨some 43, .mov (.t 1), none, []⟩,
 ⟨some 4, .mov (.t 43), none, []⟩] [4])
 (.ret))), false, false, false⟩
@[simp] def F171l0x : PC := (.seq (.seq (.region none [⟨some 20, .mov (.t 5), none, []⟩,
 ⟨some 21, .mov (.t 0), none, []⟩,
 ⟨some 22, .len .str (.t 21), none, []⟩,
 ⟨some 23, .bin .lss (.t 20) (.t 22), none, []⟩,
 ⟨some 24, .mov (.t 23), none, []⟩,
 ⟨some 25, .mov (.t 0), some (24, true), []⟩,
 ⟨some 26, .mov (.t 5), some (24, true), []⟩,
 ⟨some 27, .indexS (.t 25) (.t 26), some (24, true), []⟩,
 ⟨some 28, .call 192 [(.t 27)], some (24, true), []⟩,
 ⟨some 29, .mov (.t 28), some (24, true), []⟩,
 ⟨some 30, .mov (.t 0), some (29, false), []⟩,
 ⟨some 31, .mov (.t 5), some (29, false), []⟩,
 ⟨some 32, .indexS (.t 30) (.t 31), some (29, false), []⟩,
 ⟨some 33, .call 193 [(.t 32)], some (29, false), []⟩,
 ⟨some 34, .pick (.t 29) (.c (.bool true)) (.t 33), some (24, true), []⟩,
 ⟨some 35, .pick (.t 24) (.t 34) (.c (.bool false)), none, []⟩] [0, 1, 4, 5, 35])
 (.cond (.t 35)
 (.skip)
 (.exit 0)))
 (.block 1 (.region none [⟨some 36, .mov (.t 5), none, []⟩,
 ⟨some 37, .bin .add (.t 36) (.c (.int .i64 1)), none, []⟩,
 ⟨some 5, .mov (.t 37), none, []⟩] [0, 1, 4, 5])))
def F171l0 : PC := F171l0x
theorem run_F171l0 (C : Task → Option Res) (k : Nat) (fr : Fr) (σ : S) : run C k F171l0 fr σ = run C k F171l0x fr σ := rfl
@[simp] def F171l1x : PC := (.seq (.seq (.region none [⟨some 60, .mov (.t 5), none, []⟩,
 ⟨some 61, .mov (.t 0), none, []⟩,
 ⟨some 62, .len .str (.t 61), none, []⟩,
 ⟨some 63, .bin .lss (.t 60) (.t 62), none, []⟩,
 ⟨some 64, .mov (.t 63), none, []⟩,
 ⟨some 65, .mov (.t 0), some (64, true), []⟩,
 ⟨some 66, .mov (.t 5), some (64, true), []⟩,
 ⟨some 67, .indexS (.t 65) (.t 66), some (64, true), []⟩,
 ⟨some 68, .call 193 [(.t 67)], some (64, true), []⟩,
 ⟨some 69, .pick (.t 64) (.t 68) (.c (.bool false)), none, []⟩] [0, 1, 4, 5, 69])
 (.cond (.t 69)
 (.skip)
 (.exit 2)))
 (.block 3 (.region none [⟨some 70, .mov (.t 5), none, []⟩,
 ⟨some 71, .bin .add (.t 70) (.c (.int .i64 1)), none, []⟩,
 ⟨some 5, .mov (.t 71), none, []⟩] [0, 1, 4, 5])))
def F171l1 : PC := F171l1x
theorem run_F171l1 (C : Task → Option Res) (k : Nat) (fr : Fr) (σ : S) : run C k F171l1 fr σ = run C k F171l1x fr σ := rfl
/-- arenanet/arenanetref13.token -/
def F171 : PFun := ⟨2, [.cell 4 true 3],
 .seq (.region none [⟨some 4, .alloc [(.lit (.int .i64 0)), (.lit (.string ⟨#[]⟩)), (.lit (.int .i64 0))], none, []⟩] [0, 1, 4])
 (.seq (.seq (.region none [⟨some 8, .mov (.t 1), none, []⟩,
 ⟨some 9, .mov (.t 0), none, []⟩,
 ⟨some 10, .len .str (.t 9), none, []⟩,
 ⟨some 11, .bin .geq (.t 8) (.t 10), none, []⟩] [0, 1, 4, 11])
 (.cond (.t 11)
 (.seq (.region none [⟨some 12, .mov (.t 1), none, []⟩,
 ⟨some 13, .build [(.lit (.int .i64 0)), (.lit (.string ⟨#[]⟩)), (.lit (.int .i64 0))] [(0, 1, (.t 12))], none, []⟩,
 ⟨none, .store 3 (.t 4) (.t 13), none, []⟩] [4])
 (.ret))
 (.skip)))
 (.seq (.region none [⟨some 14, .mov (.t 1), none, []⟩,
 ⟨some 15, .bin .add (.t 14) (.c (.int .i64 1)), none, []⟩,
 ⟨some 5, .mov (.t 15), none, []⟩] [0, 1, 4, 5])
 (.seq (.seq (.region none [⟨some 16, .mov (.t 0), none, []⟩,
 ⟨some 17, .mov (.t 1), none, []⟩,
 ⟨some 18, .indexS (.t 16) (.t 17), none, []⟩,
 ⟨some 19, .call 192 [(.t 18)], none, []⟩] [0, 1, 4, 5, 19])
 (.cond (.t 19)
 (.seq (.block 0 (.loop F171l0))
 (.seq (.region none [⟨some 38, .mov (.t 1), none, []⟩,
 ⟨some 39, .mov (.t 0), none, []⟩,
 ⟨some 40, .mov (.t 1), none, []⟩,
 ⟨some 41, .mov (.t 5), none, []⟩,
 ⟨some 42, .sliceS (.t 39) (some (.t 40)) (some (.t 41)), none, []⟩,
 ⟨some 43, .build [(.lit (.int .i64 0)), (.lit (.string ⟨#[]⟩)), (.lit (.int .i64 0))] [(0, 1, (.t 38)), (1, 1, (.t 42))], none, []⟩,
 ⟨some 6, .alloc [(.lit (.int .i64 0)), (.lit (.string ⟨#[]⟩)), (.lit (.int .i64 0))], none, []⟩,
 ⟨none, .store 3 (.t 6) (.t 43), none, []⟩] [1, 4, 5, 6])
 (.seq (.seq (.region none [⟨some 44, .mov (.t 5), none, []⟩,
 ⟨some 45, .mov (.t 1), none, []⟩,
 ⟨some 46, .bin .sub (.t 44) (.t 45), none, []⟩,
 ⟨some 47, .bin .gtr (.t 46) (.c (.int .i64 8)), none, []⟩,
 ⟨some 48, .mov (.t 47), none, []⟩,
 ⟨some 49, .fieldAddr 1 (.t 6), some (48, true), []⟩,
 ⟨some 50, .load false 1 (.t 49), some (48, true), []⟩,
 ⟨some 51, .call 194 [(.t 50)], some (48, true), []⟩,
 ⟨some 52, .un .not (.t 51), some (48, true), []⟩,
 ⟨some 53, .pick (.t 48) (.t 52) (.c (.bool false)), none, []⟩] [4, 6, 53])
 (.cond (.t 53)
 (.region none [⟨some 54, .fieldAddr 2 (.t 6), none, []⟩,
 ⟨none, .store 1 (.t 54) (.c (.int .i64 2)), none, []⟩] [4, 6])
 (.skip)))
 (.seq (.region none [⟨some 55, .load true 3 (.t 6), none, []⟩,
 ⟨none, .store 3 (.t 4) (.t 55), none, []⟩] [4])
 (.ret)))))
 (.skip)))
 (.seq (.seq (.region none [⟨some 56, .mov (.t 0), none, []⟩,
 ⟨some 57, .mov (.t 1), none, []⟩,
 ⟨some 58, .indexS (.t 56) (.t 57), none, []⟩,
 ⟨some 59, .call 193 [(.t 58)], none, []⟩] [0, 1, 4, 5, 59])
 (.cond (.t 59)
 (.seq (.block 2 (.loop F171l1))
 (.seq (.region none [⟨some 72, .mov (.t 1), none, []⟩,
 ⟨some 73, .mov (.t 0), none, []⟩,
 ⟨some 74, .mov (.t 1), none, []⟩,
 ⟨some 75, .mov (.t 5), none, []⟩,
 ⟨some 76, .sliceS (.t 73) (some (.t 74)) (some (.t 75)), none, []⟩,
 ⟨some 77, .build [(.lit (.int .i64 0)), (.lit (.string ⟨#[]⟩)), (.lit (.int .i64 0))] [(0, 1, (.t 72)), (1, 1, (.t 76))], none, []⟩,
 ⟨some 7, .alloc [(.lit (.int .i64 0)), (.lit (.string ⟨#[]⟩)), (.lit (.int .i64 0))], none, []⟩,
 ⟨none, .store 3 (.t 7) (.t 77), none, []⟩] [4, 7])
 (.seq (.seq (.region none [⟨some 78, .fieldAddr 1 (.t 7), none, []⟩,
 ⟨some 79, .load false 1 (.t 78), none, []⟩,
 ⟨some 80, .call 195 [(.t 79)], none, []⟩,
 ⟨some 81, .bin .lss (.t 80) (.c (.int .i64 0)), none, []⟩] [4, 7, 81])
 (.cond (.t 81)
 (.region none [⟨some 82, .fieldAddr 2 (.t 7), none, []⟩,
 ⟨none, .store 1 (.t 82) (.c (.int .i64 6)), none, []⟩] [4, 7])
 (.skip)))
 (.seq (.region none [⟨some 83, .load true 3 (.t 7), none, []⟩,
 ⟨none, .store 3 (.t 4) (.t 83), none, []⟩] [4])
 (.ret)))))
 (.skip)))
 (.seq (.seq (.region none [⟨some 84, .mov (.t 1), none, []⟩,
 ⟨some 85, .bin .add (.t 84) (.c (.int .i64 2)), none, []⟩,
 ⟨some 86, .mov (.t 0), none, []⟩,
 ⟨some 87, .len .str (.t 86), none, []⟩,
 ⟨some 88, .bin .leq (.t 85) (.t 87), none, []⟩,
 ⟨some 89, .mov (.t 88), none, []⟩,
 ⟨some 90, .bslice 6 [(.lit (.string ⟨#[]⟩)), (.lit (.string ⟨#[]⟩)), (.lit (.string ⟨#[]⟩)), (.lit (.string ⟨#[]⟩)), (.lit (.string ⟨#[]⟩)), (.lit (.string ⟨#[]⟩))] [(0, 1, (.c (.string ⟨#[124, 124]⟩))), (1, 1, (.c (.string ⟨#[38, 38]⟩))), (2, 1, (.c (.string ⟨#[60, 61]⟩))), (3, 1, (.c (.string ⟨#[62, 61]⟩))), (4, 1, (.c (.string ⟨#[61, 61]⟩))), (5, 1, (.c (.string ⟨#[33, 61]⟩)))], some (89, true), []⟩,
 ⟨some 91, .mov (.t 0), some (89, true), []⟩,
 ⟨some 92, .mov (.t 1), some (89, true), []⟩,
 ⟨some 93, .mov (.t 1), some (89, true), []⟩,
 ⟨some 94, .bin .add (.t 93) (.c (.int .i64 2)), some (89, true), []⟩,
 ⟨some 95, .mov (.t 0), some (89, true), []⟩,
 ⟨some 96, .len .str (.t 95), some (89, true), []⟩,
 ⟨some 97, .min [(.t 94), (.t 96)], some (89, true), []⟩,
 ⟨some 98, .sliceS (.t 91) (some (.t 92)) (some (.t 97)), some (89, true), []⟩,
 ⟨some 99, .call 196 [(.t 90), (.t 98)], some (89, true), []⟩,
 ⟨some 100, .pick (.t 89) (.t 99) (.c (.bool false)), none, []⟩] [0, 1, 4, 5, 100])
 (.cond (.t 100)
 (.seq (.region none [⟨some 101, .mov (.t 1), none, []⟩,
 ⟨some 102, .mov (.t 0), none, []⟩,
 ⟨some 103, .mov (.t 1), none, []⟩,
 ⟨some 104, .mov (.t 1), none, []⟩,
 ⟨some 105, .bin .add (.t 104) (.c (.int .i64 2)), none, []⟩,
 ⟨some 106, .sliceS (.t 102) (some (.t 103)) (some (.t 105)), none, []⟩,
 ⟨some 107, .build [(.lit (.int .i64 0)), (.lit (.string ⟨#[]⟩)), (.lit (.int .i64 0))] [(0, 1, (.t 101)), (1, 1, (.t 106))], none, []⟩,
 ⟨none, .store 3 (.t 4) (.t 107), none, []⟩] [4])
 (.ret))
 (.skip)))
 (.seq (.seq (.region none [⟨some 108, .bslice 16 [(.lit (.string ⟨#[]⟩)), (.lit (.string ⟨#[]⟩)), (.lit (.string ⟨#[]⟩)), (.lit (.string ⟨#[]⟩)), (.lit (.string ⟨#[]⟩)), (.lit (.string ⟨#[]⟩)), (.lit (.string ⟨#[]⟩)), (.lit (.string ⟨#[]⟩)), (.lit (.string ⟨#[]⟩)), (.lit (.string ⟨#[]⟩)), (.lit (.string ⟨#[]⟩)), (.lit (.string ⟨#[]⟩)), (.lit (.string ⟨#[]⟩)), (.lit (.string ⟨#[]⟩)), (.lit (.string ⟨#[]⟩)), (.lit (.string ⟨#[]⟩))] [(0, 1, (.c (.string ⟨#[123]⟩))), (1, 1, (.c (.string ⟨#[125]⟩))), (2, 1, (.c (.string ⟨#[91]⟩))), (3, 1, (.c (.string ⟨#[93]⟩))), (4, 1, (.c (.string ⟨#[40]⟩))), (5, 1, (.c (.string ⟨#[41]⟩))), (6, 1, (.c (.string ⟨#[61]⟩))), (7, 1, (.c (.string ⟨#[59]⟩))), (8, 1, (.c (.string ⟨#[44]⟩))), (9, 1, (.c (.string ⟨#[60]⟩))), (10, 1, (.c (.string ⟨#[62]⟩))), (11, 1, (.c (.string ⟨#[43]⟩))), (12, 1, (.c (.string ⟨#[45]⟩))), (13, 1, (.c (.string ⟨#[42]⟩))), (14, 1, (.c (.string ⟨#[47]⟩))), (15, 1, (.c (.string ⟨#[33]⟩)))], none, []⟩,
 ⟨some 109, .mov (.t 0), none, []⟩,
 ⟨some 110, .mov (.t 1), none, []⟩,
 ⟨some 111, .mov (.t 5), none, []⟩,
 ⟨some 112, .sliceS (.t 109) (some (.t 110)) (some (.t 111)), none, []⟩,
 ⟨some 113, .call 196 [(.t 108), (.t 112)], none, []⟩] [0, 1, 4, 5, 113])
 (.cond (.t 113)
 (.seq (.region none [⟨some 114, .mov (.t 1), none, []⟩,
 ⟨some 115, .mov (.t 0), none, []⟩,
 ⟨some 116, .mov (.t 1), none, []⟩,
 ⟨some 117, .mov (.t 5), none, []⟩,
 ⟨some 118, .sliceS (.t 115) (some (.t 116)) (some (.t 117)), none, []⟩,
 ⟨some 119, .build [(.lit (.int .i64 0)), (.lit (.string ⟨#[]⟩)), (.lit (.int .i64 0))] [(0, 1, (.t 114)), (1, 1, (.t 118))], none, []⟩,
 ⟨none, .store 3 (.t 4) (.t 119), none, []⟩] [4])
 (.ret))
 (.skip)))
 (.seq (.region none [⟨some 120, .mov (.t 1), none, []⟩,
 ⟨some 121, .mov (.t 0), none, []⟩,
 ⟨some 122, .mov (.t 1), none, []⟩,
 ⟨some 123, .mov (.t 5), none, []⟩,
 ⟨some 124, .sliceS (.t 121) (some (.t 122)) (some (.t 123)), none, []⟩,
 ⟨some 125, .build [(.lit (.int .i64 0)), (.lit (.string ⟨#[]⟩)), (.lit (.int .i64 0))] [(0, 1, (.t 120)), (1, 1, (.t 124)), (2, 1, (.c (.int .i64 12)))], none, []⟩,
 ⟨none, .store 3 (.t 4) (.t 125), none, []⟩] [4])
 (.ret)))))))), false, false, false⟩
/-- (*arenanet/arenanetref13.P).open -/
def F172 : PFun := ⟨3, [],
 .seq (.seq (.region none [⟨some 6, .mov (.t 0), none, []⟩,
 ⟨some 7, .nilchk (.t 6), none, []⟩,
 ⟨some 8, .fieldAddr 3 (.t 7), none, []⟩,
 ⟨some 9, .load false 1 (.t 8), none, []⟩,
 ⟨some 10, .bin .eql (.t 9) (.c (.int .i64 0)), none, []⟩,
 ⟨some 11, .mov (.t 10), none, []⟩,
 ⟨some 12, .mov (.t 0), some (11, true), []⟩,
 ⟨some 13, .call 151 [(.t 12)], some (11, true), []⟩,
 ⟨some 14, .mov (.t 1), some (11, true), []⟩,
 ⟨some 15, .bin .eql (.t 13) (.t 14), some (11, true), []⟩,
 ⟨some 16, .pick (.t 11) (.t 15) (.c (.bool false)), none, []⟩,
 ⟨some 17, .mov (.t 16), none, []⟩,
 ⟨some 18, .mov (.t 2), some (17, true), []⟩,
 ⟨some 19, .bin .gtr (.t 18) (.c (.int .i64 20)), some (17, true), []⟩,
 ⟨some 20, .pick (.t 17) (.t 19) (.c (.bool false)), none, []⟩] [0, 1, 20])
 (.cond (.t 20)
 (.region none [⟨some 21, .mov (.t 0), none, []⟩,
 ⟨some 22, .call 153 [(.t 21), (.c (.int .i64 2))], none, []⟩] [0, 1])
 (.skip)))
 (.region none [⟨some 23, .mov (.t 0), none, []⟩,
 ⟨some 24, .mov (.t 1), none, []⟩,
 ⟨some 25, .call 150 [(.t 23), (.t 24)], none, []⟩] []), false, false, false⟩
/-- (*arenanet/arenanetref13.P).statement -/
def F173 : PFun := ⟨2, [.cell 4 true 4],
 .seq (.region none [⟨some 4, .alloc [(.lit (.int .i64 0)), (.lit (.int .i64 0)), (.lit (.string ⟨#[]⟩)), (.lit (.slice none 0 0))], none, []⟩] [0, 1, 4])
 (.seq (.region none [⟨some 12, .mov (.t 0), none, []⟩,
 ⟨some 13, .call 151 [(.t 12)], none, []⟩,
 ⟨some 5, .mov (.t 13), none, []⟩] [0, 1, 4, 5])
 (.seq (.seq (.region none [⟨some 14, .mov (.t 5), none, []⟩,
 ⟨some 15, .bin .eql (.t 14) (.c (.string ⟨#[105, 102]⟩)), none, []⟩,
 ⟨some 16, .mov (.t 15), none, []⟩,
 ⟨some 17, .mov (.t 5), some (16, false), []⟩,
 ⟨some 18, .bin .eql (.t 17) (.c (.string ⟨#[119, 104, 105, 108, 101]⟩)), some (16, false), []⟩,
 ⟨some 19, .pick (.t 16) (.c (.bool true)) (.t 18), none, []⟩] [0, 1, 4, 5, 19])
 (.cond (.t 19)
 (.seq (.region none [⟨some 20, .mov (.t 0), none, []⟩,
 ⟨some 21, .call 154 [(.t 20)], none, []⟩] [0, 1, 4, 5])
 (.seq (.region none [⟨some 22, .mov (.t 0), none, []⟩,
 ⟨some 23, .mov (.t 1), none, []⟩,
 ⟨some 24, .call 197 [(.t 22), (.t 23), (.c (.int .i64 1))], none, []⟩,
 ⟨some 6, .alloc [(.lit (.int .i64 0)), (.lit (.int .i64 0)), (.lit (.string ⟨#[]⟩)), (.lit (.slice none 0 0))], none, []⟩,
 ⟨none, .store 4 (.t 6) (.t 24), none, []⟩] [0, 1, 4, 5, 6])
 (.seq (.region (some []) [⟨some 25, .load true 4 (.t 6), none, [4]⟩,
 ⟨some 26, .mov (.t 0), none, []⟩,
 ⟨some 27, .mov (.t 1), none, []⟩,
 ⟨some 28, .bin .add (.t 27) (.c (.int .i64 1)), none, []⟩,
 ⟨some 29, .call 155 [(.t 26), (.t 28)], none, []⟩,
 ⟨some 30, .bslice 2 [(.lit (.int .i64 0)), (.lit (.int .i64 0)), (.lit (.string ⟨#[]⟩)), (.lit (.slice none 0 0)), (.lit (.int .i64 0)), (.lit (.int .i64 0)), (.lit (.string ⟨#[]⟩)), (.lit (.slice none 0 0))] [(0, 4, (.t 25)), (4, 4, (.t 29))], none, []⟩,
 ⟨some 7, .mov (.t 30), none, []⟩] [0, 1, 4, 5, 7] [4])
 (.seq (.seq (.region none [⟨some 31, .mov (.t 5), none, []⟩,
 ⟨some 32, .bin .eql (.t 31) (.c (.string ⟨#[119, 104, 105, 108, 101]⟩)), none, []⟩] [0, 1, 4, 7, 32])
 (.cond (.t 32)
 (.seq (.region none [⟨some 33, .mov (.t 7), none, []⟩,
 ⟨some 34, .build [(.lit (.int .i64 0)), (.lit (.int .i64 0)), (.lit (.string ⟨#[]⟩)), (.lit (.slice none 0 0))] [(0, 1, (.c (.int .i64 4))), (3, 1, (.t 33))], none, []⟩,
 ⟨none, .store 4 (.t 4) (.t 34), none, []⟩] [4])
 (.ret))
 (.skip)))
 (.seq (.region none [⟨some 35, .build [(.lit (.int .i64 0)), (.lit (.int .i64 0)), (.lit (.string ⟨#[]⟩)), (.lit (.slice none 0 0))] [(0, 1, (.c (.int .i64 7)))], none, []⟩,
 ⟨some 8, .alloc [(.lit (.int .i64 0)), (.lit (.int .i64 0)), (.lit (.string ⟨#[]⟩)), (.lit (.slice none 0 0))], none, []⟩,
 ⟨none, .store 4 (.t 8) (.t 35), none, []⟩] [0, 1, 4, 7, 8])
 (.seq (.seq (.region none [⟨some 36, .mov (.t 0), none, []⟩,
 ⟨some 37, .nilchk (.t 36), none, []⟩,
 ⟨some 38, .fieldAddr 3 (.t 37), none, []⟩,
 ⟨some 39, .load false 1 (.t 38), none, []⟩,
 ⟨some 40, .bin .eql (.t 39) (.c (.int .i64 0)), none, []⟩,
 ⟨some 41, .mov (.t 40), none, []⟩,
 ⟨some 42, .mov (.t 0), some (41, true), []⟩,
 ⟨some 43, .call 151 [(.t 42)], some (41, true), []⟩,
 ⟨some 44, .bin .eql (.t 43) (.c (.string ⟨#[101, 108, 115, 101]⟩)), some (41, true), []⟩,
 ⟨some 45, .pick (.t 41) (.t 44) (.c (.bool false)), none, []⟩] [0, 1, 4, 7, 8, 45])
 (.cond (.t 45)
 (.seq (.region none [⟨some 46, .mov (.t 0), none, []⟩,
 ⟨some 47, .call 154 [(.t 46)], none, []⟩] [0, 1, 4, 7, 8])
 (.region none [⟨some 48, .mov (.t 0), none, []⟩,
 ⟨some 49, .mov (.t 1), none, []⟩,
 ⟨some 50, .bin .add (.t 49) (.c (.int .i64 1)), none, []⟩,
 ⟨some 51, .call 155 [(.t 48), (.t 50)], none, []⟩,
 ⟨none, .store 4 (.t 8) (.t 51), none, []⟩] [4, 7, 8]))
 (.skip)))
 (.seq (.region none [⟨some 52, .mov (.t 7), none, []⟩,
 ⟨some 53, .load true 4 (.t 8), none, []⟩,
 ⟨some 54, .bslice 1 [(.lit (.int .i64 0)), (.lit (.int .i64 0)), (.lit (.string ⟨#[]⟩)), (.lit (.slice none 0 0))] [(0, 4, (.t 53))], none, []⟩,
 ⟨some 55, .append 4 56 (.t 52) (.t 54), none, []⟩,
 ⟨some 56, .build [(.lit (.int .i64 0)), (.lit (.int .i64 0)), (.lit (.string ⟨#[]⟩)), (.lit (.slice none 0 0))] [(0, 1, (.c (.int .i64 3))), (3, 1, (.t 55))], none, []⟩,
 ⟨none, .store 4 (.t 4) (.t 56), none, []⟩] [4])
 (.ret))))))))
 (.skip)))
 (.seq (.region none [⟨some 57, .build [(.lit (.int .i64 0)), (.lit (.int .i64 0)), (.lit (.string ⟨#[]⟩)), (.lit (.slice none 0 0))] [], none, []⟩,
 ⟨some 9, .alloc [(.lit (.int .i64 0)), (.lit (.int .i64 0)), (.lit (.string ⟨#[]⟩)), (.lit (.slice none 0 0))], none, []⟩,
 ⟨none, .store 4 (.t 9) (.t 57), none, []⟩] [0, 1, 4, 5, 9])
 (.seq (.seq (.region none [⟨some 58, .mov (.t 5), none, []⟩,
 ⟨some 59, .bin .eql (.t 58) (.c (.string ⟨#[115, 116, 111, 112]⟩)), none, []⟩] [0, 1, 4, 5, 9, 59])
 (.cond (.t 59)
 (.seq (.region none [⟨some 60, .mov (.t 0), none, []⟩,
 ⟨some 61, .call 154 [(.t 60)], none, []⟩] [0, 4, 9])
 (.region none [⟨some 62, .fieldAddr 0 (.t 9), none, []⟩,
 ⟨none, .store 1 (.t 62) (.c (.int .i64 6)), none, []⟩] [0, 4, 9]))
 (.seq (.region none [⟨some 63, .mov (.t 5), none, []⟩,
 ⟨some 64, .bin .eql (.t 63) (.c (.string ⟨#[101, 102, 102, 101, 99, 116]⟩)), none, []⟩] [0, 1, 4, 5, 9, 64])
 (.cond (.t 64)
 (.seq (.region none [⟨some 65, .mov (.t 0), none, []⟩,
 ⟨some 66, .call 154 [(.t 65)], none, []⟩] [0, 1, 4, 9])
 (.seq (.region none [⟨some 67, .mov (.t 0), none, []⟩,
 ⟨some 68, .mov (.t 1), none, []⟩,
 ⟨some 69, .call 197 [(.t 67), (.t 68), (.c (.int .i64 1))], none, []⟩,
 ⟨some 10, .alloc [(.lit (.int .i64 0)), (.lit (.int .i64 0)), (.lit (.string ⟨#[]⟩)), (.lit (.slice none 0 0))], none, []⟩,
 ⟨none, .store 4 (.t 10) (.t 69), none, []⟩] [0, 1, 4, 9, 10])
 (.seq (.region none [⟨some 70, .mov (.t 0), none, []⟩,
 ⟨some 71, .call 150 [(.t 70), (.c (.string ⟨#[44]⟩))], none, []⟩] [0, 1, 4, 9, 10])
 (.region (some []) [⟨some 72, .load true 4 (.t 10), none, [3]⟩,
 ⟨some 73, .mov (.t 0), none, []⟩,
 ⟨some 74, .mov (.t 1), none, []⟩,
 ⟨some 75, .call 197 [(.t 73), (.t 74), (.c (.int .i64 1))], none, []⟩,
 ⟨some 76, .bslice 2 [(.lit (.int .i64 0)), (.lit (.int .i64 0)), (.lit (.string ⟨#[]⟩)), (.lit (.slice none 0 0)), (.lit (.int .i64 0)), (.lit (.int .i64 0)), (.lit (.string ⟨#[]⟩)), (.lit (.slice none 0 0))] [(0, 4, (.t 72)), (4, 4, (.t 75))], none, []⟩,
 ⟨some 77, .build [(.lit (.int .i64 0)), (.lit (.int .i64 0)), (.lit (.string ⟨#[]⟩)), (.lit (.slice none 0 0))] [(0, 1, (.c (.int .i64 5))), (3, 1, (.t 76))], none, []⟩,
 ⟨none, .store 4 (.t 9) (.t 77), none, []⟩] [0, 4, 9] [3]))))
 (.seq (.region none [⟨some 78, .mov (.t 5), none, []⟩,
 ⟨some 79, .call 198 [(.t 78)], none, []⟩] [0, 1, 4, 5, 9, 79])
 (.cond (.t 79)
 (.seq (.region none [⟨some 80, .mov (.t 0), none, []⟩,
 ⟨some 81, .call 154 [(.t 80)], none, []⟩] [0, 1, 4, 5, 9])
 (.seq (.region none [⟨some 82, .mov (.t 0), none, []⟩,
 ⟨some 83, .mov (.t 1), none, []⟩,
 ⟨some 84, .call 199 [(.t 82), (.t 83)], none, []⟩,
 ⟨some 11, .alloc [(.lit (.int .i64 0)), (.lit (.int .i64 0)), (.lit (.string ⟨#[]⟩)), (.lit (.slice none 0 0))], none, []⟩,
 ⟨none, .store 4 (.t 11) (.t 84), none, []⟩] [0, 1, 4, 5, 9, 11])
 (.seq (.region none [⟨some 85, .mov (.t 0), none, []⟩,
 ⟨some 86, .call 150 [(.t 85), (.c (.string ⟨#[61]⟩))], none, []⟩] [0, 1, 4, 5, 9, 11])
 (.region (some []) [⟨some 87, .mov (.t 5), none, []⟩,
 ⟨some 88, .load true 4 (.t 11), none, [4]⟩,
 ⟨some 89, .mov (.t 0), none, []⟩,
 ⟨some 90, .mov (.t 1), none, []⟩,
 ⟨some 91, .call 197 [(.t 89), (.t 90), (.c (.int .i64 1))], none, []⟩,
 ⟨some 92, .bslice 2 [(.lit (.int .i64 0)), (.lit (.int .i64 0)), (.lit (.string ⟨#[]⟩)), (.lit (.slice none 0 0)), (.lit (.int .i64 0)), (.lit (.int .i64 0)), (.lit (.string ⟨#[]⟩)), (.lit (.slice none 0 0))] [(0, 4, (.t 88)), (4, 4, (.t 91))], none, []⟩,
 ⟨some 93, .build [(.lit (.int .i64 0)), (.lit (.int .i64 0)), (.lit (.string ⟨#[]⟩)), (.lit (.slice none 0 0))] [(0, 1, (.c (.int .i64 2))), (2, 1, (.t 87)), (3, 1, (.t 92))], none, []⟩,
 ⟨none, .store 4 (.t 9) (.t 93), none, []⟩] [0, 4, 9] [4]))))
 (.seq (.region none [⟨some 94, .mov (.t 5), none, []⟩,
 ⟨some 95, .bin .neq (.t 94) (.c (.string ⟨#[]⟩)), none, []⟩,
 ⟨some 96, .mov (.t 95), none, []⟩,
 ⟨some 97, .mov (.t 5), some (96, true), []⟩,
 ⟨some 98, .bin .neq (.t 97) (.c (.string ⟨#[63]⟩)), some (96, true), []⟩,
 ⟨some 99, .pick (.t 96) (.t 98) (.c (.bool false)), none, []⟩,
 ⟨some 100, .mov (.t 99), none, []⟩,
 ⟨some 101, .mov (.t 5), some (100, true), []⟩,
 ⟨some 102, .indexS (.t 101) (.c (.int .i64 0)), some (100, true), []⟩,
 ⟨some 103, .call 192 [(.t 102)], some (100, true), []⟩,
 ⟨some 104, .pick (.t 100) (.t 103) (.c (.bool false)), none, []⟩,
 ⟨some 105, .mov (.t 104), none, []⟩,
 ⟨some 106, .mov (.t 5), some (105, true), []⟩,
 ⟨some 107, .call 194 [(.t 106)], some (105, true), []⟩,
 ⟨some 108, .un .not (.t 107), some (105, true), []⟩,
 ⟨some 109, .pick (.t 105) (.t 108) (.c (.bool false)), none, []⟩] [0, 1, 4, 5, 9, 109])
 (.cond (.t 109)
 (.seq (.region none [⟨some 110, .mov (.t 0), none, []⟩,
 ⟨some 111, .call 154 [(.t 110)], none, []⟩] [0, 1, 4, 5, 9])
 (.seq (.region none [⟨some 112, .mov (.t 0), none, []⟩,
 ⟨some 113, .call 150 [(.t 112), (.c (.string ⟨#[61]⟩))], none, []⟩] [0, 1, 4, 5, 9])
 (.region none [⟨some 114, .mov (.t 5), none, []⟩,
 ⟨some 115, .mov (.t 0), none, []⟩,
 ⟨some 116, .mov (.t 1), none, []⟩,
 ⟨some 117, .call 197 [(.t 115), (.t 116), (.c (.int .i64 1))], none, []⟩,
 ⟨some 118, .bslice 1 [(.lit (.int .i64 0)), (.lit (.int .i64 0)), (.lit (.string ⟨#[]⟩)), (.lit (.slice none 0 0))] [(0, 4, (.t 117))], none, []⟩,
 ⟨some 119, .build [(.lit (.int .i64 0)), (.lit (.int .i64 0)), (.lit (.string ⟨#[]⟩)), (.lit (.slice none 0 0))] [(0, 1, (.c (.int .i64 1))), (2, 1, (.t 114)), (3, 1, (.t 118))], none, []⟩,
 ⟨none, .store 4 (.t 9) (.t 119), none, []⟩] [0, 4, 9])))
 (.seq (.region none [⟨some 120, .mov (.t 0), none, []⟩,
 ⟨some 121, .call 153 [(.t 120), (.c (.int .i64 12))], none, []⟩] [4, 9])
 (.seq (.region none [⟨some 122, .load true 4 (.t 9), none, []⟩,
 ⟨none, .store 4 (.t 4) (.t 122), none, []⟩] [4])
 (.ret)))))))))))
 (.seq (.region none [⟨some 123, .mov (.t 0), none, []⟩,
 ⟨some 124, .call 150 [(.t 123), (.c (.string ⟨#[59]⟩))], none, []⟩] [4, 9])
 (.seq (.region none [⟨some 125, .load true 4 (.t 9), none, []⟩,
 ⟨none, .store 4 (.t 4) (.t 125), none, []⟩] [4])
 (.ret))))))), false, false, false⟩
@[simp] def F28l0x : PC := (.seq (.seq (.region none [⟨some 6, .mov (.t 5), none, []⟩,
 ⟨some 7, .mov (.t 0), none, []⟩,
 ⟨some 8, .len .sl (.t 7), none, []⟩,
 ⟨some 9, .bin .lss (.t 6) (.t 8), none, []⟩] [0, 1, 5, 9])
 (.cond (.t 9)
 (.skip)
 (.exit 0)))
 (.seq (.block 1 (.seq (.region none [⟨some 12, .mov (.t 0), none, []⟩,
 ⟨some 13, .mov (.t 5), none, []⟩,
 ⟨some 14, .indexAddr 1 (.t 12) (.t 13), none, []⟩,
 ⟨some 15, .load false 1 (.t 14), none, []⟩,
 ⟨some 16, .mov (.t 1), none, []⟩,
 ⟨some 17, .bin .eql (.t 15) (.t 16), none, []⟩] [0, 1, 5, 17])
 (.cond (.t 17)
 (.seq (.region none [⟨some 4, .mov (.c (.bool true)), none, []⟩] [4])
 (.ret))
 (.skip))))
 (.region none [⟨some 10, .mov (.t 5), none, []⟩,
 ⟨some 11, .bin .add (.t 10) (.c (.int .i64 1)), none, []⟩,
 ⟨some 5, .mov (.t 11), none, []⟩] [0, 1, 5])))
def F28l0 : PC := F28l0x
theorem run_F28l0 (C : Task → Option Res) (k : Nat) (fr : Fr) (σ : S) : run C k F28l0 fr σ = run C k F28l0x fr σ := rfl
/-- arenanet/arenanetref14.in -/
def F28 : PFun := ⟨2, [.tmp 4],
 .seq (.region none [⟨some 4, .mov (.c (.bool false)), none, []⟩] [0, 1])
 (.seq (.seq (.region none [⟨some 5, .mov (.c (.int .i64 0)), none, []⟩] [0, 1, 5])
 (.block 0 (.loop F28l0)))
 (.seq (.region none [⟨some 4, .mov (.c (.bool false)), none, []⟩] [4])
 (.ret))), false, false, false⟩
/-- arenanet/arenanetref15.operator -/
def F174 : PFun := ⟨1, [.tmp 2],
 .seq (.region none [⟨some 2, .mov (.c (.int .i64 0)), none, []⟩] [0])
 (.seq (.seq (.region none [⟨some 3, .mov (.t 0), none, []⟩] [3])
 (.block 0 (.seq (.region none [⟨some 5, .bin .eql (.t 3) (.c (.string ⟨#[43]⟩)), none, []⟩,
 ⟨some 4, .mov (.t 5), none, []⟩] [3, 4])
 (.cond (.t 4)
 (.seq (.region none [⟨some 2, .mov (.c (.int .i64 9)), none, []⟩] [2])
 (.ret))
 (.seq (.region none [⟨some 7, .bin .eql (.t 3) (.c (.string ⟨#[45]⟩)), none, []⟩,
 ⟨some 6, .mov (.t 7), none, []⟩] [3, 6])
 (.cond (.t 6)
 (.seq (.region none [⟨some 2, .mov (.c (.int .i64 10)), none, []⟩] [2])
 (.ret))
 (.seq (.region none [⟨some 9, .bin .eql (.t 3) (.c (.string ⟨#[42]⟩)), none, []⟩,
 ⟨some 8, .mov (.t 9), none, []⟩] [3, 8])
 (.cond (.t 8)
 (.seq (.region none [⟨some 2, .mov (.c (.int .i64 11)), none, []⟩] [2])
 (.ret))
 (.seq (.region none [⟨some 11, .bin .eql (.t 3) (.c (.string ⟨#[47]⟩)), none, []⟩,
 ⟨some 10, .mov (.t 11), none, []⟩] [3, 10])
 (.cond (.t 10)
 (.seq (.region none [⟨some 2, .mov (.c (.int .i64 12)), none, []⟩] [2])
 (.ret))
 (.seq (.seq (.region none [⟨some 13, .bin .eql (.t 3) (.c (.string ⟨#[60]⟩)), none, []⟩,
 ⟨some 12, .mov (.t 13), none, []⟩] [3, 12])
 (.cond (.t 12)
 (.skip)
 (.region none [⟨some 14, .bin .eql (.t 3) (.c (.string ⟨#[62]⟩)), none, []⟩,
 ⟨some 12, .mov (.t 14), none, []⟩] [3, 12])))
 (.cond (.t 12)
 (.seq (.region none [⟨some 2, .mov (.c (.int .i64 14)), none, []⟩] [2])
 (.ret))
 (.seq (.seq (.region none [⟨some 16, .bin .eql (.t 3) (.c (.string ⟨#[60, 61]⟩)), none, []⟩,
 ⟨some 15, .mov (.t 16), none, []⟩] [3, 15])
 (.cond (.t 15)
 (.skip)
 (.region none [⟨some 17, .bin .eql (.t 3) (.c (.string ⟨#[62, 61]⟩)), none, []⟩,
 ⟨some 15, .mov (.t 17), none, []⟩] [15])))
 (.cond (.t 15)
 (.seq (.region none [⟨some 2, .mov (.c (.int .i64 15)), none, []⟩] [2])
 (.ret))
 (.skip)))))))))))))))
 (.seq (.region none [⟨some 2, .mov (.c (.int .i64 16)), none, []⟩] [2])
 (.ret))), false, false, false⟩
/-- arenanet/arenanetref15.alternative -/
def F175 : PFun := ⟨4, [.tmp 8],
 .seq (.region none [⟨some 8, .mov (.c (.slice none 0 0)), none, []⟩] [0, 1, 2, 3])
 (.seq (.seq (.region none [⟨some 9, .mov (.t 0), none, []⟩,
 ⟨some 10, .len .sl (.t 9), none, []⟩,
 ⟨some 11, .bin .gtr (.t 10) (.c (.int .i64 0)), none, []⟩] [0, 1, 2, 3, 11])
 (.cond (.t 11)
 (.seq (.region none [⟨some 12, .mov (.t 0), none, []⟩,
 ⟨some 13, .indexAddr 4 (.t 12) (.c (.int .i64 0)), none, []⟩,
 ⟨some 14, .load true 4 (.t 13), none, []⟩,
 ⟨some 15, .mov (.t 2), none, []⟩,
 ⟨some 16, .mov (.t 3), none, []⟩,
 ⟨some 17, .call 135 [(.t 14), (.t 15), (.t 16)], none, []⟩,
 ⟨some 8, .mov (.t 17), none, []⟩] [8])
 (.ret))
 (.skip)))
 (.seq (.region none [⟨some 18, .mov (.t 1), none, []⟩,
 ⟨some 19, .build [(.lit (.int .i64 0)), (.lit (.int .i64 0))] [(0, 1, (.c (.int .i64 1))), (1, 1, (.t 18))], none, []⟩,
 ⟨some 20, .bslice 1 [(.lit (.int .i64 0)), (.lit (.int .i64 0))] [(0, 2, (.t 19))], none, []⟩,
 ⟨some 8, .mov (.t 20), none, []⟩] [8])
 (.ret))), true, false, false⟩
/-- arenanet/arenanetref13.one -/
def F176 : PFun := ⟨3, [.cell 6 true 4],
 .seq (.region none [⟨some 5, .box (.t 2), none, []⟩,
 ⟨some 6, .alloc [(.lit (.int .i64 0)), (.lit (.int .i64 0)), (.lit (.string ⟨#[]⟩)), (.lit (.slice none 0 0))], none, []⟩] [0, 1, 5, 6])
 (.seq (.region none [⟨some 7, .mov (.t 0), none, []⟩,
 ⟨some 8, .mov (.t 1), none, []⟩,
 ⟨some 9, .load true 4 (.t 5), none, []⟩,
 ⟨some 10, .bslice 1 [(.lit (.int .i64 0)), (.lit (.int .i64 0)), (.lit (.string ⟨#[]⟩)), (.lit (.slice none 0 0))] [(0, 4, (.t 9))], none, []⟩,
 ⟨some 11, .build [(.lit (.int .i64 0)), (.lit (.int .i64 0)), (.lit (.string ⟨#[]⟩)), (.lit (.slice none 0 0))] [(0, 1, (.t 7)), (2, 1, (.t 8)), (3, 1, (.t 10))], none, []⟩,
 ⟨none, .store 4 (.t 6) (.t 11), none, []⟩] [6])
 (.ret)), false, false, false⟩
/-- (*arenanet/arenanetref13.G).Int -/
def F177 : PFun := ⟨2, [.cell 4 true 4],
 .seq (.region none [⟨some 4, .alloc [(.lit (.int .i64 0)), (.lit (.int .i64 0)), (.lit (.string ⟨#[]⟩)), (.lit (.slice none 0 0))], none, []⟩] [0, 1, 4])
 (.seq (.region none [⟨some 9, .mov (.t 0), none, []⟩,
 ⟨some 10, .call 136 [(.t 9), (.c (.int .i64 12))], none, []⟩,
 ⟨some 5, .mov (.t 10), none, []⟩] [0, 1, 4, 5])
 (.seq (.seq (.region none [⟨some 11, .mov (.t 1), none, []⟩,
 ⟨some 12, .bin .leq (.t 11) (.c (.int .i64 0)), none, []⟩] [0, 1, 4, 5, 12])
 (.cond (.t 12)
 (.region none [⟨some 13, .mov (.t 5), none, []⟩,
 ⟨some 14, .bin .rem (.t 13) (.c (.int .i64 6)), none, []⟩,
 ⟨some 5, .mov (.t 14), none, []⟩] [0, 1, 4, 5])
 (.skip)))
 (.seq (.seq (.region none [⟨some 15, .mov (.t 5), none, []⟩] [0, 1, 4, 15])
 (.block 0 (.seq (.seq (.region none [⟨some 17, .bin .eql (.t 15) (.c (.int .i64 0)), none, []⟩,
 ⟨some 16, .mov (.t 17), none, []⟩] [0, 1, 4, 15, 16])
 (.cond (.t 16)
 (.skip)
 (.region none [⟨some 18, .bin .eql (.t 15) (.c (.int .i64 1)), none, []⟩,
 ⟨some 16, .mov (.t 18), none, []⟩] [0, 1, 4, 15, 16])))
 (.cond (.t 16)
 (.seq (.region none [⟨some 19, .bslice 8 [(.lit (.int .i64 0)), (.lit (.int .i64 0)), (.lit (.int .i64 0)), (.lit (.int .i64 0)), (.lit (.int .i64 0)), (.lit (.int .i64 0)), (.lit (.int .i64 0)), (.lit (.int .i64 0))] [(0, 1, (.c (.int .i64 0))), (1, 1, (.c (.int .i64 1))), (2, 1, (.c (.int .i64 2))), (3, 1, (.c (.int .i64 3))), (4, 1, (.c (.int .i64 7))), (5, 1, (.c (.int .i64 100))), (6, 1, (.c (.int .i64 1024))), (7, 1, (.c (.int .i64 2147483647)))], none, []⟩,
 ⟨some 20, .mov (.t 0), none, []⟩,
 ⟨some 21, .call 136 [(.t 20), (.c (.int .i64 8))], none, []⟩,
 ⟨some 22, .indexAddr 1 (.t 19) (.t 21), none, []⟩,
 ⟨some 23, .load false 1 (.t 22), none, []⟩,
 ⟨some 24, .build [(.lit (.int .i64 0)), (.lit (.int .i64 0)), (.lit (.string ⟨#[]⟩)), (.lit (.slice none 0 0))] [(0, 1, (.c (.int .i64 8))), (1, 1, (.t 23))], none, []⟩,
 ⟨none, .store 4 (.t 4) (.t 24), none, []⟩] [4])
 (.ret))
 (.seq (.seq (.region none [⟨some 26, .bin .eql (.t 15) (.c (.int .i64 2)), none, []⟩,
 ⟨some 25, .mov (.t 26), none, []⟩] [0, 1, 4, 15, 25])
 (.cond (.t 25)
 (.skip)
 (.region none [⟨some 27, .bin .eql (.t 15) (.c (.int .i64 3)), none, []⟩,
 ⟨some 25, .mov (.t 27), none, []⟩] [0, 1, 4, 15, 25])))
 (.cond (.t 25)
 (.seq (.region none [⟨some 28, .bslice 4 [(.lit (.string ⟨#[]⟩)), (.lit (.string ⟨#[]⟩)), (.lit (.string ⟨#[]⟩)), (.lit (.string ⟨#[]⟩))] [(0, 1, (.c (.string ⟨#[105]⟩))), (1, 1, (.c (.string ⟨#[110]⟩))), (2, 1, (.c (.string ⟨#[115, 117, 109]⟩))), (3, 1, (.c (.string ⟨#[118, 51]⟩)))], none, []⟩,
 ⟨some 29, .mov (.t 0), none, []⟩,
 ⟨some 30, .call 136 [(.t 29), (.c (.int .i64 4))], none, []⟩,
 ⟨some 31, .indexAddr 1 (.t 28) (.t 30), none, []⟩,
 ⟨some 32, .load false 1 (.t 31), none, []⟩,
 ⟨some 33, .build [(.lit (.int .i64 0)), (.lit (.int .i64 0)), (.lit (.string ⟨#[]⟩)), (.lit (.slice none 0 0))] [(0, 1, (.c (.int .i64 10))), (2, 1, (.t 32))], none, []⟩,
 ⟨none, .store 4 (.t 4) (.t 33), none, []⟩] [4])
 (.ret))
 (.seq (.seq (.region none [⟨some 35, .bin .eql (.t 15) (.c (.int .i64 4)), none, []⟩,
 ⟨some 34, .mov (.t 35), none, []⟩] [0, 1, 4, 15, 34])
 (.cond (.t 34)
 (.skip)
 (.region none [⟨some 36, .bin .eql (.t 15) (.c (.int .i64 5)), none, []⟩,
 ⟨some 34, .mov (.t 36), none, []⟩] [0, 1, 4, 15, 34])))
 (.cond (.t 34)
 (.seq (.region none [⟨some 37, .bslice 3 [(.lit (.string ⟨#[]⟩)), (.lit (.string ⟨#[]⟩)), (.lit (.string ⟨#[]⟩))] [(0, 1, (.c (.string ⟨#[115, 101, 108, 102]⟩))), (1, 1, (.c (.string ⟨#[111, 116, 104, 101, 114]⟩))), (2, 1, (.c (.string ⟨#[116, 105, 99, 107]⟩)))], none, []⟩,
 ⟨some 38, .mov (.t 0), none, []⟩,
 ⟨some 39, .call 136 [(.t 38), (.c (.int .i64 3))], none, []⟩,
 ⟨some 40, .indexAddr 1 (.t 37) (.t 39), none, []⟩,
 ⟨some 41, .load false 1 (.t 40), none, []⟩,
 ⟨some 42, .build [(.lit (.int .i64 0)), (.lit (.int .i64 0)), (.lit (.string ⟨#[]⟩)), (.lit (.slice none 0 0))] [(0, 1, (.c (.int .i64 12))), (2, 1, (.t 41))], none, []⟩,
 ⟨none, .store 4 (.t 4) (.t 42), none, []⟩] [4])
 (.ret))
 (.seq (.seq (.region none [⟨some 44, .bin .eql (.t 15) (.c (.int .i64 6)), none, []⟩,
 ⟨some 43, .mov (.t 44), none, []⟩] [0, 1, 4, 15, 43])
 (.cond (.t 43)
 (.skip)
 (.region none [⟨some 45, .bin .eql (.t 15) (.c (.int .i64 7)), none, []⟩,
 ⟨some 43, .mov (.t 45), none, []⟩] [0, 1, 4, 15, 43])))
 (.cond (.t 43)
 (.seq (.region none [⟨some 46, .bslice 8 [(.lit (.string ⟨#[]⟩)), (.lit (.string ⟨#[]⟩)), (.lit (.string ⟨#[]⟩)), (.lit (.string ⟨#[]⟩)), (.lit (.string ⟨#[]⟩)), (.lit (.string ⟨#[]⟩)), (.lit (.string ⟨#[]⟩)), (.lit (.string ⟨#[]⟩))] [(0, 1, (.c (.string ⟨#[120]⟩))), (1, 1, (.c (.string ⟨#[121]⟩))), (2, 1, (.c (.string ⟨#[118, 120]⟩))), (3, 1, (.c (.string ⟨#[118, 121]⟩))), (4, 1, (.c (.string ⟨#[97]⟩))), (5, 1, (.c (.string ⟨#[98]⟩))), (6, 1, (.c (.string ⟨#[104, 105, 116]⟩))), (7, 1, (.c (.string ⟨#[115, 116, 105, 108, 108]⟩)))], none, []⟩,
 ⟨some 47, .mov (.t 0), none, []⟩,
 ⟨some 48, .call 136 [(.t 47), (.c (.int .i64 8))], none, []⟩,
 ⟨some 49, .indexAddr 1 (.t 46) (.t 48), none, []⟩,
 ⟨some 50, .load false 1 (.t 49), none, []⟩,
 ⟨some 6, .mov (.t 50), none, []⟩] [0, 1, 4, 6])
 (.seq (.region none [⟨some 51, .mov (.t 6), none, []⟩,
 ⟨some 52, .mov (.t 0), none, []⟩,
 ⟨some 53, .mov (.t 1), none, []⟩,
 ⟨some 54, .bin .sub (.t 53) (.c (.int .i64 1)), none, []⟩,
 ⟨some 55, .call 177 [(.t 52), (.t 54)], none, []⟩,
 ⟨some 56, .call 176 [(.c (.int .i64 11)), (.t 51), (.t 55)], none, []⟩,
 ⟨none, .store 4 (.t 4) (.t 56), none, []⟩] [4])
 (.ret)))
 (.seq (.region none [⟨some 58, .bin .eql (.t 15) (.c (.int .i64 8)), none, []⟩,
 ⟨some 57, .mov (.t 58), none, []⟩] [0, 1, 4, 57])
 (.cond (.t 57)
 (.seq (.region none [⟨some 59, .mov (.t 0), none, []⟩,
 ⟨some 60, .mov (.t 1), none, []⟩,
 ⟨some 61, .bin .sub (.t 60) (.c (.int .i64 1)), none, []⟩,
 ⟨some 62, .call 177 [(.t 59), (.t 61)], none, []⟩,
 ⟨some 63, .call 176 [(.c (.int .i64 13)), (.c (.string ⟨#[45]⟩)), (.t 62)], none, []⟩,
 ⟨none, .store 4 (.t 4) (.t 63), none, []⟩] [4])
 (.ret))
 (.skip)))))))))))))
 (.seq (.region none [⟨some 64, .bslice 4 [(.lit (.string ⟨#[]⟩)), (.lit (.string ⟨#[]⟩)), (.lit (.string ⟨#[]⟩)), (.lit (.string ⟨#[]⟩))] [(0, 1, (.c (.string ⟨#[43]⟩))), (1, 1, (.c (.string ⟨#[45]⟩))), (2, 1, (.c (.string ⟨#[42]⟩))), (3, 1, (.c (.string ⟨#[47]⟩)))], none, []⟩,
 ⟨some 65, .mov (.t 0), none, []⟩,
 ⟨some 66, .call 136 [(.t 65), (.c (.int .i64 4))], none, []⟩,
 ⟨some 67, .indexAddr 1 (.t 64) (.t 66), none, []⟩,
 ⟨some 68, .load false 1 (.t 67), none, []⟩,
 ⟨some 7, .mov (.t 68), none, []⟩] [0, 1, 4, 7])
 (.seq (.region none [⟨some 69, .mov (.t 0), none, []⟩,
 ⟨some 70, .mov (.t 1), none, []⟩,
 ⟨some 71, .bin .sub (.t 70) (.c (.int .i64 1)), none, []⟩,
 ⟨some 72, .call 177 [(.t 69), (.t 71)], none, []⟩,
 ⟨some 8, .alloc [(.lit (.int .i64 0)), (.lit (.int .i64 0)), (.lit (.string ⟨#[]⟩)), (.lit (.slice none 0 0))], none, []⟩,
 ⟨none, .store 4 (.t 8) (.t 72), none, []⟩] [0, 1, 4, 7, 8])
 (.seq (.region (some []) [⟨some 73, .mov (.t 7), none, []⟩,
 ⟨some 74, .load true 4 (.t 8), none, [5]⟩,
 ⟨some 75, .mov (.t 0), none, []⟩,
 ⟨some 76, .mov (.t 1), none, []⟩,
 ⟨some 77, .bin .sub (.t 76) (.c (.int .i64 1)), none, []⟩,
 ⟨some 78, .call 177 [(.t 75), (.t 77)], none, []⟩,
 ⟨some 79, .call 178 [(.c (.int .i64 14)), (.t 73), (.t 74), (.t 78)], none, []⟩,
 ⟨none, .store 4 (.t 4) (.t 79), none, []⟩] [4] [5, 6])
 (.ret))))))), false, false, false⟩
/-- arenanet/arenanetref13.two -/
def F178 : PFun := ⟨4, [.cell 8 true 4],
 .seq (.region none [⟨some 6, .box (.t 2), none, []⟩,
 ⟨some 7, .box (.t 3), none, []⟩,
 ⟨some 8, .alloc [(.lit (.int .i64 0)), (.lit (.int .i64 0)), (.lit (.string ⟨#[]⟩)), (.lit (.slice none 0 0))], none, []⟩] [0, 1, 6, 7, 8])
 (.seq (.region none [⟨some 9, .mov (.t 0), none, []⟩,
 ⟨some 10, .mov (.t 1), none, []⟩,
 ⟨some 11, .load true 4 (.t 6), none, []⟩,
 ⟨some 12, .load true 4 (.t 7), none, []⟩,
 ⟨some 13, .bslice 2 [(.lit (.int .i64 0)), (.lit (.int .i64 0)), (.lit (.string ⟨#[]⟩)), (.lit (.slice none 0 0)), (.lit (.int .i64 0)), (.lit (.int .i64 0)), (.lit (.string ⟨#[]⟩)), (.lit (.slice none 0 0))] [(0, 4, (.t 11)), (4, 4, (.t 12))], none, []⟩,
 ⟨some 14, .build [(.lit (.int .i64 0)), (.lit (.int .i64 0)), (.lit (.string ⟨#[]⟩)), (.lit (.slice none 0 0))] [(0, 1, (.t 9)), (2, 1, (.t 10)), (3, 1, (.t 13))], none, []⟩,
 ⟨none, .store 4 (.t 8) (.t 14), none, []⟩] [8])
 (.ret)), false, false, false⟩
/-- (*arenanet/arenanetref13.G).Bool -/
def F179 : PFun := ⟨2, [.cell 4 true 4],
 .seq (.region none [⟨some 4, .alloc [(.lit (.int .i64 0)), (.lit (.int .i64 0)), (.lit (.string ⟨#[]⟩)), (.lit (.slice none 0 0))], none, []⟩] [0, 1, 4])
 (.seq (.region none [⟨some 10, .mov (.t 0), none, []⟩,
 ⟨some 11, .call 136 [(.t 10), (.c (.int .i64 8))], none, []⟩,
 ⟨some 5, .mov (.t 11), none, []⟩] [0, 1, 4, 5])
 (.seq (.seq (.region none [⟨some 12, .mov (.t 1), none, []⟩,
 ⟨some 13, .bin .leq (.t 12) (.c (.int .i64 0)), none, []⟩] [0, 1, 4, 5, 13])
 (.cond (.t 13)
 (.region none [⟨some 14, .mov (.t 5), none, []⟩,
 ⟨some 15, .bin .rem (.t 14) (.c (.int .i64 4)), none, []⟩,
 ⟨some 5, .mov (.t 15), none, []⟩] [0, 1, 4, 5])
 (.skip)))
 (.seq (.seq (.region none [⟨some 16, .mov (.t 5), none, []⟩] [0, 1, 4, 16])
 (.block 0 (.seq (.region none [⟨some 18, .bin .eql (.t 16) (.c (.int .i64 0)), none, []⟩,
 ⟨some 17, .mov (.t 18), none, []⟩] [0, 1, 4, 16, 17])
 (.cond (.t 17)
 (.seq (.region none [⟨some 19, .mov (.t 0), none, []⟩,
 ⟨some 20, .call 136 [(.t 19), (.c (.int .i64 2))], none, []⟩,
 ⟨some 21, .build [(.lit (.int .i64 0)), (.lit (.int .i64 0)), (.lit (.string ⟨#[]⟩)), (.lit (.slice none 0 0))] [(0, 1, (.c (.int .i64 9))), (1, 1, (.t 20))], none, []⟩,
 ⟨none, .store 4 (.t 4) (.t 21), none, []⟩] [4])
 (.ret))
 (.seq (.seq (.region none [⟨some 23, .bin .eql (.t 16) (.c (.int .i64 1)), none, []⟩,
 ⟨some 22, .mov (.t 23), none, []⟩] [0, 1, 4, 16, 22])
 (.cond (.t 22)
 (.skip)
 (.seq (.region none [⟨some 24, .bin .eql (.t 16) (.c (.int .i64 2)), none, []⟩,
 ⟨some 22, .mov (.t 24), none, []⟩] [0, 1, 4, 16, 22])
 (.cond (.t 22)
 (.skip)
 (.seq (.region none [⟨some 25, .bin .eql (.t 16) (.c (.int .i64 3)), none, []⟩,
 ⟨some 22, .mov (.t 25), none, []⟩] [0, 1, 4, 16, 22])
 (.cond (.t 22)
 (.skip)
 (.region none [⟨some 26, .bin .eql (.t 16) (.c (.int .i64 4)), none, []⟩,
 ⟨some 22, .mov (.t 26), none, []⟩] [0, 1, 4, 16, 22])))))))
 (.cond (.t 22)
 (.seq (.region none [⟨some 27, .bslice 6 [(.lit (.string ⟨#[]⟩)), (.lit (.string ⟨#[]⟩)), (.lit (.string ⟨#[]⟩)), (.lit (.string ⟨#[]⟩)), (.lit (.string ⟨#[]⟩)), (.lit (.string ⟨#[]⟩))] [(0, 1, (.c (.string ⟨#[60]⟩))), (1, 1, (.c (.string ⟨#[60, 61]⟩))), (2, 1, (.c (.string ⟨#[62]⟩))), (3, 1, (.c (.string ⟨#[62, 61]⟩))), (4, 1, (.c (.string ⟨#[61, 61]⟩))), (5, 1, (.c (.string ⟨#[33, 61]⟩)))], none, []⟩,
 ⟨some 28, .mov (.t 0), none, []⟩,
 ⟨some 29, .call 136 [(.t 28), (.c (.int .i64 6))], none, []⟩,
 ⟨some 30, .indexAddr 1 (.t 27) (.t 29), none, []⟩,
 ⟨some 31, .load false 1 (.t 30), none, []⟩,
 ⟨some 6, .mov (.t 31), none, []⟩] [0, 1, 4, 6])
 (.seq (.region none [⟨some 32, .mov (.t 0), none, []⟩,
 ⟨some 33, .mov (.t 1), none, []⟩,
 ⟨some 34, .bin .sub (.t 33) (.c (.int .i64 1)), none, []⟩,
 ⟨some 35, .call 177 [(.t 32), (.t 34)], none, []⟩,
 ⟨some 7, .alloc [(.lit (.int .i64 0)), (.lit (.int .i64 0)), (.lit (.string ⟨#[]⟩)), (.lit (.slice none 0 0))], none, []⟩,
 ⟨none, .store 4 (.t 7) (.t 35), none, []⟩] [0, 1, 4, 6, 7])
 (.seq (.region (some []) [⟨some 36, .mov (.t 6), none, []⟩,
 ⟨some 37, .load true 4 (.t 7), none, [5]⟩,
 ⟨some 38, .mov (.t 0), none, []⟩,
 ⟨some 39, .mov (.t 1), none, []⟩,
 ⟨some 40, .bin .sub (.t 39) (.c (.int .i64 1)), none, []⟩,
 ⟨some 41, .call 177 [(.t 38), (.t 40)], none, []⟩,
 ⟨some 42, .call 178 [(.c (.int .i64 14)), (.t 36), (.t 37), (.t 41)], none, []⟩,
 ⟨none, .store 4 (.t 4) (.t 42), none, []⟩] [4] [5, 6])
 (.ret))))
 (.seq (.region none [⟨some 44, .bin .eql (.t 16) (.c (.int .i64 5)), none, []⟩,
 ⟨some 43, .mov (.t 44), none, []⟩] [0, 1, 4, 43])
 (.cond (.t 43)
 (.seq (.region none [⟨some 45, .mov (.t 0), none, []⟩,
 ⟨some 46, .mov (.t 1), none, []⟩,
 ⟨some 47, .bin .sub (.t 46) (.c (.int .i64 1)), none, []⟩,
 ⟨some 48, .call 179 [(.t 45), (.t 47)], none, []⟩,
 ⟨some 49, .call 176 [(.c (.int .i64 13)), (.c (.string ⟨#[33]⟩)), (.t 48)], none, []⟩,
 ⟨none, .store 4 (.t 4) (.t 49), none, []⟩] [4])
 (.ret))
 (.skip)))))))))
 (.seq (.region none [⟨some 50, .bslice 2 [(.lit (.string ⟨#[]⟩)), (.lit (.string ⟨#[]⟩))] [(0, 1, (.c (.string ⟨#[38, 38]⟩))), (1, 1, (.c (.string ⟨#[124, 124]⟩)))], none, []⟩,
 ⟨some 51, .mov (.t 0), none, []⟩,
 ⟨some 52, .call 136 [(.t 51), (.c (.int .i64 2))], none, []⟩,
 ⟨some 53, .indexAddr 1 (.t 50) (.t 52), none, []⟩,
 ⟨some 54, .load false 1 (.t 53), none, []⟩,
 ⟨some 8, .mov (.t 54), none, []⟩] [0, 1, 4, 8])
 (.seq (.region none [⟨some 55, .mov (.t 0), none, []⟩,
 ⟨some 56, .mov (.t 1), none, []⟩,
 ⟨some 57, .bin .sub (.t 56) (.c (.int .i64 1)), none, []⟩,
 ⟨some 58, .call 179 [(.t 55), (.t 57)], none, []⟩,
 ⟨some 9, .alloc [(.lit (.int .i64 0)), (.lit (.int .i64 0)), (.lit (.string ⟨#[]⟩)), (.lit (.slice none 0 0))], none, []⟩,
 ⟨none, .store 4 (.t 9) (.t 58), none, []⟩] [0, 1, 4, 8, 9])
 (.seq (.region (some []) [⟨some 59, .mov (.t 8), none, []⟩,
 ⟨some 60, .load true 4 (.t 9), none, [5]⟩,
 ⟨some 61, .mov (.t 0), none, []⟩,
 ⟨some 62, .mov (.t 1), none, []⟩,
 ⟨some 63, .bin .sub (.t 62) (.c (.int .i64 1)), none, []⟩,
 ⟨some 64, .call 179 [(.t 61), (.t 63)], none, []⟩,
 ⟨some 65, .call 178 [(.c (.int .i64 14)), (.t 59), (.t 60), (.t 64)], none, []⟩,
 ⟨none, .store 4 (.t 4) (.t 65), none, []⟩] [4] [5, 6])
 (.ret))))))), false, false, false⟩
/-- arenanet/typecheck.nodes$1 -/
def F38 : PFun := ⟨2, [],
 .region none [⟨some 3, .load true 4 (.t 1), none, []⟩,
 ⟨some 4, .mov (.t 0), none, []⟩,
 ⟨some 5, .call 39 [(.t 3), (.t 4)], none, []⟩] [], false, false, false⟩
@[simp] def F39l0x : PC := (.seq (.region none [⟨some 15, .bin .lss (.t 14) (.t 13), none, []⟩] [1, 12, 13, 14, 15])
 (.seq (.cond (.t 15)
 (.skip)
 (.exit 0))
 (.seq (.block 1 (.seq (.region none [⟨some 16, .indexAddr 4 (.t 12) (.t 14), none, []⟩,
 ⟨some 17, .load true 4 (.t 16), none, []⟩,
 ⟨some 6, .alloc [(.lit (.int .i64 0)), (.lit (.int .i64 0)), (.lit (.string ⟨#[]⟩)), (.lit (.slice none 0 0))], none, []⟩,
 ⟨none, .store 4 (.t 6) (.t 17), none, []⟩] [1, 6, 12, 13, 14])
 (.seq (.region none [⟨some 18, .load true 4 (.t 6), none, []⟩,
 ⟨some 19, .mov (.t 1), none, []⟩,
 ⟨some 20, .call 39 [(.t 18), (.t 19)], none, []⟩,
 ⟨some 21, .un .not (.t 20), none, []⟩] [1, 12, 13, 14, 21])
 (.cond (.t 21)
 (.seq (.region none [⟨some 4, .mov (.c (.bool false)), none, []⟩] [4])
 (.ret))
 (.skip)))))
 (.region none [⟨some 22, .bin .add (.t 14) (.c (.int .i64 1)), none, []⟩,
 ⟨some 14, .mov (.t 22), none, []⟩] [1, 12, 13, 14]))))
def F39l0 : PC := F39l0x
theorem run_F39l0 (C : Task → Option Res) (k : Nat) (fr : Fr) (σ : S) : run C k F39l0 fr σ = run C k F39l0x fr σ := rfl
/-- arenanet/typecheck.visit -/
def F39 : PFun := ⟨2, [.tmp 4],
 .seq (.region none [⟨some 2, .box (.t 0), none, []⟩,
 ⟨some 4, .mov (.c (.bool false)), none, []⟩] [1, 2])
 (.seq (.seq (.region none [⟨some 7, .mov (.t 1), none, []⟩,
 ⟨some 8, .load true 4 (.t 2), none, []⟩,
 ⟨some 9, .callv (.t 7) [(.t 8)], none, []⟩,
 ⟨some 10, .un .not (.t 9), none, []⟩] [1, 2, 10])
 (.cond (.t 10)
 (.seq (.region none [⟨some 4, .mov (.c (.bool false)), none, []⟩] [4])
 (.ret))
 (.skip)))
 (.seq (.seq (.region none [⟨some 11, .fieldAddr 3 (.t 2), none, []⟩,
 ⟨some 12, .load false 1 (.t 11), none, []⟩,
 ⟨some 13, .len .sl (.t 12), none, []⟩,
 ⟨some 14, .mov (.c (.int .i64 0)), none, []⟩] [1, 12, 13, 14])
 (.block 0 (.loop F39l0)))
 (.seq (.region none [⟨some 4, .mov (.c (.bool true)), none, []⟩] [4])
 (.ret)))), false, false, false⟩
/-- (*arenanet/compile.translator).choice -/
def F180 : PFun := ⟨4, [],
 .seq (.region none [⟨some 8, .mov (.t 1), none, []⟩,
 ⟨some 9, .callv (.t 8) [], none, []⟩] [1000000, 0, 2, 3])
 (.seq (.region none [⟨some 10, .mov (.t 0), none, []⟩,
 ⟨some 11, .mov (.t 2), none, []⟩,
 ⟨some 12, .call 200 [(.t 10), (.t 11)], none, []⟩,
 ⟨some 1000000, .defer (.t 12) [], none, []⟩] [1000000, 3])
 (.region none [⟨some 13, .mov (.t 3), none, []⟩,
 ⟨some 14, .callv (.t 13) [], none, []⟩] [1000000])), false, true, false⟩
/-- (*arenanet/compile.translator).binary$1 -/
def F181 : PFun := ⟨2, [],
 .region none [⟨some 2, .load false 1 (.t 0), none, []⟩,
 ⟨some 3, .load true 4 (.t 1), none, []⟩,
 ⟨some 4, .call 165 [(.t 2), (.t 3), (.c (.int .i64 0))], none, []⟩] [], false, false, false⟩
/-- (*arenanet/compile.translator).binary$2 -/
def F182 : PFun := ⟨2, [],
 .region none [⟨some 2, .load false 1 (.t 0), none, []⟩,
 ⟨some 3, .load true 4 (.t 1), none, []⟩,
 ⟨some 4, .call 165 [(.t 2), (.t 3), (.c (.int .i64 1))], none, []⟩] [], false, false, false⟩
/-- (*arenanet/compile.translator).binary$3 -/
def F183 : PFun := ⟨1, [],
 .region none [⟨some 1, .load false 1 (.t 0), none, []⟩,
 ⟨some 2, .call 148 [(.t 1), (.c (.int .i64 1)), (.c (.int .i64 0))], none, []⟩] [], false, false, false⟩
/-- (*arenanet/compile.translator).binary$4 -/
def F184 : PFun := ⟨2, [],
 .region none [⟨some 2, .load false 1 (.t 0), none, []⟩,
 ⟨some 3, .load true 4 (.t 1), none, []⟩,
 ⟨some 4, .call 165 [(.t 2), (.t 3), (.c (.int .i64 0))], none, []⟩] [], false, false, false⟩
/-- (*arenanet/compile.translator).binary$5 -/
def F185 : PFun := ⟨1, [],
 .region none [⟨some 1, .load false 1 (.t 0), none, []⟩,
 ⟨some 2, .call 148 [(.t 1), (.c (.int .i64 1)), (.c (.int .i64 1))], none, []⟩] [], false, false, false⟩
/-- (*arenanet/compile.translator).binary$6 -/
def F186 : PFun := ⟨2, [],
 .region none [⟨some 2, .load false 1 (.t 0), none, []⟩,
 ⟨some 3, .load true 4 (.t 1), none, []⟩,
 ⟨some 4, .call 165 [(.t 2), (.t 3), (.c (.int .i64 1))], none, []⟩] [], false, false, false⟩
/-- arenanet/compile.opcode -/
def F187 : PFun := ⟨1, [.tmp 2],
 .seq (.region none [⟨some 2, .mov (.c (.int .i64 0)), none, []⟩] [0])
 (.seq (.seq (.region none [⟨some 3, .mov (.t 0), none, []⟩] [3])
 (.block 0 (.seq (.region none [⟨some 5, .bin .eql (.t 3) (.c (.string ⟨#[43]⟩)), none, []⟩,
 ⟨some 4, .mov (.t 5), none, []⟩] [3, 4])
 (.cond (.t 4)
 (.seq (.region none [⟨some 2, .mov (.c (.int .i64 9)), none, []⟩] [2])
 (.ret))
 (.seq (.region none [⟨some 7, .bin .eql (.t 3) (.c (.string ⟨#[45]⟩)), none, []⟩,
 ⟨some 6, .mov (.t 7), none, []⟩] [3, 6])
 (.cond (.t 6)
 (.seq (.region none [⟨some 2, .mov (.c (.int .i64 10)), none, []⟩] [2])
 (.ret))
 (.seq (.region none [⟨some 9, .bin .eql (.t 3) (.c (.string ⟨#[42]⟩)), none, []⟩,
 ⟨some 8, .mov (.t 9), none, []⟩] [3, 8])
 (.cond (.t 8)
 (.seq (.region none [⟨some 2, .mov (.c (.int .i64 11)), none, []⟩] [2])
 (.ret))
 (.seq (.region none [⟨some 11, .bin .eql (.t 3) (.c (.string ⟨#[47]⟩)), none, []⟩,
 ⟨some 10, .mov (.t 11), none, []⟩] [3, 10])
 (.cond (.t 10)
 (.seq (.region none [⟨some 2, .mov (.c (.int .i64 12)), none, []⟩] [2])
 (.ret))
 (.seq (.seq (.region none [⟨some 13, .bin .eql (.t 3) (.c (.string ⟨#[60]⟩)), none, []⟩,
 ⟨some 12, .mov (.t 13), none, []⟩] [3, 12])
 (.cond (.t 12)
 (.skip)
 (.region none [⟨some 14, .bin .eql (.t 3) (.c (.string ⟨#[62]⟩)), none, []⟩,
 ⟨some 12, .mov (.t 14), none, []⟩] [3, 12])))
 (.cond (.t 12)
 (.seq (.region none [⟨some 2, .mov (.c (.int .i64 14)), none, []⟩] [2])
 (.ret))
 (.seq (.seq (.region none [⟨some 16, .bin .eql (.t 3) (.c (.string ⟨#[60, 61]⟩)), none, []⟩,
 ⟨some 15, .mov (.t 16), none, []⟩] [3, 15])
 (.cond (.t 15)
 (.skip)
 (.region none [⟨some 17, .bin .eql (.t 3) (.c (.string ⟨#[62, 61]⟩)), none, []⟩,
 ⟨some 15, .mov (.t 17), none, []⟩] [15])))
 (.cond (.t 15)
 (.seq (.region none [⟨some 2, .mov (.c (.int .i64 15)), none, []⟩] [2])
 (.ret))
 (.skip)))))))))))))))
 (.seq (.region none [⟨some 2, .mov (.c (.int .i64 16)), none, []⟩] [2])
 (.ret))), false, false, false⟩
/-- (*arenanet/compile.translator).statement$1 -/
def F188 : PFun := ⟨2, [],
 .region none [⟨some 2, .load false 1 (.t 0), none, []⟩,
 ⟨some 3, .load true 4 (.t 1), none, []⟩,
 ⟨some 4, .call 165 [(.t 2), (.t 3), (.c (.int .i64 0))], none, []⟩] [], false, false, false⟩
/-- (*arenanet/compile.translator).statement$2 -/
def F189 : PFun := ⟨2, [],
 .region none [⟨some 2, .load false 1 (.t 0), none, []⟩,
 ⟨some 3, .load true 4 (.t 1), none, []⟩,
 ⟨some 4, .call 165 [(.t 2), (.t 3), (.c (.int .i64 1))], none, []⟩] [], false, false, false⟩
/-- (*arenanet/compile.translator).statement$3 -/
def F190 : PFun := ⟨2, [],
 .region none [⟨some 2, .load false 1 (.t 0), none, []⟩,
 ⟨some 3, .load true 4 (.t 1), none, []⟩,
 ⟨some 4, .call 165 [(.t 2), (.t 3), (.c (.int .i64 2))], none, []⟩] [], false, false, false⟩
/-- (*arenanet/compile.translator).loop -/
def F191 : PFun := ⟨2, [],
 .seq (.region none [⟨some 3, .box (.t 1), none, []⟩] [1000000, 0, 3])
 (.seq (.region none [⟨some 5, .mov (.t 0), none, []⟩,
 ⟨some 6, .nilchk (.t 5), none, []⟩,
 ⟨some 7, .fieldAddr 0 (.t 6), none, []⟩,
 ⟨some 8, .load false 1 (.t 7), none, []⟩,
 ⟨some 9, .len .sl (.t 8), none, []⟩,
 ⟨some 4, .mov (.t 9), none, []⟩] [1000000, 0, 3, 4])
 (.seq (.region none [⟨some 10, .mov (.t 0), none, []⟩,
 ⟨some 11, .load true 4 (.t 3), none, []⟩,
 ⟨some 12, .call 165 [(.t 10), (.t 11), (.c (.int .i64 0))], none, []⟩] [1000000, 0, 3, 4])
 (.seq (.region none [⟨some 13, .mov (.t 0), none, []⟩,
 ⟨some 14, .call 201 [(.t 13), (.c (.int .i64 19))], none, []⟩,
 ⟨some 1000000, .defer (.t 14) [], none, []⟩] [1000000, 0, 3, 4])
 (.seq (.region none [⟨some 15, .mov (.t 0), none, []⟩,
 ⟨some 16, .load true 4 (.t 3), none, []⟩,
 ⟨some 17, .call 165 [(.t 15), (.t 16), (.c (.int .i64 1))], none, []⟩] [1000000, 0, 4])
 (.region none [⟨some 18, .mov (.t 0), none, []⟩,
 ⟨some 19, .mov (.t 4), none, []⟩,
 ⟨some 20, .call 148 [(.t 18), (.c (.int .i64 18)), (.t 19)], none, []⟩] [1000000]))))), false, true, false⟩
/-- arenanet/arenanetref13.letter -/
def F192 : PFun := ⟨1, [.tmp 2],
 .seq (.region none [⟨some 2, .mov (.c (.bool false)), none, []⟩] [0])
 (.seq (.region none [⟨some 3, .mov (.t 0), none, []⟩,
 ⟨some 4, .bin .geq (.t 3) (.c (.int .u8 97)), none, []⟩,
 ⟨some 5, .mov (.t 4), none, []⟩,
 ⟨some 6, .mov (.t 0), some (5, true), []⟩,
 ⟨some 7, .bin .leq (.t 6) (.c (.int .u8 122)), some (5, true), []⟩,
 ⟨some 8, .pick (.t 5) (.t 7) (.c (.bool false)), none, []⟩,
 ⟨some 2, .mov (.t 8), none, []⟩] [2])
 (.ret)), false, false, false⟩
/-- arenanet/arenanetref13.digit -/
def F193 : PFun := ⟨1, [.tmp 2],
 .seq (.region none [⟨some 2, .mov (.c (.bool false)), none, []⟩] [0])
 (.seq (.region none [⟨some 3, .mov (.t 0), none, []⟩,
 ⟨some 4, .bin .geq (.t 3) (.c (.int .u8 48)), none, []⟩,
 ⟨some 5, .mov (.t 4), none, []⟩,
 ⟨some 6, .mov (.t 0), some (5, true), []⟩,
 ⟨some 7, .bin .leq (.t 6) (.c (.int .u8 57)), some (5, true), []⟩,
 ⟨some 8, .pick (.t 5) (.t 7) (.c (.bool false)), none, []⟩,
 ⟨some 2, .mov (.t 8), none, []⟩] [2])
 (.ret)), false, false, false⟩
/-- arenanet/arenanetref13.Reserved -/
def F194 : PFun := ⟨1, [.tmp 2],
 .seq (.region none [⟨some 2, .mov (.c (.bool false)), none, []⟩] [0])
 (.seq (.region none [⟨some 3, .mov (.t 0), none, []⟩,
 ⟨some 4, .call 198 [(.t 3)], none, []⟩,
 ⟨some 5, .mov (.t 4), none, []⟩,
 ⟨some 6, .bslice 13 [(.lit (.string ⟨#[]⟩)), (.lit (.string ⟨#[]⟩)), (.lit (.string ⟨#[]⟩)), (.lit (.string ⟨#[]⟩)), (.lit (.string ⟨#[]⟩)), (.lit (.string ⟨#[]⟩)), (.lit (.string ⟨#[]⟩)), (.lit (.string ⟨#[]⟩)), (.lit (.string ⟨#[]⟩)), (.lit (.string ⟨#[]⟩)), (.lit (.string ⟨#[]⟩)), (.lit (.string ⟨#[]⟩)), (.lit (.string ⟨#[]⟩))] [(0, 1, (.c (.string ⟨#[111, 110]⟩))), (1, 1, (.c (.string ⟨#[97, 99, 116]⟩))), (2, 1, (.c (.string ⟨#[116, 105, 99, 107]⟩))), (3, 1, (.c (.string ⟨#[104, 105, 116]⟩))), (4, 1, (.c (.string ⟨#[105, 102]⟩))), (5, 1, (.c (.string ⟨#[101, 108, 115, 101]⟩))), (6, 1, (.c (.string ⟨#[119, 104, 105, 108, 101]⟩))), (7, 1, (.c (.string ⟨#[101, 102, 102, 101, 99, 116]⟩))), (8, 1, (.c (.string ⟨#[115, 116, 111, 112]⟩))), (9, 1, (.c (.string ⟨#[116, 114, 117, 101]⟩))), (10, 1, (.c (.string ⟨#[102, 97, 108, 115, 101]⟩))), (11, 1, (.c (.string ⟨#[115, 101, 108, 102]⟩))), (12, 1, (.c (.string ⟨#[111, 116, 104, 101, 114]⟩)))], some (5, false), []⟩,
 ⟨some 7, .mov (.t 0), some (5, false), []⟩,
 ⟨some 8, .call 196 [(.t 6), (.t 7)], some (5, false), []⟩,
 ⟨some 9, .pick (.t 5) (.c (.bool true)) (.t 8), none, []⟩,
 ⟨some 2, .mov (.t 9), none, []⟩] [2])
 (.ret)), false, false, false⟩
@[simp] def F195l0x : PC := (.seq (.seq (.region none [⟨some 5, .mov (.t 4), none, []⟩,
 ⟨some 6, .mov (.t 0), none, []⟩,
 ⟨some 7, .len .str (.t 6), none, []⟩,
 ⟨some 8, .bin .lss (.t 5) (.t 7), none, []⟩] [0, 3, 4, 8])
 (.cond (.t 8)
 (.skip)
 (.exit 0)))
 (.seq (.block 1 (.seq (.region none [⟨some 11, .mov (.t 3), none, []⟩,
 ⟨some 12, .bin .mul (.c (.int .i64 10)) (.t 11), none, []⟩,
 ⟨some 13, .mov (.t 0), none, []⟩,
 ⟨some 14, .mov (.t 4), none, []⟩,
 ⟨some 15, .indexS (.t 13) (.t 14), none, []⟩,
 ⟨some 16, .conv (.int .i64) (.t 15), none, []⟩,
 ⟨some 17, .bin .add (.t 12) (.t 16), none, []⟩,
 ⟨some 18, .bin .sub (.t 17) (.c (.int .i64 48)), none, []⟩,
 ⟨some 3, .mov (.t 18), none, []⟩] [0, 3, 4])
 (.seq (.region none [⟨some 19, .mov (.t 3), none, []⟩,
 ⟨some 20, .bin .gtr (.t 19) (.c (.int .i64 2147483647)), none, []⟩] [0, 3, 4, 20])
 (.cond (.t 20)
 (.seq (.region none [⟨some 2, .mov (.c (.int .i64 (-1))), none, []⟩] [2])
 (.ret))
 (.skip)))))
 (.region none [⟨some 9, .mov (.t 4), none, []⟩,
 ⟨some 10, .bin .add (.t 9) (.c (.int .i64 1)), none, []⟩,
 ⟨some 4, .mov (.t 10), none, []⟩] [0, 3, 4])))
def F195l0 : PC := F195l0x
theorem run_F195l0 (C : Task → Option Res) (k : Nat) (fr : Fr) (σ : S) : run C k F195l0 fr σ = run C k F195l0x fr σ := rfl
/-- arenanet/arenanetref13.value -/
def F195 : PFun := ⟨1, [.tmp 2],
 .seq (.region none [⟨some 2, .mov (.c (.int .i64 0)), none, []⟩] [0])
 (.seq (.region none [⟨some 3, .mov (.c (.int .i64 0)), none, []⟩] [0, 3])
 (.seq (.seq (.region none [⟨some 4, .mov (.c (.int .i64 0)), none, []⟩] [0, 3, 4])
 (.block 0 (.loop F195l0)))
 (.seq (.region none [⟨some 21, .mov (.t 3), none, []⟩,
 ⟨some 2, .mov (.t 21), none, []⟩] [2])
 (.ret)))), false, false, false⟩
@[simp] def F196l0x : PC := (.seq (.seq (.region none [⟨some 6, .mov (.t 5), none, []⟩,
 ⟨some 7, .mov (.t 0), none, []⟩,
 ⟨some 8, .len .sl (.t 7), none, []⟩,
 ⟨some 9, .bin .lss (.t 6) (.t 8), none, []⟩] [0, 1, 5, 9])
 (.cond (.t 9)
 (.skip)
 (.exit 0)))
 (.seq (.block 1 (.seq (.region none [⟨some 12, .mov (.t 0), none, []⟩,
 ⟨some 13, .mov (.t 5), none, []⟩,
 ⟨some 14, .indexAddr 1 (.t 12) (.t 13), none, []⟩,
 ⟨some 15, .load false 1 (.t 14), none, []⟩,
 ⟨some 16, .mov (.t 1), none, []⟩,
 ⟨some 17, .bin .eql (.t 15) (.t 16), none, []⟩] [0, 1, 5, 17])
 (.cond (.t 17)
 (.seq (.region none [⟨some 4, .mov (.c (.bool true)), none, []⟩] [4])
 (.ret))
 (.skip))))
 (.region none [⟨some 10, .mov (.t 5), none, []⟩,
 ⟨some 11, .bin .add (.t 10) (.c (.int .i64 1)), none, []⟩,
 ⟨some 5, .mov (.t 11), none, []⟩] [0, 1, 5])))
def F196l0 : PC := F196l0x
theorem run_F196l0 (C : Task → Option Res) (k : Nat) (fr : Fr) (σ : S) : run C k F196l0 fr σ = run C k F196l0x fr σ := rfl
/-- arenanet/arenanetref13.has -/
def F196 : PFun := ⟨2, [.tmp 4],
 .seq (.region none [⟨some 4, .mov (.c (.bool false)), none, []⟩] [0, 1])
 (.seq (.seq (.region none [⟨some 5, .mov (.c (.int .i64 0)), none, []⟩] [0, 1, 5])
 (.block 0 (.loop F196l0)))
 (.seq (.region none [⟨some 4, .mov (.c (.bool false)), none, []⟩] [4])
 (.ret))), false, false, false⟩
/-- (*arenanet/arenanetref13.P).expr -/
def F197 : PFun := ⟨3, [.cell 6 true 4],
 .seq (.region none [⟨some 6, .alloc [(.lit (.int .i64 0)), (.lit (.int .i64 0)), (.lit (.string ⟨#[]⟩)), (.lit (.slice none 0 0))], none, []⟩] [0, 1, 2, 6])
 (.seq (.seq (.region none [⟨some 11, .mov (.t 0), none, []⟩,
 ⟨some 12, .nilchk (.t 11), none, []⟩,
 ⟨some 13, .fieldAddr 3 (.t 12), none, []⟩,
 ⟨some 14, .load false 1 (.t 13), none, []⟩,
 ⟨some 15, .bin .neq (.t 14) (.c (.int .i64 0)), none, []⟩] [0, 1, 2, 6, 15])
 (.cond (.t 15)
 (.seq (.region none [⟨some 16, .build [(.lit (.int .i64 0)), (.lit (.int .i64 0)), (.lit (.string ⟨#[]⟩)), (.lit (.slice none 0 0))] [], none, []⟩,
 ⟨none, .store 4 (.t 6) (.t 16), none, []⟩] [6])
 (.ret))
 (.skip)))
 (.seq (.region none [⟨some 17, .mov (.t 0), none, []⟩,
 ⟨some 18, .call 151 [(.t 17)], none, []⟩,
 ⟨some 7, .mov (.t 18), none, []⟩] [0, 1, 2, 6, 7])
 (.seq (.seq (.region none [⟨some 19, .mov (.t 2), none, []⟩,
 ⟨some 20, .bin .eql (.t 19) (.c (.int .i64 3)), none, []⟩,
 ⟨some 21, .mov (.t 20), none, []⟩,
 ⟨some 22, .mov (.t 7), some (21, true), []⟩,
 ⟨some 23, .bin .eql (.t 22) (.c (.string ⟨#[33]⟩)), some (21, true), []⟩,
 ⟨some 24, .pick (.t 21) (.t 23) (.c (.bool false)), none, []⟩] [0, 1, 2, 6, 7, 24])
 (.cond (.t 24)
 (.seq (.region none [⟨some 25, .mov (.t 0), none, []⟩,
 ⟨some 26, .mov (.t 7), none, []⟩,
 ⟨some 27, .mov (.t 1), none, []⟩,
 ⟨some 28, .call 202 [(.t 25), (.t 26), (.t 27), (.c (.int .i64 3))], none, []⟩,
 ⟨none, .store 4 (.t 6) (.t 28), none, []⟩] [6])
 (.ret))
 (.skip)))
 (.seq (.seq (.region none [⟨some 29, .mov (.t 2), none, []⟩,
 ⟨some 30, .bin .eql (.t 29) (.c (.int .i64 3)), none, []⟩] [0, 1, 2, 6, 7, 30])
 (.cond (.t 30)
 (.seq (.region none [⟨some 31, .mov (.t 0), none, []⟩,
 ⟨some 32, .mov (.t 1), none, []⟩,
 ⟨some 33, .call 203 [(.t 31), (.t 32), (.c (.int .i64 4))], none, []⟩,
 ⟨none, .store 4 (.t 6) (.t 33), none, []⟩] [6])
 (.ret))
 (.skip)))
 (.seq (.seq (.region none [⟨some 34, .mov (.t 2), none, []⟩,
 ⟨some 35, .bin .eql (.t 34) (.c (.int .i64 7)), none, []⟩,
 ⟨some 36, .mov (.t 35), none, []⟩,
 ⟨some 37, .mov (.t 7), some (36, true), []⟩,
 ⟨some 38, .bin .eql (.t 37) (.c (.string ⟨#[45]⟩)), some (36, true), []⟩,
 ⟨some 39, .pick (.t 36) (.t 38) (.c (.bool false)), none, []⟩] [0, 1, 2, 6, 7, 39])
 (.cond (.t 39)
 (.seq (.region none [⟨some 40, .mov (.t 0), none, []⟩,
 ⟨some 41, .mov (.t 7), none, []⟩,
 ⟨some 42, .mov (.t 1), none, []⟩,
 ⟨some 43, .call 202 [(.t 40), (.t 41), (.t 42), (.c (.int .i64 7))], none, []⟩,
 ⟨none, .store 4 (.t 6) (.t 43), none, []⟩] [6])
 (.ret))
 (.skip)))
 (.seq (.seq (.region none [⟨some 44, .mov (.t 2), none, []⟩,
 ⟨some 45, .bin .eql (.t 44) (.c (.int .i64 7)), none, []⟩] [0, 1, 2, 6, 7, 45])
 (.cond (.t 45)
 (.seq (.region none [⟨some 46, .mov (.t 0), none, []⟩,
 ⟨some 47, .mov (.t 1), none, []⟩,
 ⟨some 48, .call 197 [(.t 46), (.t 47), (.c (.int .i64 8))], none, []⟩,
 ⟨none, .store 4 (.t 6) (.t 48), none, []⟩] [6])
 (.ret))
 (.skip)))
 (.seq (.seq (.region none [⟨some 49, .mov (.t 2), none, []⟩,
 ⟨some 50, .bin .lss (.t 49) (.c (.int .i64 7)), none, []⟩] [0, 1, 2, 6, 7, 50])
 (.cond (.t 50)
 (.seq (.region none [⟨some 51, .mov (.t 0), none, []⟩,
 ⟨some 52, .mov (.t 1), none, []⟩,
 ⟨some 53, .mov (.t 2), none, []⟩,
 ⟨some 54, .call 203 [(.t 51), (.t 52), (.t 53)], none, []⟩,
 ⟨none, .store 4 (.t 6) (.t 54), none, []⟩] [6])
 (.ret))
 (.skip)))
 (.seq (.seq (.region none [⟨some 55, .mov (.t 7), none, []⟩,
 ⟨some 56, .bin .eql (.t 55) (.c (.string ⟨#[40]⟩)), none, []⟩] [0, 1, 6, 7, 56])
 (.cond (.t 56)
 (.seq (.region none [⟨some 57, .mov (.t 0), none, []⟩,
 ⟨some 58, .mov (.t 1), none, []⟩,
 ⟨some 59, .bin .add (.t 58) (.c (.int .i64 1)), none, []⟩,
 ⟨some 60, .call 172 [(.t 57), (.c (.string ⟨#[40]⟩)), (.t 59)], none, []⟩] [0, 1, 6])
 (.seq (.region none [⟨some 61, .mov (.t 0), none, []⟩,
 ⟨some 62, .mov (.t 1), none, []⟩,
 ⟨some 63, .bin .add (.t 62) (.c (.int .i64 1)), none, []⟩,
 ⟨some 64, .call 197 [(.t 61), (.t 63), (.c (.int .i64 1))], none, []⟩,
 ⟨some 8, .alloc [(.lit (.int .i64 0)), (.lit (.int .i64 0)), (.lit (.string ⟨#[]⟩)), (.lit (.slice none 0 0))], none, []⟩,
 ⟨none, .store 4 (.t 8) (.t 64), none, []⟩] [0, 6, 8])
 (.seq (.region none [⟨some 65, .mov (.t 0), none, []⟩,
 ⟨some 66, .call 150 [(.t 65), (.c (.string ⟨#[41]⟩))], none, []⟩] [6, 8])
 (.seq (.region none [⟨some 67, .load true 4 (.t 8), none, []⟩,
 ⟨none, .store 4 (.t 6) (.t 67), none, []⟩] [6])
 (.ret)))))
 (.skip)))
 (.seq (.seq (.region none [⟨some 68, .mov (.t 7), none, []⟩,
 ⟨some 69, .bin .eql (.t 68) (.c (.string ⟨#[]⟩)), none, []⟩,
 ⟨some 70, .mov (.t 69), none, []⟩,
 ⟨some 71, .mov (.t 7), some (70, false), []⟩,
 ⟨some 72, .bin .eql (.t 71) (.c (.string ⟨#[63]⟩)), some (70, false), []⟩,
 ⟨some 73, .pick (.t 70) (.c (.bool true)) (.t 72), none, []⟩] [0, 1, 6, 7, 73])
 (.cond (.t 73)
 (.seq (.region none [⟨some 74, .mov (.t 0), none, []⟩,
 ⟨some 75, .call 153 [(.t 74), (.c (.int .i64 12))], none, []⟩] [6])
 (.seq (.region none [⟨some 76, .build [(.lit (.int .i64 0)), (.lit (.int .i64 0)), (.lit (.string ⟨#[]⟩)), (.lit (.slice none 0 0))] [], none, []⟩,
 ⟨none, .store 4 (.t 6) (.t 76), none, []⟩] [6])
 (.ret)))
 (.skip)))
 (.seq (.seq (.region none [⟨some 77, .mov (.t 7), none, []⟩,
 ⟨some 78, .indexS (.t 77) (.c (.int .i64 0)), none, []⟩,
 ⟨some 79, .call 193 [(.t 78)], none, []⟩] [0, 1, 6, 7, 79])
 (.cond (.t 79)
 (.seq (.region none [⟨some 80, .mov (.t 0), none, []⟩,
 ⟨some 81, .call 154 [(.t 80)], none, []⟩] [6, 7])
 (.seq (.region none [⟨some 82, .mov (.t 7), none, []⟩,
 ⟨some 83, .call 195 [(.t 82)], none, []⟩,
 ⟨some 84, .build [(.lit (.int .i64 0)), (.lit (.int .i64 0)), (.lit (.string ⟨#[]⟩)), (.lit (.slice none 0 0))] [(0, 1, (.c (.int .i64 8))), (1, 1, (.t 83))], none, []⟩,
 ⟨none, .store 4 (.t 6) (.t 84), none, []⟩] [6])
 (.ret)))
 (.skip)))
 (.seq (.seq (.region none [⟨some 85, .mov (.t 7), none, []⟩,
 ⟨some 86, .bin .eql (.t 85) (.c (.string ⟨#[116, 114, 117, 101]⟩)), none, []⟩,
 ⟨some 87, .mov (.t 86), none, []⟩,
 ⟨some 88, .mov (.t 7), some (87, false), []⟩,
 ⟨some 89, .bin .eql (.t 88) (.c (.string ⟨#[102, 97, 108, 115, 101]⟩)), some (87, false), []⟩,
 ⟨some 90, .pick (.t 87) (.c (.bool true)) (.t 89), none, []⟩] [0, 1, 6, 7, 90])
 (.cond (.t 90)
 (.seq (.region none [⟨some 91, .mov (.t 0), none, []⟩,
 ⟨some 92, .call 154 [(.t 91)], none, []⟩] [6, 7])
 (.seq (.region none [⟨some 9, .mov (.c (.int .i64 0)), none, []⟩] [6, 7, 9])
 (.seq (.seq (.region none [⟨some 93, .mov (.t 7), none, []⟩,
 ⟨some 94, .bin .eql (.t 93) (.c (.string ⟨#[116, 114, 117, 101]⟩)), none, []⟩] [6, 9, 94])
 (.cond (.t 94)
 (.region none [⟨some 9, .mov (.c (.int .i64 1)), none, []⟩] [6, 9])
 (.skip)))
 (.seq (.region none [⟨some 95, .mov (.t 9), none, []⟩,
 ⟨some 96, .build [(.lit (.int .i64 0)), (.lit (.int .i64 0)), (.lit (.string ⟨#[]⟩)), (.lit (.slice none 0 0))] [(0, 1, (.c (.int .i64 9))), (1, 1, (.t 95))], none, []⟩,
 ⟨none, .store 4 (.t 6) (.t 96), none, []⟩] [6])
 (.ret)))))
 (.skip)))
 (.seq (.seq (.region none [⟨some 97, .mov (.t 7), none, []⟩,
 ⟨some 98, .bin .eql (.t 97) (.c (.string ⟨#[115, 101, 108, 102]⟩)), none, []⟩,
 ⟨some 99, .mov (.t 98), none, []⟩,
 ⟨some 100, .mov (.t 7), some (99, false), []⟩,
 ⟨some 101, .bin .eql (.t 100) (.c (.string ⟨#[111, 116, 104, 101, 114]⟩)), some (99, false), []⟩,
 ⟨some 102, .pick (.t 99) (.c (.bool true)) (.t 101), none, []⟩,
 ⟨some 103, .mov (.t 102), none, []⟩,
 ⟨some 104, .mov (.t 7), some (103, false), []⟩,
 ⟨some 105, .bin .eql (.t 104) (.c (.string ⟨#[116, 105, 99, 107]⟩)), some (103, false), []⟩,
 ⟨some 106, .pick (.t 103) (.c (.bool true)) (.t 105), none, []⟩] [0, 1, 6, 7, 106])
 (.cond (.t 106)
 (.seq (.region none [⟨some 107, .mov (.t 0), none, []⟩,
 ⟨some 108, .call 154 [(.t 107)], none, []⟩] [6, 7])
 (.seq (.region none [⟨some 109, .mov (.t 7), none, []⟩,
 ⟨some 110, .build [(.lit (.int .i64 0)), (.lit (.int .i64 0)), (.lit (.string ⟨#[]⟩)), (.lit (.slice none 0 0))] [(0, 1, (.c (.int .i64 12))), (2, 1, (.t 109))], none, []⟩,
 ⟨none, .store 4 (.t 6) (.t 110), none, []⟩] [6])
 (.ret)))
 (.skip)))
 (.seq (.seq (.region none [⟨some 111, .mov (.t 7), none, []⟩,
 ⟨some 112, .call 198 [(.t 111)], none, []⟩] [0, 1, 6, 7, 112])
 (.cond (.t 112)
 (.seq (.region none [⟨some 113, .mov (.t 0), none, []⟩,
 ⟨some 114, .call 154 [(.t 113)], none, []⟩] [0, 1, 6, 7])
 (.seq (.region none [⟨some 115, .mov (.t 0), none, []⟩,
 ⟨some 116, .mov (.t 1), none, []⟩,
 ⟨some 117, .call 199 [(.t 115), (.t 116)], none, []⟩,
 ⟨some 10, .alloc [(.lit (.int .i64 0)), (.lit (.int .i64 0)), (.lit (.string ⟨#[]⟩)), (.lit (.slice none 0 0))], none, []⟩,
 ⟨none, .store 4 (.t 10) (.t 117), none, []⟩] [6, 7, 10])
 (.seq (.region none [⟨some 118, .mov (.t 7), none, []⟩,
 ⟨some 119, .load true 4 (.t 10), none, []⟩,
 ⟨some 120, .bslice 1 [(.lit (.int .i64 0)), (.lit (.int .i64 0)), (.lit (.string ⟨#[]⟩)), (.lit (.slice none 0 0))] [(0, 4, (.t 119))], none, []⟩,
 ⟨some 121, .build [(.lit (.int .i64 0)), (.lit (.int .i64 0)), (.lit (.string ⟨#[]⟩)), (.lit (.slice none 0 0))] [(0, 1, (.c (.int .i64 11))), (2, 1, (.t 118)), (3, 1, (.t 120))], none, []⟩,
 ⟨none, .store 4 (.t 6) (.t 121), none, []⟩] [6])
 (.ret))))
 (.skip)))
 (.seq (.seq (.region none [⟨some 122, .mov (.t 7), none, []⟩,
 ⟨some 123, .indexS (.t 122) (.c (.int .i64 0)), none, []⟩,
 ⟨some 124, .call 192 [(.t 123)], none, []⟩,
 ⟨some 125, .mov (.t 124), none, []⟩,
 ⟨some 126, .mov (.t 7), some (125, true), []⟩,
 ⟨some 127, .call 194 [(.t 126)], some (125, true), []⟩,
 ⟨some 128, .un .not (.t 127), some (125, true), []⟩,
 ⟨some 129, .pick (.t 125) (.t 128) (.c (.bool false)), none, []⟩] [0, 6, 7, 129])
 (.cond (.t 129)
 (.seq (.region none [⟨some 130, .mov (.t 0), none, []⟩,
 ⟨some 131, .call 154 [(.t 130)], none, []⟩] [6, 7])
 (.seq (.region none [⟨some 132, .mov (.t 7), none, []⟩,
 ⟨some 133, .build [(.lit (.int .i64 0)), (.lit (.int .i64 0)), (.lit (.string ⟨#[]⟩)), (.lit (.slice none 0 0))] [(0, 1, (.c (.int .i64 10))), (2, 1, (.t 132))], none, []⟩,
 ⟨none, .store 4 (.t 6) (.t 133), none, []⟩] [6])
 (.ret)))
 (.skip)))
 (.seq (.region none [⟨some 134, .mov (.t 0), none, []⟩,
 ⟨some 135, .call 153 [(.t 134), (.c (.int .i64 12))], none, []⟩] [6])
 (.seq (.region none [⟨some 136, .build [(.lit (.int .i64 0)), (.lit (.int .i64 0)), (.lit (.string ⟨#[]⟩)), (.lit (.slice none 0 0))] [], none, []⟩,
 ⟨none, .store 4 (.t 6) (.t 136), none, []⟩] [6])
 (.ret))))))))))))))))), false, false, false⟩
/-- arenanet/arenanetref13.Field -/
def F198 : PFun := ⟨1, [.tmp 2],
 .seq (.region none [⟨some 2, .mov (.c (.bool false)), none, []⟩] [0])
 (.seq (.region none [⟨some 3, .bslice 8 [(.lit (.string ⟨#[]⟩)), (.lit (.string ⟨#[]⟩)), (.lit (.string ⟨#[]⟩)), (.lit (.string ⟨#[]⟩)), (.lit (.string ⟨#[]⟩)), (.lit (.string ⟨#[]⟩)), (.lit (.string ⟨#[]⟩)), (.lit (.string ⟨#[]⟩))] [(0, 1, (.c (.string ⟨#[120]⟩))), (1, 1, (.c (.string ⟨#[121]⟩))), (2, 1, (.c (.string ⟨#[118, 120]⟩))), (3, 1, (.c (.string ⟨#[118, 121]⟩))), (4, 1, (.c (.string ⟨#[97]⟩))), (5, 1, (.c (.string ⟨#[98]⟩))), (6, 1, (.c (.string ⟨#[104, 105, 116]⟩))), (7, 1, (.c (.string ⟨#[115, 116, 105, 108, 108]⟩)))], none, []⟩,
 ⟨some 4, .mov (.t 0), none, []⟩,
 ⟨some 5, .call 196 [(.t 3), (.t 4)], none, []⟩,
 ⟨some 2, .mov (.t 5), none, []⟩] [2])
 (.ret)), false, false, false⟩
/-- (*arenanet/arenanetref13.P).index -/
def F199 : PFun := ⟨2, [.cell 4 true 4],
 .seq (.region none [⟨some 4, .alloc [(.lit (.int .i64 0)), (.lit (.int .i64 0)), (.lit (.string ⟨#[]⟩)), (.lit (.slice none 0 0))], none, []⟩] [0, 1, 4])
 (.seq (.region none [⟨some 6, .mov (.t 0), none, []⟩,
 ⟨some 7, .mov (.t 1), none, []⟩,
 ⟨some 8, .bin .add (.t 7) (.c (.int .i64 1)), none, []⟩,
 ⟨some 9, .call 172 [(.t 6), (.c (.string ⟨#[91]⟩)), (.t 8)], none, []⟩] [0, 1, 4])
 (.seq (.region none [⟨some 10, .mov (.t 0), none, []⟩,
 ⟨some 11, .mov (.t 1), none, []⟩,
 ⟨some 12, .bin .add (.t 11) (.c (.int .i64 1)), none, []⟩,
 ⟨some 13, .call 197 [(.t 10), (.t 12), (.c (.int .i64 1))], none, []⟩,
 ⟨some 5, .alloc [(.lit (.int .i64 0)), (.lit (.int .i64 0)), (.lit (.string ⟨#[]⟩)), (.lit (.slice none 0 0))], none, []⟩,
 ⟨none, .store 4 (.t 5) (.t 13), none, []⟩] [0, 4, 5])
 (.seq (.region none [⟨some 14, .mov (.t 0), none, []⟩,
 ⟨some 15, .call 150 [(.t 14), (.c (.string ⟨#[93]⟩))], none, []⟩] [4, 5])
 (.seq (.region none [⟨some 16, .load true 4 (.t 5), none, []⟩,
 ⟨none, .store 4 (.t 4) (.t 16), none, []⟩] [4])
 (.ret))))), false, false, false⟩
/-- (*arenanet/compile.translator).first -/
def F200 : PFun := ⟨2, [.tmp 4],
 .seq (.region none [⟨some 4, .mov (.c .nilFunc), none, []⟩] [1000000, 0, 1])
 (.seq (.region none [⟨some 6, .mov (.t 0), none, []⟩,
 ⟨some 7, .call 201 [(.t 6), (.c (.int .i64 19))], none, []⟩,
 ⟨some 5, .mov (.t 7), none, []⟩] [1000000, 0, 1, 5])
 (.seq (.region none [⟨some 8, .mov (.t 5), none, []⟩,
 ⟨some 1000000, .defer (.t 8) [], none, []⟩] [1000000, 0, 1])
 (.seq (.region none [⟨some 9, .mov (.t 1), none, []⟩,
 ⟨some 10, .callv (.t 9) [], none, []⟩] [1000000, 0])
 (.seq (.region none [⟨some 11, .mov (.t 0), none, []⟩,
 ⟨some 12, .call 201 [(.t 11), (.c (.int .i64 18))], none, []⟩,
 ⟨some 4, .mov (.t 12), none, []⟩] [1000000, 4])
 (.ret))))), false, true, false⟩
/-- (*arenanet/compile.translator).jump -/
def F201 : PFun := ⟨2, [.tmp 4],
 .seq (.region none [⟨some 2, .box (.t 0), none, []⟩,
 ⟨some 4, .mov (.c .nilFunc), none, []⟩] [1, 2])
 (.seq (.region none [⟨some 6, .load false 1 (.t 2), none, []⟩,
 ⟨some 7, .mov (.t 1), none, []⟩,
 ⟨some 8, .call 148 [(.t 6), (.t 7), (.c (.int .i64 0))], none, []⟩,
 ⟨some 5, .alloc [(.lit (.int .i64 0))], none, []⟩,
 ⟨none, .store 1 (.t 5) (.t 8), none, []⟩] [2, 5])
 (.seq (.region none [⟨some 9, .mkfn 204 [] [(.t 2), (.t 5)], none, []⟩,
 ⟨some 4, .mov (.t 9), none, []⟩] [4])
 (.ret))), false, false, false⟩
/-- (*arenanet/arenanetref13.P).unary -/
def F202 : PFun := ⟨4, [.cell 8 true 4],
 .seq (.region none [⟨some 8, .alloc [(.lit (.int .i64 0)), (.lit (.int .i64 0)), (.lit (.string ⟨#[]⟩)), (.lit (.slice none 0 0))], none, []⟩] [0, 1, 2, 3, 8])
 (.seq (.region none [⟨some 10, .mov (.t 0), none, []⟩,
 ⟨some 11, .mov (.t 1), none, []⟩,
 ⟨some 12, .mov (.t 2), none, []⟩,
 ⟨some 13, .bin .add (.t 12) (.c (.int .i64 1)), none, []⟩,
 ⟨some 14, .call 172 [(.t 10), (.t 11), (.t 13)], none, []⟩] [0, 1, 2, 3, 8])
 (.seq (.region none [⟨some 15, .mov (.t 0), none, []⟩,
 ⟨some 16, .mov (.t 2), none, []⟩,
 ⟨some 17, .bin .add (.t 16) (.c (.int .i64 1)), none, []⟩,
 ⟨some 18, .mov (.t 3), none, []⟩,
 ⟨some 19, .call 197 [(.t 15), (.t 17), (.t 18)], none, []⟩,
 ⟨some 9, .alloc [(.lit (.int .i64 0)), (.lit (.int .i64 0)), (.lit (.string ⟨#[]⟩)), (.lit (.slice none 0 0))], none, []⟩,
 ⟨none, .store 4 (.t 9) (.t 19), none, []⟩] [1, 8, 9])
 (.seq (.region none [⟨some 20, .mov (.t 1), none, []⟩,
 ⟨some 21, .load true 4 (.t 9), none, []⟩,
 ⟨some 22, .bslice 1 [(.lit (.int .i64 0)), (.lit (.int .i64 0)), (.lit (.string ⟨#[]⟩)), (.lit (.slice none 0 0))] [(0, 4, (.t 21))], none, []⟩,
 ⟨some 23, .build [(.lit (.int .i64 0)), (.lit (.int .i64 0)), (.lit (.string ⟨#[]⟩)), (.lit (.slice none 0 0))] [(0, 1, (.c (.int .i64 13))), (2, 1, (.t 20)), (3, 1, (.t 22))], none, []⟩,
 ⟨none, .store 4 (.t 8) (.t 23), none, []⟩] [8])
 (.ret)))), false, false, false⟩
@[simp] def F203l0x : PC := (.seq (.seq (.region (some []) [⟨some 22, .mov (.t 0), none, []⟩,
 ⟨some 23, .nilchk (.t 22), none, []⟩,
 ⟨some 24, .fieldAddr 3 (.t 23), none, []⟩,
 ⟨some 25, .load false 1 (.t 24), none, []⟩,
 ⟨some 26, .bin .eql (.t 25) (.c (.int .i64 0)), none, []⟩,
 ⟨some 27, .mov (.t 26), none, []⟩,
 ⟨some 28, .mov (.t 7), some (27, true), []⟩,
 ⟨some 29, .mov (.t 2), some (27, true), []⟩,
 ⟨some 30, .indexAddr 1 (.t 28) (.t 29), some (27, true), []⟩,
 ⟨some 31, .load false 1 (.t 30), some (27, true), [11]⟩,
 ⟨some 32, .mov (.t 0), some (27, true), []⟩,
 ⟨some 33, .call 151 [(.t 32)], some (27, true), []⟩,
 ⟨some 34, .call 196 [(.t 31), (.t 33)], some (27, true), []⟩,
 ⟨some 35, .pick (.t 27) (.t 34) (.c (.bool false)), none, []⟩] [0, 1, 2, 6, 7, 8, 35] [11, 12])
 (.cond (.t 35)
 (.skip)
 (.exit 0)))
 (.block 1 (.seq (.region none [⟨some 36, .mov (.t 0), none, []⟩,
 ⟨some 37, .call 151 [(.t 36)], none, []⟩,
 ⟨some 9, .mov (.t 37), none, []⟩] [0, 1, 2, 6, 7, 8, 9])
 (.seq (.region none [⟨some 38, .mov (.t 0), none, []⟩,
 ⟨some 39, .call 154 [(.t 38)], none, []⟩] [0, 1, 2, 6, 7, 8, 9])
 (.seq (.region none [⟨some 40, .mov (.t 0), none, []⟩,
 ⟨some 41, .mov (.t 1), none, []⟩,
 ⟨some 42, .mov (.t 2), none, []⟩,
 ⟨some 43, .bin .add (.t 42) (.c (.int .i64 1)), none, []⟩,
 ⟨some 44, .call 197 [(.t 40), (.t 41), (.t 43)], none, []⟩,
 ⟨some 10, .alloc [(.lit (.int .i64 0)), (.lit (.int .i64 0)), (.lit (.string ⟨#[]⟩)), (.lit (.slice none 0 0))], none, []⟩,
 ⟨none, .store 4 (.t 10) (.t 44), none, []⟩] [0, 1, 2, 6, 7, 8, 9, 10])
 (.seq (.region none [⟨some 45, .mov (.t 9), none, []⟩,
 ⟨some 46, .load true 4 (.t 8), none, []⟩,
 ⟨some 47, .load true 4 (.t 10), none, []⟩,
 ⟨some 48, .bslice 2 [(.lit (.int .i64 0)), (.lit (.int .i64 0)), (.lit (.string ⟨#[]⟩)), (.lit (.slice none 0 0)), (.lit (.int .i64 0)), (.lit (.int .i64 0)), (.lit (.string ⟨#[]⟩)), (.lit (.slice none 0 0))] [(0, 4, (.t 46)), (4, 4, (.t 47))], none, []⟩,
 ⟨some 49, .build [(.lit (.int .i64 0)), (.lit (.int .i64 0)), (.lit (.string ⟨#[]⟩)), (.lit (.slice none 0 0))] [(0, 1, (.c (.int .i64 14))), (2, 1, (.t 45)), (3, 1, (.t 48))], none, []⟩,
 ⟨none, .store 4 (.t 8) (.t 49), none, []⟩] [0, 1, 2, 6, 7, 8])
 (.seq (.region none [⟨some 50, .mov (.t 2), none, []⟩,
 ⟨some 51, .bin .eql (.t 50) (.c (.int .i64 4)), none, []⟩] [0, 1, 2, 6, 7, 8, 51])
 (.cond (.t 51)
 (.exit 0)
 (.skip)))))))))
def F203l0 : PC := F203l0x
theorem run_F203l0 (C : Task → Option Res) (k : Nat) (fr : Fr) (σ : S) : run C k F203l0 fr σ = run C k F203l0x fr σ := rfl
/-- (*arenanet/arenanetref13.P).binary -/
def F203 : PFun := ⟨3, [.cell 6 true 4],
 .seq (.region none [⟨some 6, .alloc [(.lit (.int .i64 0)), (.lit (.int .i64 0)), (.lit (.string ⟨#[]⟩)), (.lit (.slice none 0 0))], none, []⟩] [0, 1, 2, 6])
 (.seq (.region none [⟨some 11, .bslice 1 [(.lit (.string ⟨#[]⟩))] [(0, 1, (.c (.string ⟨#[124, 124]⟩)))], none, []⟩,
 ⟨some 12, .bslice 1 [(.lit (.string ⟨#[]⟩))] [(0, 1, (.c (.string ⟨#[38, 38]⟩)))], none, []⟩,
 ⟨some 13, .bslice 6 [(.lit (.string ⟨#[]⟩)), (.lit (.string ⟨#[]⟩)), (.lit (.string ⟨#[]⟩)), (.lit (.string ⟨#[]⟩)), (.lit (.string ⟨#[]⟩)), (.lit (.string ⟨#[]⟩))] [(0, 1, (.c (.string ⟨#[60]⟩))), (1, 1, (.c (.string ⟨#[60, 61]⟩))), (2, 1, (.c (.string ⟨#[62]⟩))), (3, 1, (.c (.string ⟨#[62, 61]⟩))), (4, 1, (.c (.string ⟨#[61, 61]⟩))), (5, 1, (.c (.string ⟨#[33, 61]⟩)))], none, []⟩,
 ⟨some 14, .bslice 2 [(.lit (.string ⟨#[]⟩)), (.lit (.string ⟨#[]⟩))] [(0, 1, (.c (.string ⟨#[43]⟩))), (1, 1, (.c (.string ⟨#[45]⟩)))], none, []⟩,
 ⟨some 15, .bslice 2 [(.lit (.string ⟨#[]⟩)), (.lit (.string ⟨#[]⟩))] [(0, 1, (.c (.string ⟨#[42]⟩))), (1, 1, (.c (.string ⟨#[47]⟩)))], none, []⟩,
 ⟨some 16, .bslice 7 [(.lit (.slice none 0 0)), (.lit (.slice none 0 0)), (.lit (.slice none 0 0)), (.lit (.slice none 0 0)), (.lit (.slice none 0 0)), (.lit (.slice none 0 0)), (.lit (.slice none 0 0))] [(0, 1, (.c (.slice none 0 0))), (1, 1, (.t 11)), (2, 1, (.t 12)), (3, 1, (.c (.slice none 0 0))), (4, 1, (.t 13)), (5, 1, (.t 14)), (6, 1, (.t 15))], none, []⟩,
 ⟨some 7, .mov (.t 16), none, []⟩] [0, 1, 2, 6, 7])
 (.seq (.region none [⟨some 17, .mov (.t 0), none, []⟩,
 ⟨some 18, .mov (.t 1), none, []⟩,
 ⟨some 19, .mov (.t 2), none, []⟩,
 ⟨some 20, .bin .add (.t 19) (.c (.int .i64 1)), none, []⟩,
 ⟨some 21, .call 197 [(.t 17), (.t 18), (.t 20)], none, []⟩,
 ⟨some 8, .alloc [(.lit (.int .i64 0)), (.lit (.int .i64 0)), (.lit (.string ⟨#[]⟩)), (.lit (.slice none 0 0))], none, []⟩,
 ⟨none, .store 4 (.t 8) (.t 21), none, []⟩] [0, 1, 2, 6, 7, 8])
 (.seq (.block 0 (.loop F203l0))
 (.seq (.region none [⟨some 52, .load true 4 (.t 8), none, []⟩,
 ⟨none, .store 4 (.t 6) (.t 52), none, []⟩] [6])
 (.ret))))), false, false, false⟩
/-- (*arenanet/compile.translator).jump$1 -/
def F204 : PFun := ⟨2, [],
 .region (some []) [⟨some 2, .load false 1 (.t 0), none, []⟩,
 ⟨some 3, .nilchk (.t 2), none, []⟩,
 ⟨some 4, .fieldAddr 0 (.t 3), none, []⟩,
 ⟨some 5, .load false 1 (.t 4), none, []⟩,
 ⟨some 6, .load false 1 (.t 1), none, []⟩,
 ⟨some 7, .load false 1 (.t 0), none, []⟩,
 ⟨some 8, .nilchk (.t 7), none, []⟩,
 ⟨some 9, .fieldAddr 0 (.t 8), none, []⟩,
 ⟨some 10, .load false 1 (.t 9), none, []⟩,
 ⟨some 11, .len .sl (.t 10), none, []⟩,
 ⟨some 12, .indexAddr 2 (.t 5) (.t 6), none, []⟩,
 ⟨some 13, .fieldAddr 1 (.t 12), none, []⟩,
 ⟨none, .store 1 (.t 13) (.t 11), none, []⟩] [], false, false, false⟩
def prog15 : Nat → Option PFun
 | 116 => some F116
 | 117 => some F117
 | 118 => some F118
 | 119 => some F119
 | 120 => some F120
 | 121 => some F121
 | 122 => some F122
 | 123 => some F123
 | 124 => some F124
 | 125 => some F125
 | 126 => some F126
 | 127 => some F127
 | 17 => some F17
 | 128 => some F128
 | 129 => some F129
 | 130 => some F130
 | 131 => some F131
 | 20 => some F20
 | 132 => some F132
 | 133 => some F133
 | 134 => some F134
 | 16 => some F16
 | 135 => some F135
 | 23 => some F23
 | 136 => some F136
 | 137 => some F137
 | 138 => some F138
 | 139 => some F139
 | 140 => some F140
 | 141 => some F141
 | 142 => some F142
 | 143 => some F143
 | 144 => some F144
 | 145 => some F145
 | 146 => some F146
 | 15 => some F15
 | 147 => some F147
 | 148 => some F148
 | 149 => some F149
 | 150 => some F150
 | 151 => some F151
 | 152 => some F152
 | 153 => some F153
 | 154 => some F154
 | 155 => some F155
 | 33 => some F33
 | 156 => some F156
 | 157 => some F157
 | 158 => some F158
 | 159 => some F159
 | 160 => some F160
 | 161 => some F161
 | 162 => some F162
 | 163 => some F163
 | 164 => some F164
 | 32 => some F32
 | 165 => some F165
 | 166 => some F166
 | 167 => some F167
 | 168 => some F168
 | 169 => some F169
 | 170 => some F170
 | 171 => some F171
 | 172 => some F172
 | 173 => some F173
 | 28 => some F28
 | 174 => some F174
 | 175 => some F175
 | 176 => some F176
 | 177 => some F177
 | 178 => some F178
 | 179 => some F179
 | 38 => some F38
 | 39 => some F39
 | 180 => some F180
 | 181 => some F181
 | 182 => some F182
 | 183 => some F183
 | 184 => some F184
 | 185 => some F185
 | 186 => some F186
 | 187 => some F187
 | 188 => some F188
 | 189 => some F189
 | 190 => some F190
 | 191 => some F191
 | 192 => some F192
 | 193 => some F193
 | 194 => some F194
 | 195 => some F195
 | 196 => some F196
 | 197 => some F197
 | 198 => some F198
 | 199 => some F199
 | 200 => some F200
 | 201 => some F201
 | 202 => some F202
 | 203 => some F203
 | 204 => some F204
 | _ => none
end Go.Pm.F
end SF15
