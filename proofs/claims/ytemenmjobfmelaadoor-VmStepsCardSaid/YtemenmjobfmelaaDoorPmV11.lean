/- Chapter 16: the start of a handler; a step that is none. -/
import Derived.Test.YtemenmjobfmelaaDoorPmV10
set_option linter.unusedSimpArgs false
set_option linter.unusedVariables false
section SV11
set_option linter.unusedSimpArgs false
set_option linter.unusedVariables false
namespace Go.Pm
open F
/-- The entry of a handler. -/
def entI (e0 e1 e2 h : Int) : Int := if h = 0 then e0 else if h = 1 then e1 else e2
def startC (cs : List Int) (e fuel self other : Int) : List Int := setI (setI (setI (setI (setI cs 6 e) 7 0) 8 fuel) 9 self) 10 other
@[simp] theorem startC_length (cs : List Int) (e fuel self other : Int) : (startC cs e fuel self other).length = cs.length := by simp [startC]
section
variable {s : Su} {cs cs1 cs2 cs3 cs4 cs5 : List Int} {N : Nat} {lg lg1 lg2 lg3 lg4 lg5 : List D} {k k1 k2 k3 k4 k5 t t1 t2 t3 t4 t5 op : Nat} {c : List (Nat × Int)} {f : Bool} {e0 e1 e2 n h e self other fuel pc sp : Int}
theorem start0_0 (he : ¬ e < 0) (hE : e0 = e)
    (s6 : Z prog16 (.call 114 [.ptr 0 0, .int 6, .int e] (mem0 cs N)) = some (.ret (.tup []) (mem1 cs1 N lg1 k1 t1)))
    (s7 : Z prog16 (.call 114 [.ptr 0 0, .int 7, .int 0] (mem1 cs1 N lg1 k1 t1)) = some (.ret (.tup []) (mem1 cs2 N lg2 k2 t2)))
    (s8 : Z prog16 (.call 114 [.ptr 0 0, .int 8, .int fuel] (mem1 cs2 N lg2 k2 t2)) = some (.ret (.tup []) (mem1 cs3 N lg3 k3 t3)))
    (s9 : Z prog16 (.call 114 [.ptr 0 0, .int 9, .int self] (mem1 cs3 N lg3 k3 t3)) = some (.ret (.tup []) (mem1 cs4 N lg4 k4 t4)))
    (s10 : Z prog16 (.call 114 [.ptr 0 0, .int 10, .int other] (mem1 cs4 N lg4 k4 t4)) = some (.ret (.tup []) (mem1 cs5 N lg5 k5 t5))) :
    Z prog16 (.call 49 [.iface 0 (.ptr 0 0), progD f c e0 e1 e2, .int 0, .int self, .int other, .int fuel] (mem0 cs N)) = some (.ret (.bool true) (mem1 cs5 N lg5 k5 t5)) := by
  refine Z_call (pf := F49) rfl rfl ?_
  subst hE
  simp only [mem0, mem1] at s6 s7 s8 s9 s10
  simp [F49, mem0, mem1, progD, List.range_succ, calm, alone, he, s6, s7, s8, s9, s10]
theorem start0_1 (he : ¬ e < 0) (hE : e1 = e)
    (s6 : Z prog16 (.call 114 [.ptr 0 0, .int 6, .int e] (mem0 cs N)) = some (.ret (.tup []) (mem1 cs1 N lg1 k1 t1)))
    (s7 : Z prog16 (.call 114 [.ptr 0 0, .int 7, .int 0] (mem1 cs1 N lg1 k1 t1)) = some (.ret (.tup []) (mem1 cs2 N lg2 k2 t2)))
    (s8 : Z prog16 (.call 114 [.ptr 0 0, .int 8, .int fuel] (mem1 cs2 N lg2 k2 t2)) = some (.ret (.tup []) (mem1 cs3 N lg3 k3 t3)))
    (s9 : Z prog16 (.call 114 [.ptr 0 0, .int 9, .int self] (mem1 cs3 N lg3 k3 t3)) = some (.ret (.tup []) (mem1 cs4 N lg4 k4 t4)))
    (s10 : Z prog16 (.call 114 [.ptr 0 0, .int 10, .int other] (mem1 cs4 N lg4 k4 t4)) = some (.ret (.tup []) (mem1 cs5 N lg5 k5 t5))) :
    Z prog16 (.call 49 [.iface 0 (.ptr 0 0), progD f c e0 e1 e2, .int 1, .int self, .int other, .int fuel] (mem0 cs N)) = some (.ret (.bool true) (mem1 cs5 N lg5 k5 t5)) := by
  refine Z_call (pf := F49) rfl rfl ?_
  subst hE
  simp only [mem0, mem1] at s6 s7 s8 s9 s10
  simp [F49, mem0, mem1, progD, List.range_succ, calm, alone, he, s6, s7, s8, s9, s10]
theorem start0_2 (he : ¬ e < 0) (hE : e2 = e)
    (s6 : Z prog16 (.call 114 [.ptr 0 0, .int 6, .int e] (mem0 cs N)) = some (.ret (.tup []) (mem1 cs1 N lg1 k1 t1)))
    (s7 : Z prog16 (.call 114 [.ptr 0 0, .int 7, .int 0] (mem1 cs1 N lg1 k1 t1)) = some (.ret (.tup []) (mem1 cs2 N lg2 k2 t2)))
    (s8 : Z prog16 (.call 114 [.ptr 0 0, .int 8, .int fuel] (mem1 cs2 N lg2 k2 t2)) = some (.ret (.tup []) (mem1 cs3 N lg3 k3 t3)))
    (s9 : Z prog16 (.call 114 [.ptr 0 0, .int 9, .int self] (mem1 cs3 N lg3 k3 t3)) = some (.ret (.tup []) (mem1 cs4 N lg4 k4 t4)))
    (s10 : Z prog16 (.call 114 [.ptr 0 0, .int 10, .int other] (mem1 cs4 N lg4 k4 t4)) = some (.ret (.tup []) (mem1 cs5 N lg5 k5 t5))) :
    Z prog16 (.call 49 [.iface 0 (.ptr 0 0), progD f c e0 e1 e2, .int 2, .int self, .int other, .int fuel] (mem0 cs N)) = some (.ret (.bool true) (mem1 cs5 N lg5 k5 t5)) := by
  refine Z_call (pf := F49) rfl rfl ?_
  subst hE
  simp only [mem0, mem1] at s6 s7 s8 s9 s10
  simp [F49, mem0, mem1, progD, List.range_succ, calm, alone, he, s6, s7, s8, s9, s10]
theorem startno0 (hb : h < 0 ∨ 3 ≤ h ∨ entI e0 e1 e2 h < 0) :
    Z prog16 (.call 49 [.iface 0 (.ptr 0 0), progD f c e0 e1 e2, .int h, .int self, .int other, .int fuel] (mem0 cs N)) = some (.ret (.bool false) (mem0 cs N)) := by
  refine Z_call (pf := F49) rfl rfl ?_
  by_cases h0 : h < 0
  · simp [F49, mem0, mem1, progD, List.range_succ, calm, alone, h0]
  · by_cases h3 : 3 ≤ h
    · simp [F49, mem0, mem1, progD, List.range_succ, calm, alone, h0, h3]
    · obtain rfl | rfl | rfl : h = 0 ∨ h = 1 ∨ h = 2 := by omega
      · have h4 : e0 < 0 := by simpa [entI] using hb
        simp [F49, mem0, mem1, progD, List.range_succ, calm, alone, h4]
      · have h4 : e1 < 0 := by simpa [entI] using hb
        simp [F49, mem0, mem1, progD, List.range_succ, calm, alone, h4]
      · have h4 : e2 < 0 := by simpa [entI] using hb
        simp [F49, mem0, mem1, progD, List.range_succ, calm, alone, h4]
theorem stepno0 (g6 : Z prog16 (.call 51 [.ptr 0 0, .int 6] (mem0 cs N)) = some (.ret (.int pc) (mem0 cs N)))
    (g7 : Z prog16 (.call 51 [.ptr 0 0, .int 7] (mem0 cs N)) = some (.ret (.int sp) (mem0 cs N)))
    (g8 : Z prog16 (.call 51 [.ptr 0 0, .int 8] (mem0 cs N)) = some (.ret (.int fuel) (mem0 cs N)))
    (hb : fuel < 1 ∨ pc < 0 ∨ (c.length : Int) ≤ pc) :
    Z prog16 (.call 52 [.iface 0 (.ptr 0 0), s.d, progD f c e0 e1 e2] (mem0 cs N)) = some (.ret (.tup [.bool true, .dat (.agg (intsC [0, 0, 0, 0])), .bool false]) (mem0 cs N)) := by
  refine Z_call (pf := F52) rfl rfl ?_
  simp only [mem0, mem1] at g6 g7 g8
  by_cases h0 : fuel < 1
  · simp [F52, mem0, mem1, Su.d, Su.c, progD, List.range_succ, intsC, g6, g7, g8, h0]
  · by_cases h1 : pc < 0
    · simp [F52, mem0, mem1, Su.d, Su.c, progD, List.range_succ, intsC, g6, g7, g8, h0, h1]
    · have h2 : (c.length : Int) ≤ pc := by omega
      simp [F52, mem0, mem1, Su.d, Su.c, progD, List.range_succ, intsC, g6, g7, g8, h0, h1, h2]
theorem stepbad0 (g6 : Z prog16 (.call 51 [.ptr 0 0, .int 6] (mem0 cs N)) = some (.ret (.int pc) (mem0 cs N)))
    (g7 : Z prog16 (.call 51 [.ptr 0 0, .int 7] (mem0 cs N)) = some (.ret (.int sp) (mem0 cs N)))
    (g8 : Z prog16 (.call 51 [.ptr 0 0, .int 8] (mem0 cs N)) = some (.ret (.int fuel) (mem0 cs N)))
    (hf : ¬ fuel < 1) (hp0 : ¬ pc < 0) (hp1 : ¬ (c.length : Int) ≤ pc)
    (hc : sliceAddr 2 (.dat (codeD f c)) pc = some (.dat (.imm (codeC c) (pc.toNat * 2)))) (hc2 : cutCells (codeC c) (pc.toNat * 2) 2 = some [.lit (.int .i64 op), .lit (.int .i64 n)])
    (hx : Z prog16 (.call 63 [.dat (.agg [.lit (.int .i64 op), .lit (.int .i64 n)]), .int sp] []) = some (.ret (.bool false) [])) :
    Z prog16 (.call 52 [.iface 0 (.ptr 0 0), s.d, progD f c e0 e1 e2] (mem0 cs N)) = some (.ret (.tup [.bool true, .dat (.agg (intsC [0, 0, 0, 0])), .bool false]) (mem0 cs N)) := by
  refine Z_call (pf := F52) rfl rfl ?_
  simp only [mem0, mem1] at g6 g7 g8
  simp [F52, mem0, mem1, Su.d, Su.c, progD, List.range_succ, intsC, g6, g7, g8, hf, hp0, hp1, hc, hc2, hx]
theorem start1_0 (he : ¬ e < 0) (hE : e0 = e)
    (s6 : Z prog16 (.call 114 [.ptr 0 0, .int 6, .int e] (mem1 cs N lg k t)) = some (.ret (.tup []) (mem1 cs1 N lg1 k1 t1)))
    (s7 : Z prog16 (.call 114 [.ptr 0 0, .int 7, .int 0] (mem1 cs1 N lg1 k1 t1)) = some (.ret (.tup []) (mem1 cs2 N lg2 k2 t2)))
    (s8 : Z prog16 (.call 114 [.ptr 0 0, .int 8, .int fuel] (mem1 cs2 N lg2 k2 t2)) = some (.ret (.tup []) (mem1 cs3 N lg3 k3 t3)))
    (s9 : Z prog16 (.call 114 [.ptr 0 0, .int 9, .int self] (mem1 cs3 N lg3 k3 t3)) = some (.ret (.tup []) (mem1 cs4 N lg4 k4 t4)))
    (s10 : Z prog16 (.call 114 [.ptr 0 0, .int 10, .int other] (mem1 cs4 N lg4 k4 t4)) = some (.ret (.tup []) (mem1 cs5 N lg5 k5 t5))) :
    Z prog16 (.call 49 [.iface 0 (.ptr 0 0), progD f c e0 e1 e2, .int 0, .int self, .int other, .int fuel] (mem1 cs N lg k t)) = some (.ret (.bool true) (mem1 cs5 N lg5 k5 t5)) := by
  refine Z_call (pf := F49) rfl rfl ?_
  subst hE
  simp only [mem0, mem1] at s6 s7 s8 s9 s10
  simp [F49, mem0, mem1, progD, List.range_succ, calm, alone, he, s6, s7, s8, s9, s10]
theorem start1_1 (he : ¬ e < 0) (hE : e1 = e)
    (s6 : Z prog16 (.call 114 [.ptr 0 0, .int 6, .int e] (mem1 cs N lg k t)) = some (.ret (.tup []) (mem1 cs1 N lg1 k1 t1)))
    (s7 : Z prog16 (.call 114 [.ptr 0 0, .int 7, .int 0] (mem1 cs1 N lg1 k1 t1)) = some (.ret (.tup []) (mem1 cs2 N lg2 k2 t2)))
    (s8 : Z prog16 (.call 114 [.ptr 0 0, .int 8, .int fuel] (mem1 cs2 N lg2 k2 t2)) = some (.ret (.tup []) (mem1 cs3 N lg3 k3 t3)))
    (s9 : Z prog16 (.call 114 [.ptr 0 0, .int 9, .int self] (mem1 cs3 N lg3 k3 t3)) = some (.ret (.tup []) (mem1 cs4 N lg4 k4 t4)))
    (s10 : Z prog16 (.call 114 [.ptr 0 0, .int 10, .int other] (mem1 cs4 N lg4 k4 t4)) = some (.ret (.tup []) (mem1 cs5 N lg5 k5 t5))) :
    Z prog16 (.call 49 [.iface 0 (.ptr 0 0), progD f c e0 e1 e2, .int 1, .int self, .int other, .int fuel] (mem1 cs N lg k t)) = some (.ret (.bool true) (mem1 cs5 N lg5 k5 t5)) := by
  refine Z_call (pf := F49) rfl rfl ?_
  subst hE
  simp only [mem0, mem1] at s6 s7 s8 s9 s10
  simp [F49, mem0, mem1, progD, List.range_succ, calm, alone, he, s6, s7, s8, s9, s10]
theorem start1_2 (he : ¬ e < 0) (hE : e2 = e)
    (s6 : Z prog16 (.call 114 [.ptr 0 0, .int 6, .int e] (mem1 cs N lg k t)) = some (.ret (.tup []) (mem1 cs1 N lg1 k1 t1)))
    (s7 : Z prog16 (.call 114 [.ptr 0 0, .int 7, .int 0] (mem1 cs1 N lg1 k1 t1)) = some (.ret (.tup []) (mem1 cs2 N lg2 k2 t2)))
    (s8 : Z prog16 (.call 114 [.ptr 0 0, .int 8, .int fuel] (mem1 cs2 N lg2 k2 t2)) = some (.ret (.tup []) (mem1 cs3 N lg3 k3 t3)))
    (s9 : Z prog16 (.call 114 [.ptr 0 0, .int 9, .int self] (mem1 cs3 N lg3 k3 t3)) = some (.ret (.tup []) (mem1 cs4 N lg4 k4 t4)))
    (s10 : Z prog16 (.call 114 [.ptr 0 0, .int 10, .int other] (mem1 cs4 N lg4 k4 t4)) = some (.ret (.tup []) (mem1 cs5 N lg5 k5 t5))) :
    Z prog16 (.call 49 [.iface 0 (.ptr 0 0), progD f c e0 e1 e2, .int 2, .int self, .int other, .int fuel] (mem1 cs N lg k t)) = some (.ret (.bool true) (mem1 cs5 N lg5 k5 t5)) := by
  refine Z_call (pf := F49) rfl rfl ?_
  subst hE
  simp only [mem0, mem1] at s6 s7 s8 s9 s10
  simp [F49, mem0, mem1, progD, List.range_succ, calm, alone, he, s6, s7, s8, s9, s10]
theorem startno1 (hb : h < 0 ∨ 3 ≤ h ∨ entI e0 e1 e2 h < 0) :
    Z prog16 (.call 49 [.iface 0 (.ptr 0 0), progD f c e0 e1 e2, .int h, .int self, .int other, .int fuel] (mem1 cs N lg k t)) = some (.ret (.bool false) (mem1 cs N lg k t)) := by
  refine Z_call (pf := F49) rfl rfl ?_
  by_cases h0 : h < 0
  · simp [F49, mem0, mem1, progD, List.range_succ, calm, alone, h0]
  · by_cases h3 : 3 ≤ h
    · simp [F49, mem0, mem1, progD, List.range_succ, calm, alone, h0, h3]
    · obtain rfl | rfl | rfl : h = 0 ∨ h = 1 ∨ h = 2 := by omega
      · have h4 : e0 < 0 := by simpa [entI] using hb
        simp [F49, mem0, mem1, progD, List.range_succ, calm, alone, h4]
      · have h4 : e1 < 0 := by simpa [entI] using hb
        simp [F49, mem0, mem1, progD, List.range_succ, calm, alone, h4]
      · have h4 : e2 < 0 := by simpa [entI] using hb
        simp [F49, mem0, mem1, progD, List.range_succ, calm, alone, h4]
theorem stepno1 (g6 : Z prog16 (.call 51 [.ptr 0 0, .int 6] (mem1 cs N lg k t)) = some (.ret (.int pc) (mem1 cs N lg k t)))
    (g7 : Z prog16 (.call 51 [.ptr 0 0, .int 7] (mem1 cs N lg k t)) = some (.ret (.int sp) (mem1 cs N lg k t)))
    (g8 : Z prog16 (.call 51 [.ptr 0 0, .int 8] (mem1 cs N lg k t)) = some (.ret (.int fuel) (mem1 cs N lg k t)))
    (hb : fuel < 1 ∨ pc < 0 ∨ (c.length : Int) ≤ pc) :
    Z prog16 (.call 52 [.iface 0 (.ptr 0 0), s.d, progD f c e0 e1 e2] (mem1 cs N lg k t)) = some (.ret (.tup [.bool true, .dat (.agg (intsC [0, 0, 0, 0])), .bool false]) (mem1 cs N lg k t)) := by
  refine Z_call (pf := F52) rfl rfl ?_
  simp only [mem0, mem1] at g6 g7 g8
  by_cases h0 : fuel < 1
  · simp [F52, mem0, mem1, Su.d, Su.c, progD, List.range_succ, intsC, g6, g7, g8, h0]
  · by_cases h1 : pc < 0
    · simp [F52, mem0, mem1, Su.d, Su.c, progD, List.range_succ, intsC, g6, g7, g8, h0, h1]
    · have h2 : (c.length : Int) ≤ pc := by omega
      simp [F52, mem0, mem1, Su.d, Su.c, progD, List.range_succ, intsC, g6, g7, g8, h0, h1, h2]
theorem stepbad1 (g6 : Z prog16 (.call 51 [.ptr 0 0, .int 6] (mem1 cs N lg k t)) = some (.ret (.int pc) (mem1 cs N lg k t)))
    (g7 : Z prog16 (.call 51 [.ptr 0 0, .int 7] (mem1 cs N lg k t)) = some (.ret (.int sp) (mem1 cs N lg k t)))
    (g8 : Z prog16 (.call 51 [.ptr 0 0, .int 8] (mem1 cs N lg k t)) = some (.ret (.int fuel) (mem1 cs N lg k t)))
    (hf : ¬ fuel < 1) (hp0 : ¬ pc < 0) (hp1 : ¬ (c.length : Int) ≤ pc)
    (hc : sliceAddr 2 (.dat (codeD f c)) pc = some (.dat (.imm (codeC c) (pc.toNat * 2)))) (hc2 : cutCells (codeC c) (pc.toNat * 2) 2 = some [.lit (.int .i64 op), .lit (.int .i64 n)])
    (hx : Z prog16 (.call 63 [.dat (.agg [.lit (.int .i64 op), .lit (.int .i64 n)]), .int sp] []) = some (.ret (.bool false) [])) :
    Z prog16 (.call 52 [.iface 0 (.ptr 0 0), s.d, progD f c e0 e1 e2] (mem1 cs N lg k t)) = some (.ret (.tup [.bool true, .dat (.agg (intsC [0, 0, 0, 0])), .bool false]) (mem1 cs N lg k t)) := by
  refine Z_call (pf := F52) rfl rfl ?_
  simp only [mem0, mem1] at g6 g7 g8
  simp [F52, mem0, mem1, Su.d, Su.c, progD, List.range_succ, intsC, g6, g7, g8, hf, hp0, hp1, hc, hc2, hx]
end
end Go.Pm
end SV11
