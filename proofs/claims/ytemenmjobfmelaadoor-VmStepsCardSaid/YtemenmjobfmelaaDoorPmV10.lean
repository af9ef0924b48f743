/- Chapter 16: one step of the machine. -/
import Derived.Test.YtemenmjobfmelaaDoorPmV6
set_option linter.unusedSimpArgs false
set_option linter.unusedVariables false
section SV10
set_option linter.unusedSimpArgs false
set_option linter.unusedVariables false
namespace Go.Pm
open F

/-- Code, as cells. -/
def codeC (c : List (Nat × Int)) : List D := c.flatMap fun x => [.lit (.int .i64 x.1), .lit (.int .i64 x.2)]
def codeD (f : Bool) : List (Nat × Int) → D
  | [] => .lit (.slice none 0 0)
  | x :: c => .sl (codeC (x :: c)) (x :: c).length f
@[simp] theorem len_codeD (σ : S) (f : Bool) (c : List (Nat × Int)) : V.len σ .sl (.dat (codeD f c)) = some c.length := by
  cases c <;> simp [codeD, V.len]
@[simp] theorem one_codeD (f : Bool) (c : List (Nat × Int)) : V.one (.dat (codeD f c)) = true := by cases c <;> rfl
@[simp] theorem cells_codeD (f : Bool) (c : List (Nat × Int)) : V.cells (.dat (codeD f c)) = [.dat (codeD f c)] := by cases c <;> rfl
theorem at_codeD (f : Bool) (c : List (Nat × Int)) (i : Int) (h0 : 0 ≤ i) (h1 : i < c.length) : sliceAddr 2 (.dat (codeD f c)) i = some (.dat (.imm (codeC c) (i.toNat * 2))) := by
  cases c with
  | nil => simp at h1; omega
  | cons x c => simp only [List.length_cons] at h1; simp [codeD, sliceAddr, h0]; omega
theorem codeC_drop (c : List (Nat × Int)) (i : Nat) : (codeC c).drop (i * 2) = codeC (c.drop i) := by
  induction i generalizing c with
  | zero => simp
  | succ i ih =>
    cases c with
    | nil => simp [codeC]
    | cons x c =>
      rw [show (i + 1) * 2 = i * 2 + 2 by omega]
      simp only [codeC, List.flatMap_cons, List.cons_append, List.nil_append, List.drop_succ_cons] at ih ⊢
      exact ih c
theorem cut2_codeC (c : List (Nat × Int)) (i : Nat) (h : i < c.length) : cutCells (codeC c) (i * 2) 2 = some [.lit (.int .i64 c[i].1), .lit (.int .i64 c[i].2)] := by
  unfold cutCells
  rw [codeC_drop, List.drop_eq_getElem_cons h]
  have e : codeC (c[i] :: c.drop (i + 1)) = .lit (.int .i64 c[i].1) :: .lit (.int .i64 c[i].2) :: codeC (c.drop (i + 1)) := rfl
  rw [e]
  rfl
/-- A program. -/
def progD (f : Bool) (c : List (Nat × Int)) (e0 e1 e2 : Int) : V := .dat (.agg [codeD f c, .lit (.int .i64 e0), .lit (.int .i64 e1), .lit (.int .i64 e2)])
section
variable {s : Su} {cs cs1 cs2 cs3 cs4 cs5 : List Int} {N : Nat} {lg lg1 lg2 lg3 lg4 lg5 : List D} {k k1 k2 k3 k4 k5 t t1 t2 t3 t4 t5 op : Nat} {c : List (Nat × Int)} {f : Bool} {e0 e1 e2 n a b v fuel pc sp w8 w6 w7 bt x1 x2 x3 x4 : Int} {em : Bool}
set_option maxHeartbeats 8000000 in
theorem step0_01 (g6 : Z prog16 (.call 51 [.ptr 0 0, .int 6] (mem0 cs N)) = some (.ret (.int pc) (mem0 cs N)))
    (g7 : Z prog16 (.call 51 [.ptr 0 0, .int 7] (mem0 cs N)) = some (.ret (.int sp) (mem0 cs N)))
    (g8 : Z prog16 (.call 51 [.ptr 0 0, .int 8] (mem0 cs N)) = some (.ret (.int fuel) (mem0 cs N)))
    (hf : ¬ fuel < 1) (hp0 : ¬ pc < 0) (hp1 : ¬ (c.length : Int) ≤ pc)
    (hc : sliceAddr 2 (.dat (codeD f c)) pc = some (.dat (.imm (codeC c) (pc.toNat * 2)))) (hc2 : cutCells (codeC c) (pc.toNat * 2) 2 = some [.lit (.int .i64 op), .lit (.int .i64 n)])
    (hx : Z prog16 (.call 63 [.dat (.agg [.lit (.int .i64 op), .lit (.int .i64 n)]), .int sp] []) = some (.ret (.bool true) [])) (hop : (op : Int) < 22)
    (hP : cutCells G_arenanet_vm_effects (op * 3) 1 = some [.lit (.int .i64 0)]) (hQ : cutCells G_arenanet_vm_effects (op * 3 + 1) 1 = some [.lit (.int .i64 1)])
    (wa : wr (16 + sp) = 16 + sp) (wb : 16 + sp = bt) (wa2 : wr bt = bt) (wf : wr (fuel - 1) = w8) (wp : wr (pc + 1) = w6)
    (s8 : Z prog16 (.call 114 [.ptr 0 0, .int 8, .int w8] (mem0 cs N)) = some (.ret (.tup []) (mem1 cs1 N lg1 k1 t1)))
    (s6 : Z prog16 (.call 114 [.ptr 0 0, .int 6, .int w6] (mem1 cs1 N lg1 k1 t1)) = some (.ret (.tup []) (mem1 cs2 N lg2 k2 t2)))
    (wd : wr sp = sp) (we : wr (sp + 1) = w7)
    (s7 : Z prog16 (.call 114 [.ptr 0 0, .int 7, .int w7] (mem1 cs2 N lg2 k2 t2)) = some (.ret (.tup []) (mem1 cs3 N lg3 k3 t3)))
    (hex : Z prog16 (.call 64 [.int op, .iface 0 (.ptr 0 0), s.d, insV n 0 0] (mem1 cs3 N lg3 k3 t3)) = some (.ret (exR v [x1, x2, x3, x4] em) (mem1 cs4 N lg4 k4 t4)))
    (sv : Z prog16 (.call 114 [.ptr 0 0, .int bt, .int v] (mem1 cs4 N lg4 k4 t4)) = some (.ret (.tup []) (mem1 cs5 N lg5 k5 t5))) :
    Z prog16 (.call 52 [.iface 0 (.ptr 0 0), s.d, progD f c e0 e1 e2] (mem0 cs N)) = some (.ret (.tup [.bool (decide ((op : Int) = 21)), .dat (.agg (intsC [x1, x2, x3, x4])), .bool em]) (mem1 cs5 N lg5 k5 t5)) := by
  refine Z_call (pf := F52) rfl rfl ?_
  have hP' := hP; have hQ' := hQ
  simp only [mem0, mem1, Su.d, Su.c, insV, exR, intsC, List.map] at g6 g7 g8 s8 s6 hex s7 sv
  simp (maxSteps := 5000000) [F52, mem0, mem1, Su.d, Su.c, progD, insV, exR, List.range_succ, intsC, calm, alone, g6, g7, g8, hf, hp0, hp1, hc, hc2, hx, hop, hP', hQ', wa, wb, wf, wp, s8, s6, hex, wa2, wd, we, s7, sv]
set_option maxHeartbeats 8000000 in
theorem step0_10 (g6 : Z prog16 (.call 51 [.ptr 0 0, .int 6] (mem0 cs N)) = some (.ret (.int pc) (mem0 cs N)))
    (g7 : Z prog16 (.call 51 [.ptr 0 0, .int 7] (mem0 cs N)) = some (.ret (.int sp) (mem0 cs N)))
    (g8 : Z prog16 (.call 51 [.ptr 0 0, .int 8] (mem0 cs N)) = some (.ret (.int fuel) (mem0 cs N)))
    (hf : ¬ fuel < 1) (hp0 : ¬ pc < 0) (hp1 : ¬ (c.length : Int) ≤ pc)
    (hc : sliceAddr 2 (.dat (codeD f c)) pc = some (.dat (.imm (codeC c) (pc.toNat * 2)))) (hc2 : cutCells (codeC c) (pc.toNat * 2) 2 = some [.lit (.int .i64 op), .lit (.int .i64 n)])
    (hx : Z prog16 (.call 63 [.dat (.agg [.lit (.int .i64 op), .lit (.int .i64 n)]), .int sp] []) = some (.ret (.bool true) [])) (hop : (op : Int) < 22)
    (hP : cutCells G_arenanet_vm_effects (op * 3) 1 = some [.lit (.int .i64 1)]) (hQ : cutCells G_arenanet_vm_effects (op * 3 + 1) 1 = some [.lit (.int .i64 0)])
    (wa : wr (16 + sp) = 16 + sp) (wb : wr (16 + sp - 1) = bt) (wf : wr (fuel - 1) = w8) (wp : wr (pc + 1) = w6)
    (ga : Z prog16 (.call 51 [.ptr 0 0, .int bt] (mem0 cs N)) = some (.ret (.int a) (mem0 cs N)))
    (s8 : Z prog16 (.call 114 [.ptr 0 0, .int 8, .int w8] (mem0 cs N)) = some (.ret (.tup []) (mem1 cs1 N lg1 k1 t1)))
    (s6 : Z prog16 (.call 114 [.ptr 0 0, .int 6, .int w6] (mem1 cs1 N lg1 k1 t1)) = some (.ret (.tup []) (mem1 cs2 N lg2 k2 t2)))
    (wd : wr w7 = w7) (we : sp - 1 = w7)
    (s7 : Z prog16 (.call 114 [.ptr 0 0, .int 7, .int w7] (mem1 cs2 N lg2 k2 t2)) = some (.ret (.tup []) (mem1 cs3 N lg3 k3 t3)))
    (hex : Z prog16 (.call 64 [.int op, .iface 0 (.ptr 0 0), s.d, insV n a 0] (mem1 cs3 N lg3 k3 t3)) = some (.ret (exR v [x1, x2, x3, x4] em) (mem1 cs4 N lg4 k4 t4))) :
    Z prog16 (.call 52 [.iface 0 (.ptr 0 0), s.d, progD f c e0 e1 e2] (mem0 cs N)) = some (.ret (.tup [.bool (decide ((op : Int) = 21)), .dat (.agg (intsC [x1, x2, x3, x4])), .bool em]) (mem1 cs4 N lg4 k4 t4)) := by
  refine Z_call (pf := F52) rfl rfl ?_
  have hP' := hP; have hQ' := hQ
  simp only [mem0, mem1, Su.d, Su.c, insV, exR, intsC, List.map] at g6 g7 g8 s8 s6 hex ga s7
  simp (maxSteps := 5000000) [F52, mem0, mem1, Su.d, Su.c, progD, insV, exR, List.range_succ, intsC, calm, alone, g6, g7, g8, hf, hp0, hp1, hc, hc2, hx, hop, hP', hQ', wa, wb, wf, wp, s8, s6, hex, ga, wd, we, s7]
set_option maxHeartbeats 8000000 in
theorem step0_11 (g6 : Z prog16 (.call 51 [.ptr 0 0, .int 6] (mem0 cs N)) = some (.ret (.int pc) (mem0 cs N)))
    (g7 : Z prog16 (.call 51 [.ptr 0 0, .int 7] (mem0 cs N)) = some (.ret (.int sp) (mem0 cs N)))
    (g8 : Z prog16 (.call 51 [.ptr 0 0, .int 8] (mem0 cs N)) = some (.ret (.int fuel) (mem0 cs N)))
    (hf : ¬ fuel < 1) (hp0 : ¬ pc < 0) (hp1 : ¬ (c.length : Int) ≤ pc)
    (hc : sliceAddr 2 (.dat (codeD f c)) pc = some (.dat (.imm (codeC c) (pc.toNat * 2)))) (hc2 : cutCells (codeC c) (pc.toNat * 2) 2 = some [.lit (.int .i64 op), .lit (.int .i64 n)])
    (hx : Z prog16 (.call 63 [.dat (.agg [.lit (.int .i64 op), .lit (.int .i64 n)]), .int sp] []) = some (.ret (.bool true) [])) (hop : (op : Int) < 22)
    (hP : cutCells G_arenanet_vm_effects (op * 3) 1 = some [.lit (.int .i64 1)]) (hQ : cutCells G_arenanet_vm_effects (op * 3 + 1) 1 = some [.lit (.int .i64 1)])
    (wa : wr (16 + sp) = 16 + sp) (wb : wr (16 + sp - 1) = bt) (wf : wr (fuel - 1) = w8) (wp : wr (pc + 1) = w6)
    (ga : Z prog16 (.call 51 [.ptr 0 0, .int bt] (mem0 cs N)) = some (.ret (.int a) (mem0 cs N)))
    (s8 : Z prog16 (.call 114 [.ptr 0 0, .int 8, .int w8] (mem0 cs N)) = some (.ret (.tup []) (mem1 cs1 N lg1 k1 t1)))
    (s6 : Z prog16 (.call 114 [.ptr 0 0, .int 6, .int w6] (mem1 cs1 N lg1 k1 t1)) = some (.ret (.tup []) (mem1 cs2 N lg2 k2 t2)))
    (hex : Z prog16 (.call 64 [.int op, .iface 0 (.ptr 0 0), s.d, insV n a 0] (mem1 cs2 N lg2 k2 t2)) = some (.ret (exR v [x1, x2, x3, x4] em) (mem1 cs4 N lg4 k4 t4)))
    (sv : Z prog16 (.call 114 [.ptr 0 0, .int bt, .int v] (mem1 cs4 N lg4 k4 t4)) = some (.ret (.tup []) (mem1 cs5 N lg5 k5 t5))) :
    Z prog16 (.call 52 [.iface 0 (.ptr 0 0), s.d, progD f c e0 e1 e2] (mem0 cs N)) = some (.ret (.tup [.bool (decide ((op : Int) = 21)), .dat (.agg (intsC [x1, x2, x3, x4])), .bool em]) (mem1 cs5 N lg5 k5 t5)) := by
  refine Z_call (pf := F52) rfl rfl ?_
  have hP' := hP; have hQ' := hQ
  simp only [mem0, mem1, Su.d, Su.c, insV, exR, intsC, List.map] at g6 g7 g8 s8 s6 hex ga sv
  simp (maxSteps := 5000000) [F52, mem0, mem1, Su.d, Su.c, progD, insV, exR, List.range_succ, intsC, calm, alone, g6, g7, g8, hf, hp0, hp1, hc, hc2, hx, hop, hP', hQ', wa, wb, wf, wp, s8, s6, hex, ga, sv]
set_option maxHeartbeats 8000000 in
theorem step0_20 (g6 : Z prog16 (.call 51 [.ptr 0 0, .int 6] (mem0 cs N)) = some (.ret (.int pc) (mem0 cs N)))
    (g7 : Z prog16 (.call 51 [.ptr 0 0, .int 7] (mem0 cs N)) = some (.ret (.int sp) (mem0 cs N)))
    (g8 : Z prog16 (.call 51 [.ptr 0 0, .int 8] (mem0 cs N)) = some (.ret (.int fuel) (mem0 cs N)))
    (hf : ¬ fuel < 1) (hp0 : ¬ pc < 0) (hp1 : ¬ (c.length : Int) ≤ pc)
    (hc : sliceAddr 2 (.dat (codeD f c)) pc = some (.dat (.imm (codeC c) (pc.toNat * 2)))) (hc2 : cutCells (codeC c) (pc.toNat * 2) 2 = some [.lit (.int .i64 op), .lit (.int .i64 n)])
    (hx : Z prog16 (.call 63 [.dat (.agg [.lit (.int .i64 op), .lit (.int .i64 n)]), .int sp] []) = some (.ret (.bool true) [])) (hop : (op : Int) < 22)
    (hP : cutCells G_arenanet_vm_effects (op * 3) 1 = some [.lit (.int .i64 2)]) (hQ : cutCells G_arenanet_vm_effects (op * 3 + 1) 1 = some [.lit (.int .i64 0)])
    (wa : wr (16 + sp) = 16 + sp) (wb : wr (16 + sp - 2) = bt) (wf : wr (fuel - 1) = w8) (wp : wr (pc + 1) = w6)
    (ga : Z prog16 (.call 51 [.ptr 0 0, .int bt] (mem0 cs N)) = some (.ret (.int a) (mem0 cs N)))
    (wc : wr (bt + 1) = bt + 1) (gb : Z prog16 (.call 51 [.ptr 0 0, .int (bt + 1)] (mem0 cs N)) = some (.ret (.int b) (mem0 cs N)))
    (s8 : Z prog16 (.call 114 [.ptr 0 0, .int 8, .int w8] (mem0 cs N)) = some (.ret (.tup []) (mem1 cs1 N lg1 k1 t1)))
    (s6 : Z prog16 (.call 114 [.ptr 0 0, .int 6, .int w6] (mem1 cs1 N lg1 k1 t1)) = some (.ret (.tup []) (mem1 cs2 N lg2 k2 t2)))
    (wd : wr w7 = w7) (we : sp - 2 = w7)
    (s7 : Z prog16 (.call 114 [.ptr 0 0, .int 7, .int w7] (mem1 cs2 N lg2 k2 t2)) = some (.ret (.tup []) (mem1 cs3 N lg3 k3 t3)))
    (hex : Z prog16 (.call 64 [.int op, .iface 0 (.ptr 0 0), s.d, insV n a b] (mem1 cs3 N lg3 k3 t3)) = some (.ret (exR v [x1, x2, x3, x4] em) (mem1 cs4 N lg4 k4 t4))) :
    Z prog16 (.call 52 [.iface 0 (.ptr 0 0), s.d, progD f c e0 e1 e2] (mem0 cs N)) = some (.ret (.tup [.bool (decide ((op : Int) = 21)), .dat (.agg (intsC [x1, x2, x3, x4])), .bool em]) (mem1 cs4 N lg4 k4 t4)) := by
  refine Z_call (pf := F52) rfl rfl ?_
  have hP' := hP; have hQ' := hQ
  simp only [mem0, mem1, Su.d, Su.c, insV, exR, intsC, List.map] at g6 g7 g8 s8 s6 hex ga gb s7
  simp (maxSteps := 5000000) [F52, mem0, mem1, Su.d, Su.c, progD, insV, exR, List.range_succ, intsC, calm, alone, g6, g7, g8, hf, hp0, hp1, hc, hc2, hx, hop, hP', hQ', wa, wb, wf, wp, s8, s6, hex, ga, wc, gb, wd, we, s7]
set_option maxHeartbeats 8000000 in
theorem step0_21 (g6 : Z prog16 (.call 51 [.ptr 0 0, .int 6] (mem0 cs N)) = some (.ret (.int pc) (mem0 cs N)))
    (g7 : Z prog16 (.call 51 [.ptr 0 0, .int 7] (mem0 cs N)) = some (.ret (.int sp) (mem0 cs N)))
    (g8 : Z prog16 (.call 51 [.ptr 0 0, .int 8] (mem0 cs N)) = some (.ret (.int fuel) (mem0 cs N)))
    (hf : ¬ fuel < 1) (hp0 : ¬ pc < 0) (hp1 : ¬ (c.length : Int) ≤ pc)
    (hc : sliceAddr 2 (.dat (codeD f c)) pc = some (.dat (.imm (codeC c) (pc.toNat * 2)))) (hc2 : cutCells (codeC c) (pc.toNat * 2) 2 = some [.lit (.int .i64 op), .lit (.int .i64 n)])
    (hx : Z prog16 (.call 63 [.dat (.agg [.lit (.int .i64 op), .lit (.int .i64 n)]), .int sp] []) = some (.ret (.bool true) [])) (hop : (op : Int) < 22)
    (hP : cutCells G_arenanet_vm_effects (op * 3) 1 = some [.lit (.int .i64 2)]) (hQ : cutCells G_arenanet_vm_effects (op * 3 + 1) 1 = some [.lit (.int .i64 1)])
    (wa : wr (16 + sp) = 16 + sp) (wb : wr (16 + sp - 2) = bt) (wf : wr (fuel - 1) = w8) (wp : wr (pc + 1) = w6)
    (ga : Z prog16 (.call 51 [.ptr 0 0, .int bt] (mem0 cs N)) = some (.ret (.int a) (mem0 cs N)))
    (wc : wr (bt + 1) = bt + 1) (gb : Z prog16 (.call 51 [.ptr 0 0, .int (bt + 1)] (mem0 cs N)) = some (.ret (.int b) (mem0 cs N)))
    (s8 : Z prog16 (.call 114 [.ptr 0 0, .int 8, .int w8] (mem0 cs N)) = some (.ret (.tup []) (mem1 cs1 N lg1 k1 t1)))
    (s6 : Z prog16 (.call 114 [.ptr 0 0, .int 6, .int w6] (mem1 cs1 N lg1 k1 t1)) = some (.ret (.tup []) (mem1 cs2 N lg2 k2 t2)))
    (wd : wr (sp - 2) = sp - 2) (we : wr (sp - 2 + 1) = w7)
    (s7 : Z prog16 (.call 114 [.ptr 0 0, .int 7, .int w7] (mem1 cs2 N lg2 k2 t2)) = some (.ret (.tup []) (mem1 cs3 N lg3 k3 t3)))
    (hex : Z prog16 (.call 64 [.int op, .iface 0 (.ptr 0 0), s.d, insV n a b] (mem1 cs3 N lg3 k3 t3)) = some (.ret (exR v [x1, x2, x3, x4] em) (mem1 cs4 N lg4 k4 t4)))
    (sv : Z prog16 (.call 114 [.ptr 0 0, .int bt, .int v] (mem1 cs4 N lg4 k4 t4)) = some (.ret (.tup []) (mem1 cs5 N lg5 k5 t5))) :
    Z prog16 (.call 52 [.iface 0 (.ptr 0 0), s.d, progD f c e0 e1 e2] (mem0 cs N)) = some (.ret (.tup [.bool (decide ((op : Int) = 21)), .dat (.agg (intsC [x1, x2, x3, x4])), .bool em]) (mem1 cs5 N lg5 k5 t5)) := by
  refine Z_call (pf := F52) rfl rfl ?_
  have hP' := hP; have hQ' := hQ
  simp only [mem0, mem1, Su.d, Su.c, insV, exR, intsC, List.map] at g6 g7 g8 s8 s6 hex ga gb s7 sv
  simp (maxSteps := 5000000) [F52, mem0, mem1, Su.d, Su.c, progD, insV, exR, List.range_succ, intsC, calm, alone, g6, g7, g8, hf, hp0, hp1, hc, hc2, hx, hop, hP', hQ', wa, wb, wf, wp, s8, s6, hex, ga, wc, gb, wd, we, s7, sv]
set_option maxHeartbeats 8000000 in
theorem step0_00 (g6 : Z prog16 (.call 51 [.ptr 0 0, .int 6] (mem0 cs N)) = some (.ret (.int pc) (mem0 cs N)))
    (g7 : Z prog16 (.call 51 [.ptr 0 0, .int 7] (mem0 cs N)) = some (.ret (.int sp) (mem0 cs N)))
    (g8 : Z prog16 (.call 51 [.ptr 0 0, .int 8] (mem0 cs N)) = some (.ret (.int fuel) (mem0 cs N)))
    (hf : ¬ fuel < 1) (hp0 : ¬ pc < 0) (hp1 : ¬ (c.length : Int) ≤ pc)
    (hc : sliceAddr 2 (.dat (codeD f c)) pc = some (.dat (.imm (codeC c) (pc.toNat * 2)))) (hc2 : cutCells (codeC c) (pc.toNat * 2) 2 = some [.lit (.int .i64 op), .lit (.int .i64 n)])
    (hx : Z prog16 (.call 63 [.dat (.agg [.lit (.int .i64 op), .lit (.int .i64 n)]), .int sp] []) = some (.ret (.bool true) [])) (hop : (op : Int) < 22)
    (hP : cutCells G_arenanet_vm_effects (op * 3) 1 = some [.lit (.int .i64 0)]) (hQ : cutCells G_arenanet_vm_effects (op * 3 + 1) 1 = some [.lit (.int .i64 0)])
    (wa : wr (16 + sp) = 16 + sp) (wb : 16 + sp = bt) (wa2 : wr bt = bt) (wf : wr (fuel - 1) = w8) (wp : wr (pc + 1) = w6)
    (s8 : Z prog16 (.call 114 [.ptr 0 0, .int 8, .int w8] (mem0 cs N)) = some (.ret (.tup []) (mem1 cs1 N lg1 k1 t1)))
    (s6 : Z prog16 (.call 114 [.ptr 0 0, .int 6, .int w6] (mem1 cs1 N lg1 k1 t1)) = some (.ret (.tup []) (mem1 cs2 N lg2 k2 t2)))
    (hex : Z prog16 (.call 64 [.int op, .iface 0 (.ptr 0 0), s.d, insV n 0 0] (mem1 cs2 N lg2 k2 t2)) = some (.ret (exR v [x1, x2, x3, x4] em) (mem1 cs4 N lg4 k4 t4))) :
    Z prog16 (.call 52 [.iface 0 (.ptr 0 0), s.d, progD f c e0 e1 e2] (mem0 cs N)) = some (.ret (.tup [.bool (decide ((op : Int) = 21)), .dat (.agg (intsC [x1, x2, x3, x4])), .bool em]) (mem1 cs4 N lg4 k4 t4)) := by
  refine Z_call (pf := F52) rfl rfl ?_
  have hP' := hP; have hQ' := hQ
  simp only [mem0, mem1, Su.d, Su.c, insV, exR, intsC, List.map] at g6 g7 g8 s8 s6 hex
  simp (maxSteps := 5000000) [F52, mem0, mem1, Su.d, Su.c, progD, insV, exR, List.range_succ, intsC, calm, alone, g6, g7, g8, hf, hp0, hp1, hc, hc2, hx, hop, hP', hQ', wa, wb, wf, wp, s8, s6, hex, wa2]
set_option maxHeartbeats 8000000 in
theorem step1_01 (g6 : Z prog16 (.call 51 [.ptr 0 0, .int 6] (mem1 cs N lg k t)) = some (.ret (.int pc) (mem1 cs N lg k t)))
    (g7 : Z prog16 (.call 51 [.ptr 0 0, .int 7] (mem1 cs N lg k t)) = some (.ret (.int sp) (mem1 cs N lg k t)))
    (g8 : Z prog16 (.call 51 [.ptr 0 0, .int 8] (mem1 cs N lg k t)) = some (.ret (.int fuel) (mem1 cs N lg k t)))
    (hf : ¬ fuel < 1) (hp0 : ¬ pc < 0) (hp1 : ¬ (c.length : Int) ≤ pc)
    (hc : sliceAddr 2 (.dat (codeD f c)) pc = some (.dat (.imm (codeC c) (pc.toNat * 2)))) (hc2 : cutCells (codeC c) (pc.toNat * 2) 2 = some [.lit (.int .i64 op), .lit (.int .i64 n)])
    (hx : Z prog16 (.call 63 [.dat (.agg [.lit (.int .i64 op), .lit (.int .i64 n)]), .int sp] []) = some (.ret (.bool true) [])) (hop : (op : Int) < 22)
    (hP : cutCells G_arenanet_vm_effects (op * 3) 1 = some [.lit (.int .i64 0)]) (hQ : cutCells G_arenanet_vm_effects (op * 3 + 1) 1 = some [.lit (.int .i64 1)])
    (wa : wr (16 + sp) = 16 + sp) (wb : 16 + sp = bt) (wa2 : wr bt = bt) (wf : wr (fuel - 1) = w8) (wp : wr (pc + 1) = w6)
    (s8 : Z prog16 (.call 114 [.ptr 0 0, .int 8, .int w8] (mem1 cs N lg k t)) = some (.ret (.tup []) (mem1 cs1 N lg1 k1 t1)))
    (s6 : Z prog16 (.call 114 [.ptr 0 0, .int 6, .int w6] (mem1 cs1 N lg1 k1 t1)) = some (.ret (.tup []) (mem1 cs2 N lg2 k2 t2)))
    (wd : wr sp = sp) (we : wr (sp + 1) = w7)
    (s7 : Z prog16 (.call 114 [.ptr 0 0, .int 7, .int w7] (mem1 cs2 N lg2 k2 t2)) = some (.ret (.tup []) (mem1 cs3 N lg3 k3 t3)))
    (hex : Z prog16 (.call 64 [.int op, .iface 0 (.ptr 0 0), s.d, insV n 0 0] (mem1 cs3 N lg3 k3 t3)) = some (.ret (exR v [x1, x2, x3, x4] em) (mem1 cs4 N lg4 k4 t4)))
    (sv : Z prog16 (.call 114 [.ptr 0 0, .int bt, .int v] (mem1 cs4 N lg4 k4 t4)) = some (.ret (.tup []) (mem1 cs5 N lg5 k5 t5))) :
    Z prog16 (.call 52 [.iface 0 (.ptr 0 0), s.d, progD f c e0 e1 e2] (mem1 cs N lg k t)) = some (.ret (.tup [.bool (decide ((op : Int) = 21)), .dat (.agg (intsC [x1, x2, x3, x4])), .bool em]) (mem1 cs5 N lg5 k5 t5)) := by
  refine Z_call (pf := F52) rfl rfl ?_
  have hP' := hP; have hQ' := hQ
  simp only [mem0, mem1, Su.d, Su.c, insV, exR, intsC, List.map] at g6 g7 g8 s8 s6 hex s7 sv
  simp (maxSteps := 5000000) [F52, mem0, mem1, Su.d, Su.c, progD, insV, exR, List.range_succ, intsC, calm, alone, g6, g7, g8, hf, hp0, hp1, hc, hc2, hx, hop, hP', hQ', wa, wb, wf, wp, s8, s6, hex, wa2, wd, we, s7, sv]
set_option maxHeartbeats 8000000 in
theorem step1_10 (g6 : Z prog16 (.call 51 [.ptr 0 0, .int 6] (mem1 cs N lg k t)) = some (.ret (.int pc) (mem1 cs N lg k t)))
    (g7 : Z prog16 (.call 51 [.ptr 0 0, .int 7] (mem1 cs N lg k t)) = some (.ret (.int sp) (mem1 cs N lg k t)))
    (g8 : Z prog16 (.call 51 [.ptr 0 0, .int 8] (mem1 cs N lg k t)) = some (.ret (.int fuel) (mem1 cs N lg k t)))
    (hf : ¬ fuel < 1) (hp0 : ¬ pc < 0) (hp1 : ¬ (c.length : Int) ≤ pc)
    (hc : sliceAddr 2 (.dat (codeD f c)) pc = some (.dat (.imm (codeC c) (pc.toNat * 2)))) (hc2 : cutCells (codeC c) (pc.toNat * 2) 2 = some [.lit (.int .i64 op), .lit (.int .i64 n)])
    (hx : Z prog16 (.call 63 [.dat (.agg [.lit (.int .i64 op), .lit (.int .i64 n)]), .int sp] []) = some (.ret (.bool true) [])) (hop : (op : Int) < 22)
    (hP : cutCells G_arenanet_vm_effects (op * 3) 1 = some [.lit (.int .i64 1)]) (hQ : cutCells G_arenanet_vm_effects (op * 3 + 1) 1 = some [.lit (.int .i64 0)])
    (wa : wr (16 + sp) = 16 + sp) (wb : wr (16 + sp - 1) = bt) (wf : wr (fuel - 1) = w8) (wp : wr (pc + 1) = w6)
    (ga : Z prog16 (.call 51 [.ptr 0 0, .int bt] (mem1 cs N lg k t)) = some (.ret (.int a) (mem1 cs N lg k t)))
    (s8 : Z prog16 (.call 114 [.ptr 0 0, .int 8, .int w8] (mem1 cs N lg k t)) = some (.ret (.tup []) (mem1 cs1 N lg1 k1 t1)))
    (s6 : Z prog16 (.call 114 [.ptr 0 0, .int 6, .int w6] (mem1 cs1 N lg1 k1 t1)) = some (.ret (.tup []) (mem1 cs2 N lg2 k2 t2)))
    (wd : wr w7 = w7) (we : sp - 1 = w7)
    (s7 : Z prog16 (.call 114 [.ptr 0 0, .int 7, .int w7] (mem1 cs2 N lg2 k2 t2)) = some (.ret (.tup []) (mem1 cs3 N lg3 k3 t3)))
    (hex : Z prog16 (.call 64 [.int op, .iface 0 (.ptr 0 0), s.d, insV n a 0] (mem1 cs3 N lg3 k3 t3)) = some (.ret (exR v [x1, x2, x3, x4] em) (mem1 cs4 N lg4 k4 t4))) :
    Z prog16 (.call 52 [.iface 0 (.ptr 0 0), s.d, progD f c e0 e1 e2] (mem1 cs N lg k t)) = some (.ret (.tup [.bool (decide ((op : Int) = 21)), .dat (.agg (intsC [x1, x2, x3, x4])), .bool em]) (mem1 cs4 N lg4 k4 t4)) := by
  refine Z_call (pf := F52) rfl rfl ?_
  have hP' := hP; have hQ' := hQ
  simp only [mem0, mem1, Su.d, Su.c, insV, exR, intsC, List.map] at g6 g7 g8 s8 s6 hex ga s7
  simp (maxSteps := 5000000) [F52, mem0, mem1, Su.d, Su.c, progD, insV, exR, List.range_succ, intsC, calm, alone, g6, g7, g8, hf, hp0, hp1, hc, hc2, hx, hop, hP', hQ', wa, wb, wf, wp, s8, s6, hex, ga, wd, we, s7]
set_option maxHeartbeats 8000000 in
theorem step1_11 (g6 : Z prog16 (.call 51 [.ptr 0 0, .int 6] (mem1 cs N lg k t)) = some (.ret (.int pc) (mem1 cs N lg k t)))
    (g7 : Z prog16 (.call 51 [.ptr 0 0, .int 7] (mem1 cs N lg k t)) = some (.ret (.int sp) (mem1 cs N lg k t)))
    (g8 : Z prog16 (.call 51 [.ptr 0 0, .int 8] (mem1 cs N lg k t)) = some (.ret (.int fuel) (mem1 cs N lg k t)))
    (hf : ¬ fuel < 1) (hp0 : ¬ pc < 0) (hp1 : ¬ (c.length : Int) ≤ pc)
    (hc : sliceAddr 2 (.dat (codeD f c)) pc = some (.dat (.imm (codeC c) (pc.toNat * 2)))) (hc2 : cutCells (codeC c) (pc.toNat * 2) 2 = some [.lit (.int .i64 op), .lit (.int .i64 n)])
    (hx : Z prog16 (.call 63 [.dat (.agg [.lit (.int .i64 op), .lit (.int .i64 n)]), .int sp] []) = some (.ret (.bool true) [])) (hop : (op : Int) < 22)
    (hP : cutCells G_arenanet_vm_effects (op * 3) 1 = some [.lit (.int .i64 1)]) (hQ : cutCells G_arenanet_vm_effects (op * 3 + 1) 1 = some [.lit (.int .i64 1)])
    (wa : wr (16 + sp) = 16 + sp) (wb : wr (16 + sp - 1) = bt) (wf : wr (fuel - 1) = w8) (wp : wr (pc + 1) = w6)
    (ga : Z prog16 (.call 51 [.ptr 0 0, .int bt] (mem1 cs N lg k t)) = some (.ret (.int a) (mem1 cs N lg k t)))
    (s8 : Z prog16 (.call 114 [.ptr 0 0, .int 8, .int w8] (mem1 cs N lg k t)) = some (.ret (.tup []) (mem1 cs1 N lg1 k1 t1)))
    (s6 : Z prog16 (.call 114 [.ptr 0 0, .int 6, .int w6] (mem1 cs1 N lg1 k1 t1)) = some (.ret (.tup []) (mem1 cs2 N lg2 k2 t2)))
    (hex : Z prog16 (.call 64 [.int op, .iface 0 (.ptr 0 0), s.d, insV n a 0] (mem1 cs2 N lg2 k2 t2)) = some (.ret (exR v [x1, x2, x3, x4] em) (mem1 cs4 N lg4 k4 t4)))
    (sv : Z prog16 (.call 114 [.ptr 0 0, .int bt, .int v] (mem1 cs4 N lg4 k4 t4)) = some (.ret (.tup []) (mem1 cs5 N lg5 k5 t5))) :
    Z prog16 (.call 52 [.iface 0 (.ptr 0 0), s.d, progD f c e0 e1 e2] (mem1 cs N lg k t)) = some (.ret (.tup [.bool (decide ((op : Int) = 21)), .dat (.agg (intsC [x1, x2, x3, x4])), .bool em]) (mem1 cs5 N lg5 k5 t5)) := by
  refine Z_call (pf := F52) rfl rfl ?_
  have hP' := hP; have hQ' := hQ
  simp only [mem0, mem1, Su.d, Su.c, insV, exR, intsC, List.map] at g6 g7 g8 s8 s6 hex ga sv
  simp (maxSteps := 5000000) [F52, mem0, mem1, Su.d, Su.c, progD, insV, exR, List.range_succ, intsC, calm, alone, g6, g7, g8, hf, hp0, hp1, hc, hc2, hx, hop, hP', hQ', wa, wb, wf, wp, s8, s6, hex, ga, sv]
set_option maxHeartbeats 8000000 in
theorem step1_20 (g6 : Z prog16 (.call 51 [.ptr 0 0, .int 6] (mem1 cs N lg k t)) = some (.ret (.int pc) (mem1 cs N lg k t)))
    (g7 : Z prog16 (.call 51 [.ptr 0 0, .int 7] (mem1 cs N lg k t)) = some (.ret (.int sp) (mem1 cs N lg k t)))
    (g8 : Z prog16 (.call 51 [.ptr 0 0, .int 8] (mem1 cs N lg k t)) = some (.ret (.int fuel) (mem1 cs N lg k t)))
    (hf : ¬ fuel < 1) (hp0 : ¬ pc < 0) (hp1 : ¬ (c.length : Int) ≤ pc)
    (hc : sliceAddr 2 (.dat (codeD f c)) pc = some (.dat (.imm (codeC c) (pc.toNat * 2)))) (hc2 : cutCells (codeC c) (pc.toNat * 2) 2 = some [.lit (.int .i64 op), .lit (.int .i64 n)])
    (hx : Z prog16 (.call 63 [.dat (.agg [.lit (.int .i64 op), .lit (.int .i64 n)]), .int sp] []) = some (.ret (.bool true) [])) (hop : (op : Int) < 22)
    (hP : cutCells G_arenanet_vm_effects (op * 3) 1 = some [.lit (.int .i64 2)]) (hQ : cutCells G_arenanet_vm_effects (op * 3 + 1) 1 = some [.lit (.int .i64 0)])
    (wa : wr (16 + sp) = 16 + sp) (wb : wr (16 + sp - 2) = bt) (wf : wr (fuel - 1) = w8) (wp : wr (pc + 1) = w6)
    (ga : Z prog16 (.call 51 [.ptr 0 0, .int bt] (mem1 cs N lg k t)) = some (.ret (.int a) (mem1 cs N lg k t)))
    (wc : wr (bt + 1) = bt + 1) (gb : Z prog16 (.call 51 [.ptr 0 0, .int (bt + 1)] (mem1 cs N lg k t)) = some (.ret (.int b) (mem1 cs N lg k t)))
    (s8 : Z prog16 (.call 114 [.ptr 0 0, .int 8, .int w8] (mem1 cs N lg k t)) = some (.ret (.tup []) (mem1 cs1 N lg1 k1 t1)))
    (s6 : Z prog16 (.call 114 [.ptr 0 0, .int 6, .int w6] (mem1 cs1 N lg1 k1 t1)) = some (.ret (.tup []) (mem1 cs2 N lg2 k2 t2)))
    (wd : wr w7 = w7) (we : sp - 2 = w7)
    (s7 : Z prog16 (.call 114 [.ptr 0 0, .int 7, .int w7] (mem1 cs2 N lg2 k2 t2)) = some (.ret (.tup []) (mem1 cs3 N lg3 k3 t3)))
    (hex : Z prog16 (.call 64 [.int op, .iface 0 (.ptr 0 0), s.d, insV n a b] (mem1 cs3 N lg3 k3 t3)) = some (.ret (exR v [x1, x2, x3, x4] em) (mem1 cs4 N lg4 k4 t4))) :
    Z prog16 (.call 52 [.iface 0 (.ptr 0 0), s.d, progD f c e0 e1 e2] (mem1 cs N lg k t)) = some (.ret (.tup [.bool (decide ((op : Int) = 21)), .dat (.agg (intsC [x1, x2, x3, x4])), .bool em]) (mem1 cs4 N lg4 k4 t4)) := by
  refine Z_call (pf := F52) rfl rfl ?_
  have hP' := hP; have hQ' := hQ
  simp only [mem0, mem1, Su.d, Su.c, insV, exR, intsC, List.map] at g6 g7 g8 s8 s6 hex ga gb s7
  simp (maxSteps := 5000000) [F52, mem0, mem1, Su.d, Su.c, progD, insV, exR, List.range_succ, intsC, calm, alone, g6, g7, g8, hf, hp0, hp1, hc, hc2, hx, hop, hP', hQ', wa, wb, wf, wp, s8, s6, hex, ga, wc, gb, wd, we, s7]
set_option maxHeartbeats 8000000 in
theorem step1_21 (g6 : Z prog16 (.call 51 [.ptr 0 0, .int 6] (mem1 cs N lg k t)) = some (.ret (.int pc) (mem1 cs N lg k t)))
    (g7 : Z prog16 (.call 51 [.ptr 0 0, .int 7] (mem1 cs N lg k t)) = some (.ret (.int sp) (mem1 cs N lg k t)))
    (g8 : Z prog16 (.call 51 [.ptr 0 0, .int 8] (mem1 cs N lg k t)) = some (.ret (.int fuel) (mem1 cs N lg k t)))
    (hf : ¬ fuel < 1) (hp0 : ¬ pc < 0) (hp1 : ¬ (c.length : Int) ≤ pc)
    (hc : sliceAddr 2 (.dat (codeD f c)) pc = some (.dat (.imm (codeC c) (pc.toNat * 2)))) (hc2 : cutCells (codeC c) (pc.toNat * 2) 2 = some [.lit (.int .i64 op), .lit (.int .i64 n)])
    (hx : Z prog16 (.call 63 [.dat (.agg [.lit (.int .i64 op), .lit (.int .i64 n)]), .int sp] []) = some (.ret (.bool true) [])) (hop : (op : Int) < 22)
    (hP : cutCells G_arenanet_vm_effects (op * 3) 1 = some [.lit (.int .i64 2)]) (hQ : cutCells G_arenanet_vm_effects (op * 3 + 1) 1 = some [.lit (.int .i64 1)])
    (wa : wr (16 + sp) = 16 + sp) (wb : wr (16 + sp - 2) = bt) (wf : wr (fuel - 1) = w8) (wp : wr (pc + 1) = w6)
    (ga : Z prog16 (.call 51 [.ptr 0 0, .int bt] (mem1 cs N lg k t)) = some (.ret (.int a) (mem1 cs N lg k t)))
    (wc : wr (bt + 1) = bt + 1) (gb : Z prog16 (.call 51 [.ptr 0 0, .int (bt + 1)] (mem1 cs N lg k t)) = some (.ret (.int b) (mem1 cs N lg k t)))
    (s8 : Z prog16 (.call 114 [.ptr 0 0, .int 8, .int w8] (mem1 cs N lg k t)) = some (.ret (.tup []) (mem1 cs1 N lg1 k1 t1)))
    (s6 : Z prog16 (.call 114 [.ptr 0 0, .int 6, .int w6] (mem1 cs1 N lg1 k1 t1)) = some (.ret (.tup []) (mem1 cs2 N lg2 k2 t2)))
    (wd : wr (sp - 2) = sp - 2) (we : wr (sp - 2 + 1) = w7)
    (s7 : Z prog16 (.call 114 [.ptr 0 0, .int 7, .int w7] (mem1 cs2 N lg2 k2 t2)) = some (.ret (.tup []) (mem1 cs3 N lg3 k3 t3)))
    (hex : Z prog16 (.call 64 [.int op, .iface 0 (.ptr 0 0), s.d, insV n a b] (mem1 cs3 N lg3 k3 t3)) = some (.ret (exR v [x1, x2, x3, x4] em) (mem1 cs4 N lg4 k4 t4)))
    (sv : Z prog16 (.call 114 [.ptr 0 0, .int bt, .int v] (mem1 cs4 N lg4 k4 t4)) = some (.ret (.tup []) (mem1 cs5 N lg5 k5 t5))) :
    Z prog16 (.call 52 [.iface 0 (.ptr 0 0), s.d, progD f c e0 e1 e2] (mem1 cs N lg k t)) = some (.ret (.tup [.bool (decide ((op : Int) = 21)), .dat (.agg (intsC [x1, x2, x3, x4])), .bool em]) (mem1 cs5 N lg5 k5 t5)) := by
  refine Z_call (pf := F52) rfl rfl ?_
  have hP' := hP; have hQ' := hQ
  simp only [mem0, mem1, Su.d, Su.c, insV, exR, intsC, List.map] at g6 g7 g8 s8 s6 hex ga gb s7 sv
  simp (maxSteps := 5000000) [F52, mem0, mem1, Su.d, Su.c, progD, insV, exR, List.range_succ, intsC, calm, alone, g6, g7, g8, hf, hp0, hp1, hc, hc2, hx, hop, hP', hQ', wa, wb, wf, wp, s8, s6, hex, ga, wc, gb, wd, we, s7, sv]
set_option maxHeartbeats 8000000 in
theorem step1_00 (g6 : Z prog16 (.call 51 [.ptr 0 0, .int 6] (mem1 cs N lg k t)) = some (.ret (.int pc) (mem1 cs N lg k t)))
    (g7 : Z prog16 (.call 51 [.ptr 0 0, .int 7] (mem1 cs N lg k t)) = some (.ret (.int sp) (mem1 cs N lg k t)))
    (g8 : Z prog16 (.call 51 [.ptr 0 0, .int 8] (mem1 cs N lg k t)) = some (.ret (.int fuel) (mem1 cs N lg k t)))
    (hf : ¬ fuel < 1) (hp0 : ¬ pc < 0) (hp1 : ¬ (c.length : Int) ≤ pc)
    (hc : sliceAddr 2 (.dat (codeD f c)) pc = some (.dat (.imm (codeC c) (pc.toNat * 2)))) (hc2 : cutCells (codeC c) (pc.toNat * 2) 2 = some [.lit (.int .i64 op), .lit (.int .i64 n)])
    (hx : Z prog16 (.call 63 [.dat (.agg [.lit (.int .i64 op), .lit (.int .i64 n)]), .int sp] []) = some (.ret (.bool true) [])) (hop : (op : Int) < 22)
    (hP : cutCells G_arenanet_vm_effects (op * 3) 1 = some [.lit (.int .i64 0)]) (hQ : cutCells G_arenanet_vm_effects (op * 3 + 1) 1 = some [.lit (.int .i64 0)])
    (wa : wr (16 + sp) = 16 + sp) (wb : 16 + sp = bt) (wa2 : wr bt = bt) (wf : wr (fuel - 1) = w8) (wp : wr (pc + 1) = w6)
    (s8 : Z prog16 (.call 114 [.ptr 0 0, .int 8, .int w8] (mem1 cs N lg k t)) = some (.ret (.tup []) (mem1 cs1 N lg1 k1 t1)))
    (s6 : Z prog16 (.call 114 [.ptr 0 0, .int 6, .int w6] (mem1 cs1 N lg1 k1 t1)) = some (.ret (.tup []) (mem1 cs2 N lg2 k2 t2)))
    (hex : Z prog16 (.call 64 [.int op, .iface 0 (.ptr 0 0), s.d, insV n 0 0] (mem1 cs2 N lg2 k2 t2)) = some (.ret (exR v [x1, x2, x3, x4] em) (mem1 cs4 N lg4 k4 t4))) :
    Z prog16 (.call 52 [.iface 0 (.ptr 0 0), s.d, progD f c e0 e1 e2] (mem1 cs N lg k t)) = some (.ret (.tup [.bool (decide ((op : Int) = 21)), .dat (.agg (intsC [x1, x2, x3, x4])), .bool em]) (mem1 cs4 N lg4 k4 t4)) := by
  refine Z_call (pf := F52) rfl rfl ?_
  have hP' := hP; have hQ' := hQ
  simp only [mem0, mem1, Su.d, Su.c, insV, exR, intsC, List.map] at g6 g7 g8 s8 s6 hex
  simp (maxSteps := 5000000) [F52, mem0, mem1, Su.d, Su.c, progD, insV, exR, List.range_succ, intsC, calm, alone, g6, g7, g8, hf, hp0, hp1, hc, hc2, hx, hop, hP', hQ', wa, wb, wf, wp, s8, s6, hex, wa2]
end
end Go.Pm
end SV10
