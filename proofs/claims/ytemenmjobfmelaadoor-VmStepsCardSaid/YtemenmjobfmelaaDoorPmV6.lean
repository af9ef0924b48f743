/- Chapter 16: setups; what an instruction takes and leaves; which may be executed. Chapter 16: what an instruction does. Chapter 16: an effect; an instruction executed. Chapter 16: an instruction executed. -/
import Derived.Test.YtemenmjobfmelaaDoorPmV1
set_option linter.unusedSimpArgs false
set_option linter.unusedVariables false
section SV6
set_option linter.unusedSimpArgs false
set_option linter.unusedVariables false
namespace Go.Pm
open F
attribute [local simp] V.len sliceAddr
/-- A setup. -/
structure Su where
  p : Nat
  nb : Nat
  bs : List D
  ds : List D
  nd : Nat
  fog : Int
  gy : Int
  push : Int
  drag : Int
  rest : Int
  rounds : Int
def iD (n : Int) : D := .lit (.int .i64 n)
def roomsD : List D := [iD (-12000), iD (-9000), iD (-1), iD 9000, iD 0, iD 0, iD 12000, iD 9000, iD 0, iD (-9000), iD 12000, iD (-1)]
def Su.c (s : Su) : List D := [.lit (.int .i64 s.p), .sl s.bs s.nb false, .lit (.int .i64 (-12000)), .lit (.int .i64 (-9000)), .lit (.int .i64 12000), .lit (.int .i64 9000), .sl roomsD 3 true, .sl s.ds s.nd true,
  .lit (.int .i64 s.fog), .lit (.int .i64 0), .lit (.int .i64 s.gy), .lit (.int .i64 s.push), .lit (.int .i64 s.drag), .lit (.int .i64 s.rest), .lit (.int .i64 s.rounds), .lit (.int .i64 60)]
def Su.d (s : Su) : V := .dat (.agg s.c)
def Su.n (s : Su) : Nat := 48 + 4 * s.p + 8 * s.nb
/-- It is one that is generated. -/
structure Su.ok (s : Su) : Prop where
  p1 : 1 ≤ s.p
  p3 : s.p ≤ 3
  b1 : s.p ≤ s.nb
  b5 : s.nb ≤ s.p + 2
def bodyI (s : Su) (b : Int) : Int := if b < 0 ∨ (s.nb : Int) ≤ b then -1 else 48 + 4 * s.p + 8 * b
theorem vbody_Z (s : Su) (h : s.ok) (b : Int) : Z prog16 (.call 100 [s.d, .int b] []) = some (.ret (.int (bodyI s b)) []) := by
  refine Z_call (pf := F100) rfl rfl ?_
  have h1 := h.p3; have h2 := h.b5
  by_cases h3 : b < 0
  · simp [F100, Su.d, Su.c, h3, bodyI]
  · by_cases h4 : (s.nb : Int) ≤ b
    · simp [F100, Su.d, Su.c, h3, h4, bodyI]
    · have w1 := wrap64 (8 * b) (by omega)
      have w2 := wrap64 (4 * (s.p : Int)) (by omega)
      have w3 := wrap64 (48 + 4 * (s.p : Int)) (by omega)
      have w4 := wrap64 (48 + 4 * (s.p : Int) + 8 * b) (by omega)
      simp [F100, Su.d, Su.c, h3, h4, bodyI, w1, w2, w3, w4]
theorem rbody_Z (s : Su) (h : s.ok) (b : Int) : Z prog16 (.call 66 [s.d, .int b] []) = some (.ret (.int (bodyI s b)) []) := by
  refine Z_call (pf := F66) rfl rfl ?_
  have h1 := h.p3; have h2 := h.b5
  by_cases h3 : b < 0
  · simp [F66, Su.d, Su.c, h3, bodyI]
  · by_cases h4 : (s.nb : Int) ≤ b
    · simp [F66, Su.d, Su.c, h3, h4, bodyI]
    · have w1 := wrap64 (8 * b) (by omega)
      have w2 := wrap64 (4 * (s.p : Int)) (by omega)
      have w3 := wrap64 (48 + 4 * (s.p : Int)) (by omega)
      have w4 := wrap64 (48 + 4 * (s.p : Int) + 8 * b) (by omega)
      simp [F66, Su.d, Su.c, h3, h4, bodyI, w1, w2, w3, w4]
theorem size_Z (s : Su) (h : s.ok) : Z prog16 (.call 65 [s.d] []) = some (.ret (.int s.n) []) := by
  refine Z_call (pf := F65) rfl rfl ?_
  have h1 := h.p3; have h2 := h.b5
  have w1 := wrap64 (8 * (s.nb : Int)) (by omega)
  have w2 := wrap64 (4 * (s.p : Int)) (by omega)
  have w3 := wrap64 (48 + 4 * (s.p : Int)) (by omega)
  have w4 := wrap64 (48 + 4 * (s.p : Int) + 8 * (s.nb : Int)) (by omega)
  simp [F65, Su.d, Su.c, Su.n, w1, w2, w3, w4]
def popsN : Nat → Nat
  | 3 | 4 | 13 | 17 | 19 => 1
  | 5 | 9 | 10 | 11 | 12 | 14 | 15 | 16 | 20 => 2
  | _ => 0
def pushN : Nat → Nat
  | 3 | 5 | 18 | 19 | 20 | 21 => 0
  | _ => 1
def operN : Nat → Nat
  | 2 | 3 => 16
  | 4 | 5 => 8
  | _ => 0
theorem pops_Z : ∀ op : Nat, 1 ≤ op → op ≤ 21 → Z prog16 (.call 68 [.int op] []) = some (.ret (.int (popsN op)) [])
  | 1, _, _ => Z_of (n := 2) (by kernel_rfl)
  | 2, _, _ => Z_of (n := 2) (by kernel_rfl)
  | 3, _, _ => Z_of (n := 2) (by kernel_rfl)
  | 4, _, _ => Z_of (n := 2) (by kernel_rfl)
  | 5, _, _ => Z_of (n := 2) (by kernel_rfl)
  | 6, _, _ => Z_of (n := 2) (by kernel_rfl)
  | 7, _, _ => Z_of (n := 2) (by kernel_rfl)
  | 8, _, _ => Z_of (n := 2) (by kernel_rfl)
  | 9, _, _ => Z_of (n := 2) (by kernel_rfl)
  | 10, _, _ => Z_of (n := 2) (by kernel_rfl)
  | 11, _, _ => Z_of (n := 2) (by kernel_rfl)
  | 12, _, _ => Z_of (n := 2) (by kernel_rfl)
  | 13, _, _ => Z_of (n := 2) (by kernel_rfl)
  | 14, _, _ => Z_of (n := 2) (by kernel_rfl)
  | 15, _, _ => Z_of (n := 2) (by kernel_rfl)
  | 16, _, _ => Z_of (n := 2) (by kernel_rfl)
  | 17, _, _ => Z_of (n := 2) (by kernel_rfl)
  | 18, _, _ => Z_of (n := 2) (by kernel_rfl)
  | 19, _, _ => Z_of (n := 2) (by kernel_rfl)
  | 20, _, _ => Z_of (n := 2) (by kernel_rfl)
  | 21, _, _ => Z_of (n := 2) (by kernel_rfl)
  | n + 22, _, h => absurd h (by omega)
theorem push_Z : ∀ op : Nat, 1 ≤ op → op ≤ 21 → Z prog16 (.call 72 [.int op] []) = some (.ret (.int (pushN op)) [])
  | 1, _, _ => Z_of (n := 2) (by kernel_rfl)
  | 2, _, _ => Z_of (n := 2) (by kernel_rfl)
  | 3, _, _ => Z_of (n := 2) (by kernel_rfl)
  | 4, _, _ => Z_of (n := 2) (by kernel_rfl)
  | 5, _, _ => Z_of (n := 2) (by kernel_rfl)
  | 6, _, _ => Z_of (n := 2) (by kernel_rfl)
  | 7, _, _ => Z_of (n := 2) (by kernel_rfl)
  | 8, _, _ => Z_of (n := 2) (by kernel_rfl)
  | 9, _, _ => Z_of (n := 2) (by kernel_rfl)
  | 10, _, _ => Z_of (n := 2) (by kernel_rfl)
  | 11, _, _ => Z_of (n := 2) (by kernel_rfl)
  | 12, _, _ => Z_of (n := 2) (by kernel_rfl)
  | 13, _, _ => Z_of (n := 2) (by kernel_rfl)
  | 14, _, _ => Z_of (n := 2) (by kernel_rfl)
  | 15, _, _ => Z_of (n := 2) (by kernel_rfl)
  | 16, _, _ => Z_of (n := 2) (by kernel_rfl)
  | 17, _, _ => Z_of (n := 2) (by kernel_rfl)
  | 18, _, _ => Z_of (n := 2) (by kernel_rfl)
  | 19, _, _ => Z_of (n := 2) (by kernel_rfl)
  | 20, _, _ => Z_of (n := 2) (by kernel_rfl)
  | 21, _, _ => Z_of (n := 2) (by kernel_rfl)
  | n + 22, _, h => absurd h (by omega)
theorem eff0 : ∀ op : Nat, 1 ≤ op → op ≤ 21 → cutCells G_arenanet_vm_effects (op * 3) 1 = some [.lit (.int .i64 (popsN op))]
  | 1, _, _ => by kernel_rfl
  | 2, _, _ => by kernel_rfl
  | 3, _, _ => by kernel_rfl
  | 4, _, _ => by kernel_rfl
  | 5, _, _ => by kernel_rfl
  | 6, _, _ => by kernel_rfl
  | 7, _, _ => by kernel_rfl
  | 8, _, _ => by kernel_rfl
  | 9, _, _ => by kernel_rfl
  | 10, _, _ => by kernel_rfl
  | 11, _, _ => by kernel_rfl
  | 12, _, _ => by kernel_rfl
  | 13, _, _ => by kernel_rfl
  | 14, _, _ => by kernel_rfl
  | 15, _, _ => by kernel_rfl
  | 16, _, _ => by kernel_rfl
  | 17, _, _ => by kernel_rfl
  | 18, _, _ => by kernel_rfl
  | 19, _, _ => by kernel_rfl
  | 20, _, _ => by kernel_rfl
  | 21, _, _ => by kernel_rfl
  | n + 22, _, h => absurd h (by omega)
theorem eff1 : ∀ op : Nat, 1 ≤ op → op ≤ 21 → cutCells G_arenanet_vm_effects (op * 3 + 1) 1 = some [.lit (.int .i64 (pushN op))]
  | 1, _, _ => by kernel_rfl
  | 2, _, _ => by kernel_rfl
  | 3, _, _ => by kernel_rfl
  | 4, _, _ => by kernel_rfl
  | 5, _, _ => by kernel_rfl
  | 6, _, _ => by kernel_rfl
  | 7, _, _ => by kernel_rfl
  | 8, _, _ => by kernel_rfl
  | 9, _, _ => by kernel_rfl
  | 10, _, _ => by kernel_rfl
  | 11, _, _ => by kernel_rfl
  | 12, _, _ => by kernel_rfl
  | 13, _, _ => by kernel_rfl
  | 14, _, _ => by kernel_rfl
  | 15, _, _ => by kernel_rfl
  | 16, _, _ => by kernel_rfl
  | 17, _, _ => by kernel_rfl
  | 18, _, _ => by kernel_rfl
  | 19, _, _ => by kernel_rfl
  | 20, _, _ => by kernel_rfl
  | 21, _, _ => by kernel_rfl
  | n + 22, _, h => absurd h (by omega)
theorem eff2 : ∀ op : Nat, 1 ≤ op → op ≤ 21 → cutCells G_arenanet_vm_effects (op * 3 + 2) 1 = some [.lit (.int .i64 (operN op))]
  | 1, _, _ => by kernel_rfl
  | 2, _, _ => by kernel_rfl
  | 3, _, _ => by kernel_rfl
  | 4, _, _ => by kernel_rfl
  | 5, _, _ => by kernel_rfl
  | 6, _, _ => by kernel_rfl
  | 7, _, _ => by kernel_rfl
  | 8, _, _ => by kernel_rfl
  | 9, _, _ => by kernel_rfl
  | 10, _, _ => by kernel_rfl
  | 11, _, _ => by kernel_rfl
  | 12, _, _ => by kernel_rfl
  | 13, _, _ => by kernel_rfl
  | 14, _, _ => by kernel_rfl
  | 15, _, _ => by kernel_rfl
  | 16, _, _ => by kernel_rfl
  | 17, _, _ => by kernel_rfl
  | 18, _, _ => by kernel_rfl
  | 19, _, _ => by kernel_rfl
  | 20, _, _ => by kernel_rfl
  | 21, _, _ => by kernel_rfl
  | n + 22, _, h => absurd h (by omega)
theorem eff_all : ∀ op : Nat, 1 ≤ op → op ≤ 21 → cutCells G_arenanet_vm_effects (op * 3) 3 = some [.lit (.int .i64 (popsN op)), .lit (.int .i64 (pushN op)), .lit (.int .i64 (operN op))]
  | 1, _, _ => by kernel_rfl
  | 2, _, _ => by kernel_rfl
  | 3, _, _ => by kernel_rfl
  | 4, _, _ => by kernel_rfl
  | 5, _, _ => by kernel_rfl
  | 6, _, _ => by kernel_rfl
  | 7, _, _ => by kernel_rfl
  | 8, _, _ => by kernel_rfl
  | 9, _, _ => by kernel_rfl
  | 10, _, _ => by kernel_rfl
  | 11, _, _ => by kernel_rfl
  | 12, _, _ => by kernel_rfl
  | 13, _, _ => by kernel_rfl
  | 14, _, _ => by kernel_rfl
  | 15, _, _ => by kernel_rfl
  | 16, _, _ => by kernel_rfl
  | 17, _, _ => by kernel_rfl
  | 18, _, _ => by kernel_rfl
  | 19, _, _ => by kernel_rfl
  | 20, _, _ => by kernel_rfl
  | 21, _, _ => by kernel_rfl
  | n + 22, _, h => absurd h (by omega)
/-- May an instruction be executed, with so many values on the stack? -/
def exOk (op : Nat) (n sp : Int) : Bool := decide (sp ≤ 16) && (decide (popsN op ≤ sp) && (decide (sp - popsN op + pushN op ≤ 16) && (decide (operN op = 0) || (decide (0 ≤ n) && decide (n < operN op)))))
theorem pops_le (op : Nat) : popsN op ≤ 2 := by unfold popsN; split <;> omega
theorem push_le (op : Nat) : pushN op ≤ 1 := by unfold pushN; split <;> omega
theorem exe_Z (op : Nat) (n sp : Int) (h1 : 1 ≤ op) (h2 : op ≤ 21) : Z prog16 (.call 63 [.dat (.agg [.lit (.int .i64 op), .lit (.int .i64 n)]), .int sp] []) = some (.ret (.bool (exOk op n sp)) []) := by
  refine Z_call (pf := F63) rfl rfl ?_
  have h3 : ¬ (op : Int) < 1 := by omega
  have h4 : ¬ (21 : Int) < op := by omega
  have h5 := eff_all op h1 h2
  have h6 := pops_le op
  have h7 := push_le op
  have h8 : (op : Int) < 22 := by omega
  unfold exOk
  generalize popsN op = a at *
  generalize pushN op = b at *
  generalize operN op = c at *
  by_cases k1 : 16 < sp
  · have k2 : ¬ sp ≤ 16 := by omega
    simp [F63, h3, h4, k1, k2]
  · have k2 : sp ≤ 16 := by omega
    by_cases k3 : sp < a
    · have k4 : ¬ (a : Int) ≤ sp := by omega
      simp [F63, h3, h4, h5, h8, k1, k2, k3, k4]
    · have k4 : (a : Int) ≤ sp := by omega
      have w1 := wrap64 (sp - a) (by omega)
      have w2 := wrap64 (sp - a + b) (by omega)
      by_cases k5 : (16 : Int) < sp - a + b
      · have k6 : ¬ sp - a + b ≤ 16 := by omega
        simp [F63, h3, h4, h5, h8, k1, k2, k3, k4, k5, k6, w1, w2]
      · have k6 : sp - a + b ≤ 16 := by omega
        by_cases k7 : c = 0
        · simp [F63, h3, h4, h5, h8, k1, k2, k3, k4, k5, k6, k7, w1, w2]
        · by_cases k8 : 0 ≤ n
          · simp [F63, h3, h4, h5, h8, k1, k2, k3, k4, k5, k6, k7, k8, w1, w2]
          · simp [F63, h3, h4, h5, h8, k1, k2, k3, k4, k5, k6, k7, k8, w1, w2]
end Go.Pm
end SV6
section SV7
set_option linter.unusedSimpArgs false
set_option linter.unusedVariables false
namespace Go.Pm
open F
attribute [local simp] V.len sliceAddr
/-- The value that is pushed. -/
def exV (s : Su) (cs : List Int) (op : Nat) (n a b : Int) : Int :=
  match op with
  | 1 => n
  | 2 => getI cs (32 + n)
  | 4 => if bodyI s a < 0 then 0 else getI cs (bodyI s a + n)
  | 6 => getI cs 9
  | 7 => getI cs 10
  | 8 => getI cs 0
  | 3 | 5 | 18 | 19 | 20 | 21 => 0
  | k => appI k a b
/-- The hash that an effect leaves. -/
def effH (cs : List Int) (a b : Int) : Int := wr (shrI .u64 (hashI (getI cs 12) (getI cs 0) a b) 1)
/-- The cells that it leaves. -/
def exC (s : Su) (cs : List Int) (op : Nat) (n a b : Int) : List Int :=
  match op with
  | 3 => setI cs (32 + n) a
  | 5 => if bodyI s a < 0 then cs else setI cs (bodyI s a + n) (limI n b)
  | 18 => setI cs 6 n
  | 19 => if a = 0 then setI cs 6 n else cs
  | 20 => if 40 ≤ getI cs 11 then cs else setI (setI cs 12 (effH cs a b)) 11 (wr (getI cs 11 + 1))
  | _ => cs
def exB (cs : List Int) (op : Nat) : Bool := decide (op = 20) && decide (getI cs 11 < 40)
def exE (cs : List Int) (op : Nat) (a b : Int) : List Int := if exB cs op then [getI cs 0, getI cs 11, a, b] else [0, 0, 0, 0]
section
variable {s : Su} {cs : List Int} {N : Nat} {lg : List D} {k : Nat} {n a b : Int}
theorem ld1 : Z prog16 (.call 82 [.iface 0 (.ptr 0 0), .int n] (mem1 cs N lg k (k * 2))) = some (.ret (.int n) (mem1 cs N lg k (k * 2))) := by
  refine Z_call (pf := F82) rfl rfl ?_
  simp [F82, mem1, List.range_succ]
theorem ld2 (hN : cs.length = N) (h : 48 ≤ N) (h0 : 0 ≤ n) (h1 : n < 16) : Z prog16 (.call 83 [.iface 0 (.ptr 0 0), .int n] (mem1 cs N lg k (k * 2))) = some (.ret (.int (getI cs (32 + n))) (mem1 cs N lg k (k * 2))) := by
  refine Z_call (pf := F83) rfl rfl ?_
  have g := get1_Z (cs := cs) (n := N) (lg := lg) (k := k) (t := k * 2) (i := 32 + n) hN (by omega) (by omega)
  have w := wrap64 (32 + n) (by omega)
  simp only [mem1] at g
  simp [F83, mem1, List.range_succ, g, w]
theorem ld3 (hN : cs.length = N) (h : 48 ≤ N) : Z prog16 (.call 84 [.iface 0 (.ptr 0 0), .int n] (mem1 cs N lg k (k * 2))) = some (.ret (.int (getI cs 9)) (mem1 cs N lg k (k * 2))) := by
  refine Z_call (pf := F84) rfl rfl ?_
  have g := get1_Z (cs := cs) (n := N) (lg := lg) (k := k) (t := k * 2) (i := 9) hN (by omega) (by omega)
  simp only [mem1] at g
  simp [F84, mem1, List.range_succ, g]
theorem ld4 (hN : cs.length = N) (h : 48 ≤ N) : Z prog16 (.call 85 [.iface 0 (.ptr 0 0), .int n] (mem1 cs N lg k (k * 2))) = some (.ret (.int (getI cs 10)) (mem1 cs N lg k (k * 2))) := by
  refine Z_call (pf := F85) rfl rfl ?_
  have g := get1_Z (cs := cs) (n := N) (lg := lg) (k := k) (t := k * 2) (i := 10) hN (by omega) (by omega)
  simp only [mem1] at g
  simp [F85, mem1, List.range_succ, g]
theorem ld5 (hN : cs.length = N) (h : 48 ≤ N) : Z prog16 (.call 86 [.iface 0 (.ptr 0 0), .int n] (mem1 cs N lg k (k * 2))) = some (.ret (.int (getI cs 0)) (mem1 cs N lg k (k * 2))) := by
  refine Z_call (pf := F86) rfl rfl ?_
  have g := get1_Z (cs := cs) (n := N) (lg := lg) (k := k) (t := k * 2) (i := 0) hN (by omega) (by omega)
  simp only [mem1] at g
  simp [F86, mem1, List.range_succ, g]
theorem ot1 (hN : cs.length = N) (h : 48 ≤ N) (hl : lg.length = k * 2) (hk : k < 2^30) (h0 : 0 ≤ n) (h1 : n < 16) : Z prog16 (.call 98 [.iface 0 (.ptr 0 0), s.d, .dat (.agg [.lit (.int .i64 n), .lit (.int .i64 a), .lit (.int .i64 b)])] (mem1 cs N lg k (k * 2))) =
    some (.ret (.tup [.int 0, .dat (.agg (intsC [0, 0, 0, 0])), .bool false]) (mem1 (setI cs (32 + n) a) N (lg ++ ent cs (32 + n)) (k + 1) ((k + 1) * 2))) := by
  refine Z_call (pf := F98) rfl rfl ?_
  have g := set1_Z (cs := cs) (n := N) (lg := lg) (k := k) (i := 32 + n) (v := a) hN (by omega) (by omega) hl hk
  have w := wrap64 (32 + n) (by omega)
  simp only [mem1] at g
  simp [F98, mem1, Su.d, Su.c, List.range_succ, g, w, intsC]
theorem ot4 (hN : cs.length = N) (h : 48 ≤ N) (hl : lg.length = k * 2) (hk : k < 2^30) : Z prog16 (.call 103 [.iface 0 (.ptr 0 0), s.d, .dat (.agg [.lit (.int .i64 n), .lit (.int .i64 a), .lit (.int .i64 b)])] (mem1 cs N lg k (k * 2))) =
    some (.ret (.tup [.int 0, .dat (.agg (intsC [0, 0, 0, 0])), .bool false]) (mem1 (setI cs 6 n) N (lg ++ ent cs 6) (k + 1) ((k + 1) * 2))) := by
  refine Z_call (pf := F103) rfl rfl ?_
  have g := set1_Z (cs := cs) (n := N) (lg := lg) (k := k) (i := 6) (v := n) hN (by omega) (by omega) hl hk
  simp only [mem1] at g
  simp [F103, mem1, Su.d, Su.c, List.range_succ, g, intsC]
theorem ot5 (hN : cs.length = N) (h : 48 ≤ N) (hl : lg.length = k * 2) (hk : k < 2^30) (ha : a = 0) : Z prog16 (.call 104 [.iface 0 (.ptr 0 0), s.d, .dat (.agg [.lit (.int .i64 n), .lit (.int .i64 a), .lit (.int .i64 b)])] (mem1 cs N lg k (k * 2))) =
    some (.ret (.tup [.int 0, .dat (.agg (intsC [0, 0, 0, 0])), .bool false]) (mem1 (setI cs 6 n) N (lg ++ ent cs 6) (k + 1) ((k + 1) * 2))) := by
  refine Z_call (pf := F104) rfl rfl ?_
  have g := set1_Z (cs := cs) (n := N) (lg := lg) (k := k) (i := 6) (v := n) hN (by omega) (by omega) hl hk
  simp only [mem1] at g
  simp [F104, mem1, Su.d, Su.c, List.range_succ, g, intsC, ha]
theorem ot5' (ha : a ≠ 0) : Z prog16 (.call 104 [.iface 0 (.ptr 0 0), s.d, .dat (.agg [.lit (.int .i64 n), .lit (.int .i64 a), .lit (.int .i64 b)])] (mem1 cs N lg k (k * 2))) =
    some (.ret (.tup [.int 0, .dat (.agg (intsC [0, 0, 0, 0])), .bool false]) (mem1 cs N lg k (k * 2))) := by
  refine Z_call (pf := F104) rfl rfl ?_
  simp [F104, mem1, Su.d, Su.c, List.range_succ, intsC, ha]
theorem ot7 : Z prog16 (.call 107 [.iface 0 (.ptr 0 0), s.d, .dat (.agg [.lit (.int .i64 n), .lit (.int .i64 a), .lit (.int .i64 b)])] (mem1 cs N lg k (k * 2))) =
    some (.ret (.tup [.int 0, .dat (.agg (intsC [0, 0, 0, 0])), .bool false]) (mem1 cs N lg k (k * 2))) := by
  refine Z_call (pf := F107) rfl rfl ?_
  simp [F107, mem1, Su.d, Su.c, List.range_succ, intsC]
theorem ot2 (hs : s.ok) (hN : cs.length = N) (h : N = s.n) (h0 : 0 ≤ n) (h1 : n < 8) : Z prog16 (.call 99 [.iface 0 (.ptr 0 0), s.d, .dat (.agg [.lit (.int .i64 n), .lit (.int .i64 a), .lit (.int .i64 b)])] (mem1 cs N lg k (k * 2))) =
    some (.ret (.tup [.int (if bodyI s a < 0 then 0 else getI cs (bodyI s a + n)), .dat (.agg (intsC [0, 0, 0, 0])), .bool false]) (mem1 cs N lg k (k * 2))) := by
  refine Z_call (pf := F99) rfl rfl ?_
  have hb := vbody_Z s hs a
  have hp := hs.p3; have hq := hs.b5
  by_cases h3 : bodyI s a < 0
  · have h4 : ¬ 0 ≤ bodyI s a := by omega
    simp only [Su.d, Su.c] at hb
    simp [F99, mem1, Su.d, Su.c, List.range_succ, intsC, hb, h3, h4]
  · have h4 : 0 ≤ bodyI s a := by omega
    have h5 : bodyI s a + 8 ≤ N := by
      unfold bodyI at h3 ⊢
      rw [h]; unfold Su.n
      split at h3
      · omega
      · rename_i h6; rw [if_neg h6]; omega
    have g := get1_Z (cs := cs) (n := N) (lg := lg) (k := k) (t := k * 2) (i := bodyI s a + n) hN (by omega) (by omega)
    have hN2 : N ≤ 1000 := by rw [h]; unfold Su.n; omega
    have w := wrap64 (bodyI s a + n) (by omega)
    simp only [Su.d, Su.c] at hb
    simp only [mem1] at g
    simp [F99, mem1, Su.d, Su.c, List.range_succ, intsC, hb, h3, h4, g, w]
theorem ot3 (hs : s.ok) (hN : cs.length = N) (h : N = s.n) (hl : lg.length = k * 2) (hk : k < 2^30) (h0 : 0 ≤ n) (h1 : n < 8) (h3 : ¬ bodyI s a < 0) : Z prog16 (.call 101 [.iface 0 (.ptr 0 0), s.d, .dat (.agg [.lit (.int .i64 n), .lit (.int .i64 a), .lit (.int .i64 b)])] (mem1 cs N lg k (k * 2))) =
    some (.ret (.tup [.int 0, .dat (.agg (intsC [0, 0, 0, 0])), .bool false]) (mem1 (setI cs (bodyI s a + n) (limI n b)) N (lg ++ ent cs (bodyI s a + n)) (k + 1) ((k + 1) * 2))) := by
  refine Z_call (pf := F101) rfl rfl ?_
  have hb := vbody_Z s hs a
  have hp := hs.p3; have hq := hs.b5
  have h4 : 0 ≤ bodyI s a := by omega
  have h5 : bodyI s a + 8 ≤ N := by
    unfold bodyI at h3 ⊢
    rw [h]; unfold Su.n
    split at h3
    · omega
    · rename_i h6; rw [if_neg h6]; omega
  have g := set1_Z (cs := cs) (n := N) (lg := lg) (k := k) (i := bodyI s a + n) (v := limI n b) hN (by omega) (by omega) hl hk
  have hN2 : N ≤ 1000 := by rw [h]; unfold Su.n; omega
  have w := wrap64 (bodyI s a + n) (by omega)
  simp only [Su.d, Su.c] at hb
  simp only [mem1] at g
  simp [F101, mem1, Su.d, Su.c, List.range_succ, intsC, hb, h3, h4, g, w, lim_Z, calm, alone]
theorem ot3' (hs : s.ok) (h3 : bodyI s a < 0) : Z prog16 (.call 101 [.iface 0 (.ptr 0 0), s.d, .dat (.agg [.lit (.int .i64 n), .lit (.int .i64 a), .lit (.int .i64 b)])] (mem1 cs N lg k (k * 2))) =
    some (.ret (.tup [.int 0, .dat (.agg (intsC [0, 0, 0, 0])), .bool false]) (mem1 cs N lg k (k * 2))) := by
  refine Z_call (pf := F101) rfl rfl ?_
  have hb := vbody_Z s hs a
  have h4 : ¬ 0 ≤ bodyI s a := by omega
  simp only [Su.d, Su.c] at hb
  simp [F101, mem1, Su.d, Su.c, List.range_succ, intsC, hb, h3, h4]
end
end Go.Pm
end SV7
section SV8
set_option linter.unusedSimpArgs false
set_option linter.unusedVariables false
namespace Go.Pm
open F
attribute [local simp] V.len sliceAddr
theorem getI_setI (cs : List Int) (i j v : Int) (h : i.toNat ≠ j.toNat) : getI (setI cs i v) j = getI cs j := by
  simp [getI, getN, setI, List.getD_eq_getElem?_getD, List.getElem?_set_ne h]
section
variable {s : Su} {cs : List Int} {N : Nat} {lg : List D} {k : Nat} {n a b : Int}
theorem emit0 (hN : cs.length = N) (h : 48 ≤ N) (hc : 40 ≤ getI cs 11) : Z prog16 (.call 106 [.iface 0 (.ptr 0 0), .int a, .int b] (mem1 cs N lg k (k * 2))) =
    some (.ret (.tup [.dat (.agg (intsC [0, 0, 0, 0])), .bool false]) (mem1 cs N lg k (k * 2))) := by
  refine Z_call (pf := F106) rfl rfl ?_
  have g := get1_Z (cs := cs) (n := N) (lg := lg) (k := k) (t := k * 2) (i := 11) hN (by omega) (by omega)
  simp only [mem1] at g
  generalize getI cs 11 = c at *
  simp [F106, mem1, List.range_succ, g, hc, intsC]
theorem emit1_K {c tk hs h2 hh e : Int} {lg1 lg2 : List D} {cs1 cs2 : List Int} (hc : ¬ 40 ≤ c) (hc2 : wr (c + 1) = e) (hf : wr (shrI .u64 hh 1) = h2)
    (g1 : Z prog16 (.call 51 [.ptr 0 0, .int 11] (mem1 cs N lg k (k * 2))) = some (.ret (.int c) (mem1 cs N lg k (k * 2))))
    (g2 : Z prog16 (.call 51 [.ptr 0 0, .int 0] (mem1 cs N lg k (k * 2))) = some (.ret (.int tk) (mem1 cs N lg k (k * 2))))
    (g3 : Z prog16 (.call 51 [.ptr 0 0, .int 12] (mem1 cs N lg k (k * 2))) = some (.ret (.int hs) (mem1 cs N lg k (k * 2))))
    (g4 : Z prog16 (.call 109 [.str ⟨#[101, 102, 102, 101, 99, 116]⟩, .dat (.sl [.lit (.int .i64 hs), .lit (.int .i64 tk), .lit (.int .i64 a), .lit (.int .i64 b)] 4 true)] []) = some (.ret (.dat (.lit (.int .u64 hh))) []))
    (g5 : Z prog16 (.call 114 [.ptr 0 0, .int 12, .int h2] (mem1 cs N lg k (k * 2))) = some (.ret (.tup []) (mem1 cs1 N lg1 (k + 1) ((k + 1) * 2))))
    (g6 : Z prog16 (.call 114 [.ptr 0 0, .int 11, .int e] (mem1 cs1 N lg1 (k + 1) ((k + 1) * 2))) = some (.ret (.tup []) (mem1 cs2 N lg2 (k + 2) ((k + 2) * 2)))) :
    Z prog16 (.call 106 [.iface 0 (.ptr 0 0), .int a, .int b] (mem1 cs N lg k (k * 2))) =
    some (.ret (.tup [.dat (.agg [.lit (.int .i64 tk), .lit (.int .i64 c), .lit (.int .i64 a), .lit (.int .i64 b)]), .bool true]) (mem1 cs2 N lg2 (k + 2) ((k + 2) * 2))) := by
  refine Z_call (pf := F106) rfl rfl ?_
  simp only [mem1] at g1 g2 g3 g5 g6
  simp [F106, mem1, List.range_succ, g1, g2, g3, g4, g5, g6, hc, hc2, hf]
theorem emit1 (hN : cs.length = N) (h : 48 ≤ N) (hl : lg.length = k * 2) (hk : k < 2^29) (hc : ¬ 40 ≤ getI cs 11) : ∃ lg', lg'.length = (k + 2) * 2 ∧
    Z prog16 (.call 106 [.iface 0 (.ptr 0 0), .int a, .int b] (mem1 cs N lg k (k * 2))) =
    some (.ret (.tup [.dat (.agg (intsC [getI cs 0, getI cs 11, a, b])), .bool true]) (mem1 (setI (setI cs 12 (effH cs a b)) 11 (wr (getI cs 11 + 1))) N lg' (k + 2) ((k + 2) * 2))) := by
  refine ⟨(lg ++ ent cs 12) ++ ent (setI cs 12 (effH cs a b)) 11, by simp [ent, hl]; omega, ?_⟩
  have g5 := set1_Z (cs := cs) (n := N) (lg := lg) (k := k) (i := 12) (v := effH cs a b) hN (by omega) (by omega) hl (by omega)
  have g6 := set1_Z (cs := setI cs 12 (effH cs a b)) (n := N) (lg := lg ++ ent cs 12) (k := k + 1) (i := 11) (v := wr (getI cs 11 + 1)) (by simp [hN]) (by omega) (by omega) (by simp [ent, hl]; omega) (by omega)
  exact emit1_K hc rfl rfl (get1_Z hN (by omega) (by omega)) (get1_Z hN (by omega) (by omega)) (get1_Z hN (by omega) (by omega)) (hsum_Z _ _ _ _ _) g5 g6
theorem ot6 {x1 x2 x3 x4 : Int} {em : Bool} {cs' : List Int} {lg' : List D} {k' : Nat} (he : Z prog16 (.call 106 [.iface 0 (.ptr 0 0), .int a, .int b] (mem1 cs N lg k (k * 2))) = some (.ret (.tup [.dat (.agg (intsC [x1, x2, x3, x4])), .bool em]) (mem1 cs' N lg' k' (k' * 2)))) :
    Z prog16 (.call 105 [.iface 0 (.ptr 0 0), s.d, .dat (.agg [.lit (.int .i64 n), .lit (.int .i64 a), .lit (.int .i64 b)])] (mem1 cs N lg k (k * 2))) =
    some (.ret (.tup [.int 0, .dat (.agg (intsC [x1, x2, x3, x4])), .bool em]) (mem1 cs' N lg' k' (k' * 2))) := by
  refine Z_call (pf := F105) rfl rfl ?_
  simp only [mem1] at he
  simp [F105, mem1, Su.d, Su.c, List.range_succ, he, intsC] at he ⊢
end
end Go.Pm
end SV8
section SV9
set_option linter.unusedSimpArgs false
set_option linter.unusedVariables false
namespace Go.Pm
open F
attribute [local simp] V.len sliceAddr
theorem tab1 : Z prog16 (.call 74 [.int 1] []) = some (.ret (.fn 82 [] []) []) := Z_of (n := 2) (by kernel_rfl)
theorem tab2 : Z prog16 (.call 74 [.int 2] []) = some (.ret (.fn 83 [] []) []) := Z_of (n := 2) (by kernel_rfl)
theorem tab3 : Z prog16 (.call 77 [.int 3] []) = some (.ret (.fn 98 [] []) []) := Z_of (n := 2) (by kernel_rfl)
theorem tab4 : Z prog16 (.call 77 [.int 4] []) = some (.ret (.fn 99 [] []) []) := Z_of (n := 2) (by kernel_rfl)
theorem tab5 : Z prog16 (.call 77 [.int 5] []) = some (.ret (.fn 101 [] []) []) := Z_of (n := 2) (by kernel_rfl)
theorem tab6 : Z prog16 (.call 74 [.int 6] []) = some (.ret (.fn 84 [] []) []) := Z_of (n := 2) (by kernel_rfl)
theorem tab7 : Z prog16 (.call 74 [.int 7] []) = some (.ret (.fn 85 [] []) []) := Z_of (n := 2) (by kernel_rfl)
theorem tab8 : Z prog16 (.call 74 [.int 8] []) = some (.ret (.fn 86 [] []) []) := Z_of (n := 2) (by kernel_rfl)
theorem tab9 : Z prog16 (.call 75 [.int 9] []) = some (.ret (.fn 87 [] []) []) := Z_of (n := 2) (by kernel_rfl)
theorem tab10 : Z prog16 (.call 75 [.int 10] []) = some (.ret (.fn 89 [] []) []) := Z_of (n := 2) (by kernel_rfl)
theorem tab11 : Z prog16 (.call 75 [.int 11] []) = some (.ret (.fn 90 [] []) []) := Z_of (n := 2) (by kernel_rfl)
theorem tab12 : Z prog16 (.call 75 [.int 12] []) = some (.ret (.fn 91 [] []) []) := Z_of (n := 2) (by kernel_rfl)
theorem tab13 : Z prog16 (.call 76 [.int 13] []) = some (.ret (.fn 96 [] []) []) := Z_of (n := 2) (by kernel_rfl)
theorem tab14 : Z prog16 (.call 75 [.int 14] []) = some (.ret (.fn 92 [] []) []) := Z_of (n := 2) (by kernel_rfl)
theorem tab15 : Z prog16 (.call 75 [.int 15] []) = some (.ret (.fn 94 [] []) []) := Z_of (n := 2) (by kernel_rfl)
theorem tab16 : Z prog16 (.call 75 [.int 16] []) = some (.ret (.fn 95 [] []) []) := Z_of (n := 2) (by kernel_rfl)
theorem tab17 : Z prog16 (.call 76 [.int 17] []) = some (.ret (.fn 97 [] []) []) := Z_of (n := 2) (by kernel_rfl)
theorem tab18 : Z prog16 (.call 77 [.int 18] []) = some (.ret (.fn 103 [] []) []) := Z_of (n := 2) (by kernel_rfl)
theorem tab19 : Z prog16 (.call 77 [.int 19] []) = some (.ret (.fn 104 [] []) []) := Z_of (n := 2) (by kernel_rfl)
theorem tab20 : Z prog16 (.call 77 [.int 20] []) = some (.ret (.fn 105 [] []) []) := Z_of (n := 2) (by kernel_rfl)
theorem tab21 : Z prog16 (.call 77 [.int 21] []) = some (.ret (.fn 107 [] []) []) := Z_of (n := 2) (by kernel_rfl)
/-- What execute answers. -/
def exR (v : Int) (e : List Int) (em : Bool) : V := .tup [.int v, .dat (.agg (intsC e)), .bool em]
def insV (n a b : Int) : V := .dat (.agg [.lit (.int .i64 n), .lit (.int .i64 a), .lit (.int .i64 b)])
section
variable {s : Su} {cs cs' : List Int} {N : Nat} {lg lg' : List D} {k k' : Nat} {n a b v x1 x2 x3 x4 : Int} {em : Bool}
theorem ex1 (h : Z prog16 (.call 82 [.iface 0 (.ptr 0 0), .int n] (mem1 cs N lg k (k * 2))) = some (.ret (.int v) (mem1 cs N lg k (k * 2)))) :
    Z prog16 (.call 64 [.int 1, .iface 0 (.ptr 0 0), s.d, insV n a b] (mem1 cs N lg k (k * 2))) = some (.ret (exR v [0, 0, 0, 0] false) (mem1 cs N lg k (k * 2))) := by
  refine Z_call (pf := F64) rfl rfl ?_
  simp only [mem1] at h
  simp [F64, mem1, Su.d, Su.c, insV, exR, List.range_succ, tab1, h, intsC, calm, alone]
theorem ex2 (h : Z prog16 (.call 83 [.iface 0 (.ptr 0 0), .int n] (mem1 cs N lg k (k * 2))) = some (.ret (.int v) (mem1 cs N lg k (k * 2)))) :
    Z prog16 (.call 64 [.int 2, .iface 0 (.ptr 0 0), s.d, insV n a b] (mem1 cs N lg k (k * 2))) = some (.ret (exR v [0, 0, 0, 0] false) (mem1 cs N lg k (k * 2))) := by
  refine Z_call (pf := F64) rfl rfl ?_
  simp only [mem1] at h
  simp [F64, mem1, Su.d, Su.c, insV, exR, List.range_succ, tab2, h, intsC, calm, alone]
theorem ex6 (h : Z prog16 (.call 84 [.iface 0 (.ptr 0 0), .int n] (mem1 cs N lg k (k * 2))) = some (.ret (.int v) (mem1 cs N lg k (k * 2)))) :
    Z prog16 (.call 64 [.int 6, .iface 0 (.ptr 0 0), s.d, insV n a b] (mem1 cs N lg k (k * 2))) = some (.ret (exR v [0, 0, 0, 0] false) (mem1 cs N lg k (k * 2))) := by
  refine Z_call (pf := F64) rfl rfl ?_
  simp only [mem1] at h
  simp [F64, mem1, Su.d, Su.c, insV, exR, List.range_succ, tab6, h, intsC, calm, alone]
theorem ex7 (h : Z prog16 (.call 85 [.iface 0 (.ptr 0 0), .int n] (mem1 cs N lg k (k * 2))) = some (.ret (.int v) (mem1 cs N lg k (k * 2)))) :
    Z prog16 (.call 64 [.int 7, .iface 0 (.ptr 0 0), s.d, insV n a b] (mem1 cs N lg k (k * 2))) = some (.ret (exR v [0, 0, 0, 0] false) (mem1 cs N lg k (k * 2))) := by
  refine Z_call (pf := F64) rfl rfl ?_
  simp only [mem1] at h
  simp [F64, mem1, Su.d, Su.c, insV, exR, List.range_succ, tab7, h, intsC, calm, alone]
theorem ex8 (h : Z prog16 (.call 86 [.iface 0 (.ptr 0 0), .int n] (mem1 cs N lg k (k * 2))) = some (.ret (.int v) (mem1 cs N lg k (k * 2)))) :
    Z prog16 (.call 64 [.int 8, .iface 0 (.ptr 0 0), s.d, insV n a b] (mem1 cs N lg k (k * 2))) = some (.ret (exR v [0, 0, 0, 0] false) (mem1 cs N lg k (k * 2))) := by
  refine Z_call (pf := F64) rfl rfl ?_
  simp only [mem1] at h
  simp [F64, mem1, Su.d, Su.c, insV, exR, List.range_succ, tab8, h, intsC, calm, alone]
theorem ex9 (h : Z prog16 (.call 87 [.int a, .int b] []) = some (.ret (.int v) [])) :
    Z prog16 (.call 64 [.int 9, .iface 0 (.ptr 0 0), s.d, insV n a b] (mem1 cs N lg k (k * 2))) = some (.ret (exR v [0, 0, 0, 0] false) (mem1 cs N lg k (k * 2))) := by
  refine Z_call (pf := F64) rfl rfl ?_
  simp [F64, mem1, Su.d, Su.c, insV, exR, List.range_succ, tab9, h, intsC, calm, alone]
theorem ex10 (h : Z prog16 (.call 89 [.int a, .int b] []) = some (.ret (.int v) [])) :
    Z prog16 (.call 64 [.int 10, .iface 0 (.ptr 0 0), s.d, insV n a b] (mem1 cs N lg k (k * 2))) = some (.ret (exR v [0, 0, 0, 0] false) (mem1 cs N lg k (k * 2))) := by
  refine Z_call (pf := F64) rfl rfl ?_
  simp [F64, mem1, Su.d, Su.c, insV, exR, List.range_succ, tab10, h, intsC, calm, alone]
theorem ex11 (h : Z prog16 (.call 90 [.int a, .int b] []) = some (.ret (.int v) [])) :
    Z prog16 (.call 64 [.int 11, .iface 0 (.ptr 0 0), s.d, insV n a b] (mem1 cs N lg k (k * 2))) = some (.ret (exR v [0, 0, 0, 0] false) (mem1 cs N lg k (k * 2))) := by
  refine Z_call (pf := F64) rfl rfl ?_
  simp [F64, mem1, Su.d, Su.c, insV, exR, List.range_succ, tab11, h, intsC, calm, alone]
theorem ex12 (h : Z prog16 (.call 91 [.int a, .int b] []) = some (.ret (.int v) [])) :
    Z prog16 (.call 64 [.int 12, .iface 0 (.ptr 0 0), s.d, insV n a b] (mem1 cs N lg k (k * 2))) = some (.ret (exR v [0, 0, 0, 0] false) (mem1 cs N lg k (k * 2))) := by
  refine Z_call (pf := F64) rfl rfl ?_
  simp [F64, mem1, Su.d, Su.c, insV, exR, List.range_succ, tab12, h, intsC, calm, alone]
theorem ex14 (h : Z prog16 (.call 92 [.int a, .int b] []) = some (.ret (.int v) [])) :
    Z prog16 (.call 64 [.int 14, .iface 0 (.ptr 0 0), s.d, insV n a b] (mem1 cs N lg k (k * 2))) = some (.ret (exR v [0, 0, 0, 0] false) (mem1 cs N lg k (k * 2))) := by
  refine Z_call (pf := F64) rfl rfl ?_
  simp [F64, mem1, Su.d, Su.c, insV, exR, List.range_succ, tab14, h, intsC, calm, alone]
theorem ex15 (h : Z prog16 (.call 94 [.int a, .int b] []) = some (.ret (.int v) [])) :
    Z prog16 (.call 64 [.int 15, .iface 0 (.ptr 0 0), s.d, insV n a b] (mem1 cs N lg k (k * 2))) = some (.ret (exR v [0, 0, 0, 0] false) (mem1 cs N lg k (k * 2))) := by
  refine Z_call (pf := F64) rfl rfl ?_
  simp [F64, mem1, Su.d, Su.c, insV, exR, List.range_succ, tab15, h, intsC, calm, alone]
theorem ex16 (h : Z prog16 (.call 95 [.int a, .int b] []) = some (.ret (.int v) [])) :
    Z prog16 (.call 64 [.int 16, .iface 0 (.ptr 0 0), s.d, insV n a b] (mem1 cs N lg k (k * 2))) = some (.ret (exR v [0, 0, 0, 0] false) (mem1 cs N lg k (k * 2))) := by
  refine Z_call (pf := F64) rfl rfl ?_
  simp [F64, mem1, Su.d, Su.c, insV, exR, List.range_succ, tab16, h, intsC, calm, alone]
theorem ex13 (h : Z prog16 (.call 96 [.int a] []) = some (.ret (.int v) [])) :
    Z prog16 (.call 64 [.int 13, .iface 0 (.ptr 0 0), s.d, insV n a b] (mem1 cs N lg k (k * 2))) = some (.ret (exR v [0, 0, 0, 0] false) (mem1 cs N lg k (k * 2))) := by
  refine Z_call (pf := F64) rfl rfl ?_
  simp [F64, mem1, Su.d, Su.c, insV, exR, List.range_succ, tab13, h, intsC, calm, alone]
theorem ex17 (h : Z prog16 (.call 97 [.int a] []) = some (.ret (.int v) [])) :
    Z prog16 (.call 64 [.int 17, .iface 0 (.ptr 0 0), s.d, insV n a b] (mem1 cs N lg k (k * 2))) = some (.ret (exR v [0, 0, 0, 0] false) (mem1 cs N lg k (k * 2))) := by
  refine Z_call (pf := F64) rfl rfl ?_
  simp [F64, mem1, Su.d, Su.c, insV, exR, List.range_succ, tab17, h, intsC, calm, alone]
theorem ex3 (h : Z prog16 (.call 98 [.iface 0 (.ptr 0 0), s.d, insV n a b] (mem1 cs N lg k (k * 2))) = some (.ret (exR v [x1, x2, x3, x4] em) (mem1 cs' N lg' k' (k' * 2)))) :
    Z prog16 (.call 64 [.int 3, .iface 0 (.ptr 0 0), s.d, insV n a b] (mem1 cs N lg k (k * 2))) = some (.ret (exR v [x1, x2, x3, x4] em) (mem1 cs' N lg' k' (k' * 2))) := by
  refine Z_call (pf := F64) rfl rfl ?_
  simp only [mem1, Su.d, Su.c, insV, exR, intsC, List.map] at h
  simp [F64, mem1, Su.d, Su.c, insV, exR, List.range_succ, tab3, h, intsC, calm, alone]
theorem ex4 (h : Z prog16 (.call 99 [.iface 0 (.ptr 0 0), s.d, insV n a b] (mem1 cs N lg k (k * 2))) = some (.ret (exR v [x1, x2, x3, x4] em) (mem1 cs' N lg' k' (k' * 2)))) :
    Z prog16 (.call 64 [.int 4, .iface 0 (.ptr 0 0), s.d, insV n a b] (mem1 cs N lg k (k * 2))) = some (.ret (exR v [x1, x2, x3, x4] em) (mem1 cs' N lg' k' (k' * 2))) := by
  refine Z_call (pf := F64) rfl rfl ?_
  simp only [mem1, Su.d, Su.c, insV, exR, intsC, List.map] at h
  simp [F64, mem1, Su.d, Su.c, insV, exR, List.range_succ, tab4, h, intsC, calm, alone]
theorem ex5 (h : Z prog16 (.call 101 [.iface 0 (.ptr 0 0), s.d, insV n a b] (mem1 cs N lg k (k * 2))) = some (.ret (exR v [x1, x2, x3, x4] em) (mem1 cs' N lg' k' (k' * 2)))) :
    Z prog16 (.call 64 [.int 5, .iface 0 (.ptr 0 0), s.d, insV n a b] (mem1 cs N lg k (k * 2))) = some (.ret (exR v [x1, x2, x3, x4] em) (mem1 cs' N lg' k' (k' * 2))) := by
  refine Z_call (pf := F64) rfl rfl ?_
  simp only [mem1, Su.d, Su.c, insV, exR, intsC, List.map] at h
  simp [F64, mem1, Su.d, Su.c, insV, exR, List.range_succ, tab5, h, intsC, calm, alone]
theorem ex18 (h : Z prog16 (.call 103 [.iface 0 (.ptr 0 0), s.d, insV n a b] (mem1 cs N lg k (k * 2))) = some (.ret (exR v [x1, x2, x3, x4] em) (mem1 cs' N lg' k' (k' * 2)))) :
    Z prog16 (.call 64 [.int 18, .iface 0 (.ptr 0 0), s.d, insV n a b] (mem1 cs N lg k (k * 2))) = some (.ret (exR v [x1, x2, x3, x4] em) (mem1 cs' N lg' k' (k' * 2))) := by
  refine Z_call (pf := F64) rfl rfl ?_
  simp only [mem1, Su.d, Su.c, insV, exR, intsC, List.map] at h
  simp [F64, mem1, Su.d, Su.c, insV, exR, List.range_succ, tab18, h, intsC, calm, alone]
theorem ex19 (h : Z prog16 (.call 104 [.iface 0 (.ptr 0 0), s.d, insV n a b] (mem1 cs N lg k (k * 2))) = some (.ret (exR v [x1, x2, x3, x4] em) (mem1 cs' N lg' k' (k' * 2)))) :
    Z prog16 (.call 64 [.int 19, .iface 0 (.ptr 0 0), s.d, insV n a b] (mem1 cs N lg k (k * 2))) = some (.ret (exR v [x1, x2, x3, x4] em) (mem1 cs' N lg' k' (k' * 2))) := by
  refine Z_call (pf := F64) rfl rfl ?_
  simp only [mem1, Su.d, Su.c, insV, exR, intsC, List.map] at h
  simp [F64, mem1, Su.d, Su.c, insV, exR, List.range_succ, tab19, h, intsC, calm, alone]
theorem ex20 (h : Z prog16 (.call 105 [.iface 0 (.ptr 0 0), s.d, insV n a b] (mem1 cs N lg k (k * 2))) = some (.ret (exR v [x1, x2, x3, x4] em) (mem1 cs' N lg' k' (k' * 2)))) :
    Z prog16 (.call 64 [.int 20, .iface 0 (.ptr 0 0), s.d, insV n a b] (mem1 cs N lg k (k * 2))) = some (.ret (exR v [x1, x2, x3, x4] em) (mem1 cs' N lg' k' (k' * 2))) := by
  refine Z_call (pf := F64) rfl rfl ?_
  simp only [mem1, Su.d, Su.c, insV, exR, intsC, List.map] at h
  simp [F64, mem1, Su.d, Su.c, insV, exR, List.range_succ, tab20, h, intsC, calm, alone]
theorem ex21 (h : Z prog16 (.call 107 [.iface 0 (.ptr 0 0), s.d, insV n a b] (mem1 cs N lg k (k * 2))) = some (.ret (exR v [x1, x2, x3, x4] em) (mem1 cs' N lg' k' (k' * 2)))) :
    Z prog16 (.call 64 [.int 21, .iface 0 (.ptr 0 0), s.d, insV n a b] (mem1 cs N lg k (k * 2))) = some (.ret (exR v [x1, x2, x3, x4] em) (mem1 cs' N lg' k' (k' * 2))) := by
  refine Z_call (pf := F64) rfl rfl ?_
  simp only [mem1, Su.d, Su.c, insV, exR, intsC, List.map] at h
  simp [F64, mem1, Su.d, Su.c, insV, exR, List.range_succ, tab21, h, intsC, calm, alone]
end
theorem ex_Z (s : Su) (cs : List Int) (N : Nat) (lg : List D) (k : Nat) (op : Nat) (n a b : Int) (hs : s.ok) (hN : cs.length = N) (h : N = s.n) (hl : lg.length = k * 2) (hk : k < 2^29) (h1 : 1 ≤ op) (h2 : op ≤ 21)
    (hn : operN op = 0 ∨ (0 ≤ n ∧ n < operN op)) : ∃ lg' k', lg'.length = k' * 2 ∧ k' ≤ k + 2 ∧
    Z prog16 (.call 64 [.int op, .iface 0 (.ptr 0 0), s.d, insV n a b] (mem1 cs N lg k (k * 2))) = some (.ret (exR (exV s cs op n a b) (exE cs op a b) (exB cs op)) (mem1 (exC s cs op n a b) N lg' k' (k' * 2))) := by
  have h48 : 48 ≤ N := by rw [h]; unfold Su.n; omega
  have hk' : k < 2^30 := by omega
  have e0 : ∀ j, j ≠ 20 → exB cs j = false := fun j hj => by simp [exB, hj]
  have e1 : ∀ j, j ≠ 20 → exE cs j a b = [0, 0, 0, 0] := fun j hj => by simp [exE, e0 j hj]
  match op, h1, h2 with
  | 1, _, _ =>
    rw [e0 1 (by decide), e1 1 (by decide)]
    exact ⟨lg, k, hl, by omega, ex1 ld1⟩
  | 2, _, _ =>
    rw [e0 2 (by decide), e1 2 (by decide)]
    have hn' : 0 ≤ n ∧ n < 16 := by simpa [operN] using hn
    exact ⟨lg, k, hl, by omega, ex2 (ld2 hN h48 hn'.1 hn'.2)⟩
  | 3, _, _ =>
    rw [e0 3 (by decide), e1 3 (by decide)]
    have hn' : 0 ≤ n ∧ n < 16 := by simpa [operN] using hn
    exact ⟨_, k + 1, by simp [ent, hl]; omega, by omega, ex3 (ot1 hN h48 hl hk' hn'.1 hn'.2)⟩
  | 4, _, _ =>
    rw [e0 4 (by decide), e1 4 (by decide)]
    have hn' : 0 ≤ n ∧ n < 8 := by simpa [operN] using hn
    exact ⟨lg, k, hl, by omega, ex4 (ot2 hs hN h hn'.1 hn'.2)⟩
  | 5, _, _ =>
    rw [e0 5 (by decide), e1 5 (by decide)]
    have hn' : 0 ≤ n ∧ n < 8 := by simpa [operN] using hn
    by_cases h3 : bodyI s a < 0
    · have hc : exC s cs 5 n a b = cs := by simp [exC, h3]
      rw [hc]
      exact ⟨lg, k, hl, by omega, ex5 (ot3' hs h3)⟩
    · have hc : exC s cs 5 n a b = setI cs (bodyI s a + n) (limI n b) := by simp [exC, h3]
      rw [hc]
      exact ⟨_, k + 1, by simp [ent, hl]; omega, by omega, ex5 (ot3 hs hN h hl hk' hn'.1 hn'.2 h3)⟩
  | 6, _, _ =>
    rw [e0 6 (by decide), e1 6 (by decide)]
    exact ⟨lg, k, hl, by omega, ex6 (ld3 hN h48)⟩
  | 7, _, _ =>
    rw [e0 7 (by decide), e1 7 (by decide)]
    exact ⟨lg, k, hl, by omega, ex7 (ld4 hN h48)⟩
  | 8, _, _ =>
    rw [e0 8 (by decide), e1 8 (by decide)]
    exact ⟨lg, k, hl, by omega, ex8 (ld5 hN h48)⟩
  | 9, _, _ =>
    rw [e0 9 (by decide), e1 9 (by decide)]
    exact ⟨lg, k, hl, by omega, ex9 (bin_Z a b (87, 9) (by simp))⟩
  | 10, _, _ =>
    rw [e0 10 (by decide), e1 10 (by decide)]
    exact ⟨lg, k, hl, by omega, ex10 (bin_Z a b (89, 10) (by simp))⟩
  | 11, _, _ =>
    rw [e0 11 (by decide), e1 11 (by decide)]
    exact ⟨lg, k, hl, by omega, ex11 (bin_Z a b (90, 11) (by simp))⟩
  | 12, _, _ =>
    rw [e0 12 (by decide), e1 12 (by decide)]
    exact ⟨lg, k, hl, by omega, ex12 (bin_Z a b (91, 12) (by simp))⟩
  | 13, _, _ =>
    rw [e0 13 (by decide), e1 13 (by decide)]
    exact ⟨lg, k, hl, by omega, ex13 (un_Z a (96, 13) (by simp))⟩
  | 14, _, _ =>
    rw [e0 14 (by decide), e1 14 (by decide)]
    exact ⟨lg, k, hl, by omega, ex14 (bin_Z a b (92, 14) (by simp))⟩
  | 15, _, _ =>
    rw [e0 15 (by decide), e1 15 (by decide)]
    exact ⟨lg, k, hl, by omega, ex15 (bin_Z a b (94, 15) (by simp))⟩
  | 16, _, _ =>
    rw [e0 16 (by decide), e1 16 (by decide)]
    exact ⟨lg, k, hl, by omega, ex16 (bin_Z a b (95, 16) (by simp))⟩
  | 17, _, _ =>
    rw [e0 17 (by decide), e1 17 (by decide)]
    exact ⟨lg, k, hl, by omega, ex17 (un_Z a (97, 17) (by simp))⟩
  | 18, _, _ =>
    rw [e0 18 (by decide), e1 18 (by decide)]
    exact ⟨_, k + 1, by simp [ent, hl]; omega, by omega, ex18 (ot4 hN h48 hl hk')⟩
  | 19, _, _ =>
    rw [e0 19 (by decide), e1 19 (by decide)]
    by_cases h3 : a = 0
    · have hc : exC s cs 19 n a b = setI cs 6 n := by simp [exC, h3]
      rw [hc]
      exact ⟨_, k + 1, by simp [ent, hl]; omega, by omega, ex19 (ot5 hN h48 hl hk' h3)⟩
    · have hc : exC s cs 19 n a b = cs := by simp [exC, h3]
      rw [hc]
      exact ⟨lg, k, hl, by omega, ex19 (ot5' h3)⟩
  | 20, _, _ =>
    by_cases h3 : 40 ≤ getI cs 11
    · have hc : exC s cs 20 n a b = cs := by simp [exC, h3]
      have hb : exB cs 20 = false := by simp [exB]; omega
      rw [hc, exE, hb]
      exact ⟨lg, k, hl, by omega, ex20 (ot6 (emit0 hN h48 h3))⟩
    · have hc : exC s cs 20 n a b = setI (setI cs 12 (effH cs a b)) 11 (wr (getI cs 11 + 1)) := by simp [exC, h3]
      have hb : exB cs 20 = true := by simp [exB]; omega
      obtain ⟨lg', hl', he⟩ := emit1 (a := a) (b := b) hN h48 hl hk h3
      rw [hc, exE, hb]
      exact ⟨lg', k + 2, hl', by omega, ex20 (ot6 he)⟩
  | 21, _, _ =>
    rw [e0 21 (by decide), e1 21 (by decide)]
    exact ⟨lg, k, hl, by omega, ex21 ot7⟩
  | n + 22, _, h => exact absurd h (by omega)
end Go.Pm
end SV9
