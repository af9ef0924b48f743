/- Chapter 16: the law of locality. Chapter 16: the law of locality, the whole. -/
import Derived.Test.YtemenmjobfmelaaDoorPmV26
set_option linter.unusedSimpArgs false
set_option linter.unusedVariables false
section SV29
set_option linter.unusedSimpArgs false
set_option linter.unusedVariables false
namespace Go.Pm
open F
def lS (s : Su) (c : List (Nat × Int)) (e0 e1 e2 : Int) (cs : List Int) (N : Nat) : Option (List D × Nat) → S
  | none => [suOb s, .cells [.msl 3 0 N N 1, .dat (.lit (.slice none 0 0)), .int 0], .cells [.dat (codeD false c), .int e0, .int e1, .int e2], .cells (ints cs)]
  | some (lg, k) => [suOb s, .cells [.msl 3 0 N N 1, .gsl lg k 2 4, .int 0], .cells [.dat (codeD false c), .int e0, .int e1, .int e2], .cells (ints cs), .tip (k * 2)]
def l1Fr (old now : List Int) (N : Nat) (i f k : Int) (em : Bool) : Fr :=
  [(7, .ptr 0 0), (8, .ptr 1 0), (9, .ptr 2 0), (10, .int i), (11, .dat (.sl (intsC old) N false)), (14, .bool em), (15, .dat (.sl (intsC now) N false)), (16, .int f), (17, .int k)]
theorem len_sl (σ : S) (cs : List D) (n : Nat) (f : Bool) : V.len σ .sl (.dat (.sl cs n f)) = some n := rfl
set_option maxHeartbeats 8000000
theorem lsame6 (s : Su) (c : List (Nat × Int)) (e0 e1 e2 : Int) (cs old now : List Int) (N : Nat) (M : Option (List D × Nat)) (i f k : Nat) (em : Bool) (hp : s.p ≤ 3) (ho : old.length = N) (hn : now.length = N) (hN : N < 1000) (hk : k < N) (hf : f ≤ 1) (hv : k = 6) (he : getN now k = getN old k) :
    Z prog16 (.loop 0 F44l1 (l1Fr old now N i f k em) (lS s c e0 e1 e2 cs N M)) = Z prog16 (.loop 0 F44l1 (l1Fr old now N i f (k + 1 : Nat) em) (lS s c e0 e1 e2 cs N M)) := by
  have hk' : (k : Int) < N := by omega
  have s1 := at_full (intsC old) N false k (by omega) (by omega)
  have s2 := at_full (intsC now) N false k (by omega) (by omega)
  rw [show ((k : Int)).toNat = k by omega] at s1 s2
  have q1 := cut1_intsC old k (by omega)
  have q2 := cut1_intsC now k (by omega)
  have w1 := wrap64 ((k : Int) + 1) (by omega)
  have w2 := wrap64 ((f : Int) + 1) (by omega)
  have w3 := wrap64 (4 * (s.p : Int)) (by omega)
  have w4 := wrap64 (48 + 4 * (s.p : Int)) (by omega)
  have b6 : decide ((k : Int) = 6) = true := by simp; omega
  have b7 : decide ((k : Int) = 7) = false := by simp; omega
  have b8 : decide ((k : Int) = 8) = false := by simp; omega
  have b11 : decide ((k : Int) = 11) = false := by simp; omega
  have b12 : decide ((k : Int) = 12) = false := by simp; omega
  cases M with
  | none =>
    rw [Z_loop_eq]
    simp [loopStep, run_F44l1, l1Fr, lS, suOb, Su.c, List.range_succ, calm, alone, len_sl, hk', s1, s2, q1, q2, w1, w2, w3, w4, b6, b7, b8, b11, b12, he]
  | some m =>
    obtain ⟨lg, kk⟩ := m
    rw [Z_loop_eq]
    simp [loopStep, run_F44l1, l1Fr, lS, suOb, Su.c, List.range_succ, calm, alone, len_sl, hk', s1, s2, q1, q2, w1, w2, w3, w4, b6, b7, b8, b11, b12, he]
theorem lreg6 (s : Su) (c : List (Nat × Int)) (e0 e1 e2 : Int) (cs old now : List Int) (N : Nat) (M : Option (List D × Nat)) (i f k : Nat) (em : Bool) (hp : s.p ≤ 3) (ho : old.length = N) (hn : now.length = N) (hN : N < 1000) (hk : k < N) (hf : f ≤ 1) (hv : k = 6) (he : ¬ getN now k = getN old k) :
    Z prog16 (.loop 0 F44l1 (l1Fr old now N i f k em) (lS s c e0 e1 e2 cs N M)) = Z prog16 (.loop 0 F44l1 (l1Fr old now N i f (k + 1 : Nat) em) (lS s c e0 e1 e2 cs N M)) := by
  have hk' : (k : Int) < N := by omega
  have s1 := at_full (intsC old) N false k (by omega) (by omega)
  have s2 := at_full (intsC now) N false k (by omega) (by omega)
  rw [show ((k : Int)).toNat = k by omega] at s1 s2
  have q1 := cut1_intsC old k (by omega)
  have q2 := cut1_intsC now k (by omega)
  have w1 := wrap64 ((k : Int) + 1) (by omega)
  have w2 := wrap64 ((f : Int) + 1) (by omega)
  have w3 := wrap64 (4 * (s.p : Int)) (by omega)
  have w4 := wrap64 (48 + 4 * (s.p : Int)) (by omega)
  have b6 : decide ((k : Int) = 6) = true := by simp; omega
  have b7 : decide ((k : Int) = 7) = false := by simp; omega
  have b8 : decide ((k : Int) = 8) = false := by simp; omega
  have b11 : decide ((k : Int) = 11) = false := by simp; omega
  have b12 : decide ((k : Int) = 12) = false := by simp; omega
  cases M with
  | none =>
    rw [Z_loop_eq]
    simp [loopStep, run_F44l1, l1Fr, lS, suOb, Su.c, List.range_succ, calm, alone, len_sl, hk', s1, s2, q1, q2, w1, w2, w3, w4, b6, b7, b8, b11, b12, he]
  | some m =>
    obtain ⟨lg, kk⟩ := m
    rw [Z_loop_eq]
    simp [loopStep, run_F44l1, l1Fr, lS, suOb, Su.c, List.range_succ, calm, alone, len_sl, hk', s1, s2, q1, q2, w1, w2, w3, w4, b6, b7, b8, b11, b12, he]
theorem lsame7 (s : Su) (c : List (Nat × Int)) (e0 e1 e2 : Int) (cs old now : List Int) (N : Nat) (M : Option (List D × Nat)) (i f k : Nat) (em : Bool) (hp : s.p ≤ 3) (ho : old.length = N) (hn : now.length = N) (hN : N < 1000) (hk : k < N) (hf : f ≤ 1) (hv : k = 7) (he : getN now k = getN old k) :
    Z prog16 (.loop 0 F44l1 (l1Fr old now N i f k em) (lS s c e0 e1 e2 cs N M)) = Z prog16 (.loop 0 F44l1 (l1Fr old now N i f (k + 1 : Nat) em) (lS s c e0 e1 e2 cs N M)) := by
  have hk' : (k : Int) < N := by omega
  have s1 := at_full (intsC old) N false k (by omega) (by omega)
  have s2 := at_full (intsC now) N false k (by omega) (by omega)
  rw [show ((k : Int)).toNat = k by omega] at s1 s2
  have q1 := cut1_intsC old k (by omega)
  have q2 := cut1_intsC now k (by omega)
  have w1 := wrap64 ((k : Int) + 1) (by omega)
  have w2 := wrap64 ((f : Int) + 1) (by omega)
  have w3 := wrap64 (4 * (s.p : Int)) (by omega)
  have w4 := wrap64 (48 + 4 * (s.p : Int)) (by omega)
  have b6 : decide ((k : Int) = 6) = false := by simp; omega
  have b7 : decide ((k : Int) = 7) = true := by simp; omega
  have b8 : decide ((k : Int) = 8) = false := by simp; omega
  have b11 : decide ((k : Int) = 11) = false := by simp; omega
  have b12 : decide ((k : Int) = 12) = false := by simp; omega
  cases M with
  | none =>
    rw [Z_loop_eq]
    simp [loopStep, run_F44l1, l1Fr, lS, suOb, Su.c, List.range_succ, calm, alone, len_sl, hk', s1, s2, q1, q2, w1, w2, w3, w4, b6, b7, b8, b11, b12, he]
  | some m =>
    obtain ⟨lg, kk⟩ := m
    rw [Z_loop_eq]
    simp [loopStep, run_F44l1, l1Fr, lS, suOb, Su.c, List.range_succ, calm, alone, len_sl, hk', s1, s2, q1, q2, w1, w2, w3, w4, b6, b7, b8, b11, b12, he]
theorem lreg7 (s : Su) (c : List (Nat × Int)) (e0 e1 e2 : Int) (cs old now : List Int) (N : Nat) (M : Option (List D × Nat)) (i f k : Nat) (em : Bool) (hp : s.p ≤ 3) (ho : old.length = N) (hn : now.length = N) (hN : N < 1000) (hk : k < N) (hf : f ≤ 1) (hv : k = 7) (he : ¬ getN now k = getN old k) :
    Z prog16 (.loop 0 F44l1 (l1Fr old now N i f k em) (lS s c e0 e1 e2 cs N M)) = Z prog16 (.loop 0 F44l1 (l1Fr old now N i f (k + 1 : Nat) em) (lS s c e0 e1 e2 cs N M)) := by
  have hk' : (k : Int) < N := by omega
  have s1 := at_full (intsC old) N false k (by omega) (by omega)
  have s2 := at_full (intsC now) N false k (by omega) (by omega)
  rw [show ((k : Int)).toNat = k by omega] at s1 s2
  have q1 := cut1_intsC old k (by omega)
  have q2 := cut1_intsC now k (by omega)
  have w1 := wrap64 ((k : Int) + 1) (by omega)
  have w2 := wrap64 ((f : Int) + 1) (by omega)
  have w3 := wrap64 (4 * (s.p : Int)) (by omega)
  have w4 := wrap64 (48 + 4 * (s.p : Int)) (by omega)
  have b6 : decide ((k : Int) = 6) = false := by simp; omega
  have b7 : decide ((k : Int) = 7) = true := by simp; omega
  have b8 : decide ((k : Int) = 8) = false := by simp; omega
  have b11 : decide ((k : Int) = 11) = false := by simp; omega
  have b12 : decide ((k : Int) = 12) = false := by simp; omega
  cases M with
  | none =>
    rw [Z_loop_eq]
    simp [loopStep, run_F44l1, l1Fr, lS, suOb, Su.c, List.range_succ, calm, alone, len_sl, hk', s1, s2, q1, q2, w1, w2, w3, w4, b6, b7, b8, b11, b12, he]
  | some m =>
    obtain ⟨lg, kk⟩ := m
    rw [Z_loop_eq]
    simp [loopStep, run_F44l1, l1Fr, lS, suOb, Su.c, List.range_succ, calm, alone, len_sl, hk', s1, s2, q1, q2, w1, w2, w3, w4, b6, b7, b8, b11, b12, he]
theorem lsame8 (s : Su) (c : List (Nat × Int)) (e0 e1 e2 : Int) (cs old now : List Int) (N : Nat) (M : Option (List D × Nat)) (i f k : Nat) (em : Bool) (hp : s.p ≤ 3) (ho : old.length = N) (hn : now.length = N) (hN : N < 1000) (hk : k < N) (hf : f ≤ 1) (hv : k = 8) (he : getN now k = getN old k) :
    Z prog16 (.loop 0 F44l1 (l1Fr old now N i f k em) (lS s c e0 e1 e2 cs N M)) = Z prog16 (.loop 0 F44l1 (l1Fr old now N i f (k + 1 : Nat) em) (lS s c e0 e1 e2 cs N M)) := by
  have hk' : (k : Int) < N := by omega
  have s1 := at_full (intsC old) N false k (by omega) (by omega)
  have s2 := at_full (intsC now) N false k (by omega) (by omega)
  rw [show ((k : Int)).toNat = k by omega] at s1 s2
  have q1 := cut1_intsC old k (by omega)
  have q2 := cut1_intsC now k (by omega)
  have w1 := wrap64 ((k : Int) + 1) (by omega)
  have w2 := wrap64 ((f : Int) + 1) (by omega)
  have w3 := wrap64 (4 * (s.p : Int)) (by omega)
  have w4 := wrap64 (48 + 4 * (s.p : Int)) (by omega)
  have b6 : decide ((k : Int) = 6) = false := by simp; omega
  have b7 : decide ((k : Int) = 7) = false := by simp; omega
  have b8 : decide ((k : Int) = 8) = true := by simp; omega
  have b11 : decide ((k : Int) = 11) = false := by simp; omega
  have b12 : decide ((k : Int) = 12) = false := by simp; omega
  cases M with
  | none =>
    rw [Z_loop_eq]
    simp [loopStep, run_F44l1, l1Fr, lS, suOb, Su.c, List.range_succ, calm, alone, len_sl, hk', s1, s2, q1, q2, w1, w2, w3, w4, b6, b7, b8, b11, b12, he]
  | some m =>
    obtain ⟨lg, kk⟩ := m
    rw [Z_loop_eq]
    simp [loopStep, run_F44l1, l1Fr, lS, suOb, Su.c, List.range_succ, calm, alone, len_sl, hk', s1, s2, q1, q2, w1, w2, w3, w4, b6, b7, b8, b11, b12, he]
theorem lreg8 (s : Su) (c : List (Nat × Int)) (e0 e1 e2 : Int) (cs old now : List Int) (N : Nat) (M : Option (List D × Nat)) (i f k : Nat) (em : Bool) (hp : s.p ≤ 3) (ho : old.length = N) (hn : now.length = N) (hN : N < 1000) (hk : k < N) (hf : f ≤ 1) (hv : k = 8) (he : ¬ getN now k = getN old k) :
    Z prog16 (.loop 0 F44l1 (l1Fr old now N i f k em) (lS s c e0 e1 e2 cs N M)) = Z prog16 (.loop 0 F44l1 (l1Fr old now N i f (k + 1 : Nat) em) (lS s c e0 e1 e2 cs N M)) := by
  have hk' : (k : Int) < N := by omega
  have s1 := at_full (intsC old) N false k (by omega) (by omega)
  have s2 := at_full (intsC now) N false k (by omega) (by omega)
  rw [show ((k : Int)).toNat = k by omega] at s1 s2
  have q1 := cut1_intsC old k (by omega)
  have q2 := cut1_intsC now k (by omega)
  have w1 := wrap64 ((k : Int) + 1) (by omega)
  have w2 := wrap64 ((f : Int) + 1) (by omega)
  have w3 := wrap64 (4 * (s.p : Int)) (by omega)
  have w4 := wrap64 (48 + 4 * (s.p : Int)) (by omega)
  have b6 : decide ((k : Int) = 6) = false := by simp; omega
  have b7 : decide ((k : Int) = 7) = false := by simp; omega
  have b8 : decide ((k : Int) = 8) = true := by simp; omega
  have b11 : decide ((k : Int) = 11) = false := by simp; omega
  have b12 : decide ((k : Int) = 12) = false := by simp; omega
  cases M with
  | none =>
    rw [Z_loop_eq]
    simp [loopStep, run_F44l1, l1Fr, lS, suOb, Su.c, List.range_succ, calm, alone, len_sl, hk', s1, s2, q1, q2, w1, w2, w3, w4, b6, b7, b8, b11, b12, he]
  | some m =>
    obtain ⟨lg, kk⟩ := m
    rw [Z_loop_eq]
    simp [loopStep, run_F44l1, l1Fr, lS, suOb, Su.c, List.range_succ, calm, alone, len_sl, hk', s1, s2, q1, q2, w1, w2, w3, w4, b6, b7, b8, b11, b12, he]
theorem lsame11 (s : Su) (c : List (Nat × Int)) (e0 e1 e2 : Int) (cs old now : List Int) (N : Nat) (M : Option (List D × Nat)) (i f k : Nat) (em : Bool) (hp : s.p ≤ 3) (ho : old.length = N) (hn : now.length = N) (hN : N < 1000) (hk : k < N) (hf : f ≤ 1) (hv : k = 11) (he : getN now k = getN old k) :
    Z prog16 (.loop 0 F44l1 (l1Fr old now N i f k em) (lS s c e0 e1 e2 cs N M)) = Z prog16 (.loop 0 F44l1 (l1Fr old now N i f (k + 1 : Nat) em) (lS s c e0 e1 e2 cs N M)) := by
  have hk' : (k : Int) < N := by omega
  have s1 := at_full (intsC old) N false k (by omega) (by omega)
  have s2 := at_full (intsC now) N false k (by omega) (by omega)
  rw [show ((k : Int)).toNat = k by omega] at s1 s2
  have q1 := cut1_intsC old k (by omega)
  have q2 := cut1_intsC now k (by omega)
  have w1 := wrap64 ((k : Int) + 1) (by omega)
  have w2 := wrap64 ((f : Int) + 1) (by omega)
  have w3 := wrap64 (4 * (s.p : Int)) (by omega)
  have w4 := wrap64 (48 + 4 * (s.p : Int)) (by omega)
  have b6 : decide ((k : Int) = 6) = false := by simp; omega
  have b7 : decide ((k : Int) = 7) = false := by simp; omega
  have b8 : decide ((k : Int) = 8) = false := by simp; omega
  have b11 : decide ((k : Int) = 11) = true := by simp; omega
  have b12 : decide ((k : Int) = 12) = false := by simp; omega
  cases M with
  | none =>
    rw [Z_loop_eq]
    simp [loopStep, run_F44l1, l1Fr, lS, suOb, Su.c, List.range_succ, calm, alone, len_sl, hk', s1, s2, q1, q2, w1, w2, w3, w4, b6, b7, b8, b11, b12, he]
  | some m =>
    obtain ⟨lg, kk⟩ := m
    rw [Z_loop_eq]
    simp [loopStep, run_F44l1, l1Fr, lS, suOb, Su.c, List.range_succ, calm, alone, len_sl, hk', s1, s2, q1, q2, w1, w2, w3, w4, b6, b7, b8, b11, b12, he]
theorem leff11 (s : Su) (c : List (Nat × Int)) (e0 e1 e2 : Int) (cs old now : List Int) (N : Nat) (M : Option (List D × Nat)) (i f k : Nat) (em : Bool) (hp : s.p ≤ 3) (ho : old.length = N) (hn : now.length = N) (hN : N < 1000) (hk : k < N) (hf : f ≤ 1) (hv : k = 11) (he : ¬ getN now k = getN old k) (hem : em = true) :
    Z prog16 (.loop 0 F44l1 (l1Fr old now N i f k em) (lS s c e0 e1 e2 cs N M)) = Z prog16 (.loop 0 F44l1 (l1Fr old now N i f (k + 1 : Nat) em) (lS s c e0 e1 e2 cs N M)) := by
  have hk' : (k : Int) < N := by omega
  have s1 := at_full (intsC old) N false k (by omega) (by omega)
  have s2 := at_full (intsC now) N false k (by omega) (by omega)
  rw [show ((k : Int)).toNat = k by omega] at s1 s2
  have q1 := cut1_intsC old k (by omega)
  have q2 := cut1_intsC now k (by omega)
  have w1 := wrap64 ((k : Int) + 1) (by omega)
  have w2 := wrap64 ((f : Int) + 1) (by omega)
  have w3 := wrap64 (4 * (s.p : Int)) (by omega)
  have w4 := wrap64 (48 + 4 * (s.p : Int)) (by omega)
  have b6 : decide ((k : Int) = 6) = false := by simp; omega
  have b7 : decide ((k : Int) = 7) = false := by simp; omega
  have b8 : decide ((k : Int) = 8) = false := by simp; omega
  have b11 : decide ((k : Int) = 11) = true := by simp; omega
  have b12 : decide ((k : Int) = 12) = false := by simp; omega
  cases M with
  | none =>
    rw [Z_loop_eq]
    simp [loopStep, run_F44l1, l1Fr, lS, suOb, Su.c, List.range_succ, calm, alone, len_sl, hk', s1, s2, q1, q2, w1, w2, w3, w4, b6, b7, b8, b11, b12, he, hem]
  | some m =>
    obtain ⟨lg, kk⟩ := m
    rw [Z_loop_eq]
    simp [loopStep, run_F44l1, l1Fr, lS, suOb, Su.c, List.range_succ, calm, alone, len_sl, hk', s1, s2, q1, q2, w1, w2, w3, w4, b6, b7, b8, b11, b12, he, hem]
theorem lsame12 (s : Su) (c : List (Nat × Int)) (e0 e1 e2 : Int) (cs old now : List Int) (N : Nat) (M : Option (List D × Nat)) (i f k : Nat) (em : Bool) (hp : s.p ≤ 3) (ho : old.length = N) (hn : now.length = N) (hN : N < 1000) (hk : k < N) (hf : f ≤ 1) (hv : k = 12) (he : getN now k = getN old k) :
    Z prog16 (.loop 0 F44l1 (l1Fr old now N i f k em) (lS s c e0 e1 e2 cs N M)) = Z prog16 (.loop 0 F44l1 (l1Fr old now N i f (k + 1 : Nat) em) (lS s c e0 e1 e2 cs N M)) := by
  have hk' : (k : Int) < N := by omega
  have s1 := at_full (intsC old) N false k (by omega) (by omega)
  have s2 := at_full (intsC now) N false k (by omega) (by omega)
  rw [show ((k : Int)).toNat = k by omega] at s1 s2
  have q1 := cut1_intsC old k (by omega)
  have q2 := cut1_intsC now k (by omega)
  have w1 := wrap64 ((k : Int) + 1) (by omega)
  have w2 := wrap64 ((f : Int) + 1) (by omega)
  have w3 := wrap64 (4 * (s.p : Int)) (by omega)
  have w4 := wrap64 (48 + 4 * (s.p : Int)) (by omega)
  have b6 : decide ((k : Int) = 6) = false := by simp; omega
  have b7 : decide ((k : Int) = 7) = false := by simp; omega
  have b8 : decide ((k : Int) = 8) = false := by simp; omega
  have b11 : decide ((k : Int) = 11) = false := by simp; omega
  have b12 : decide ((k : Int) = 12) = true := by simp; omega
  cases M with
  | none =>
    rw [Z_loop_eq]
    simp [loopStep, run_F44l1, l1Fr, lS, suOb, Su.c, List.range_succ, calm, alone, len_sl, hk', s1, s2, q1, q2, w1, w2, w3, w4, b6, b7, b8, b11, b12, he]
  | some m =>
    obtain ⟨lg, kk⟩ := m
    rw [Z_loop_eq]
    simp [loopStep, run_F44l1, l1Fr, lS, suOb, Su.c, List.range_succ, calm, alone, len_sl, hk', s1, s2, q1, q2, w1, w2, w3, w4, b6, b7, b8, b11, b12, he]
theorem leff12 (s : Su) (c : List (Nat × Int)) (e0 e1 e2 : Int) (cs old now : List Int) (N : Nat) (M : Option (List D × Nat)) (i f k : Nat) (em : Bool) (hp : s.p ≤ 3) (ho : old.length = N) (hn : now.length = N) (hN : N < 1000) (hk : k < N) (hf : f ≤ 1) (hv : k = 12) (he : ¬ getN now k = getN old k) (hem : em = true) :
    Z prog16 (.loop 0 F44l1 (l1Fr old now N i f k em) (lS s c e0 e1 e2 cs N M)) = Z prog16 (.loop 0 F44l1 (l1Fr old now N i f (k + 1 : Nat) em) (lS s c e0 e1 e2 cs N M)) := by
  have hk' : (k : Int) < N := by omega
  have s1 := at_full (intsC old) N false k (by omega) (by omega)
  have s2 := at_full (intsC now) N false k (by omega) (by omega)
  rw [show ((k : Int)).toNat = k by omega] at s1 s2
  have q1 := cut1_intsC old k (by omega)
  have q2 := cut1_intsC now k (by omega)
  have w1 := wrap64 ((k : Int) + 1) (by omega)
  have w2 := wrap64 ((f : Int) + 1) (by omega)
  have w3 := wrap64 (4 * (s.p : Int)) (by omega)
  have w4 := wrap64 (48 + 4 * (s.p : Int)) (by omega)
  have b6 : decide ((k : Int) = 6) = false := by simp; omega
  have b7 : decide ((k : Int) = 7) = false := by simp; omega
  have b8 : decide ((k : Int) = 8) = false := by simp; omega
  have b11 : decide ((k : Int) = 11) = false := by simp; omega
  have b12 : decide ((k : Int) = 12) = true := by simp; omega
  cases M with
  | none =>
    rw [Z_loop_eq]
    simp [loopStep, run_F44l1, l1Fr, lS, suOb, Su.c, List.range_succ, calm, alone, len_sl, hk', s1, s2, q1, q2, w1, w2, w3, w4, b6, b7, b8, b11, b12, he, hem]
  | some m =>
    obtain ⟨lg, kk⟩ := m
    rw [Z_loop_eq]
    simp [loopStep, run_F44l1, l1Fr, lS, suOb, Su.c, List.range_succ, calm, alone, len_sl, hk', s1, s2, q1, q2, w1, w2, w3, w4, b6, b7, b8, b11, b12, he, hem]
theorem lsame0 (s : Su) (c : List (Nat × Int)) (e0 e1 e2 : Int) (cs old now : List Int) (N : Nat) (M : Option (List D × Nat)) (i f k : Nat) (em : Bool) (hp : s.p ≤ 3) (ho : old.length = N) (hn : now.length = N) (hN : N < 1000) (hk : k < N) (hf : f ≤ 1) (h6 : k ≠ 6) (h7 : k ≠ 7) (h8 : k ≠ 8) (h11 : k ≠ 11) (h12 : k ≠ 12) (he : getN now k = getN old k) :
    Z prog16 (.loop 0 F44l1 (l1Fr old now N i f k em) (lS s c e0 e1 e2 cs N M)) = Z prog16 (.loop 0 F44l1 (l1Fr old now N i f (k + 1 : Nat) em) (lS s c e0 e1 e2 cs N M)) := by
  have hk' : (k : Int) < N := by omega
  have s1 := at_full (intsC old) N false k (by omega) (by omega)
  have s2 := at_full (intsC now) N false k (by omega) (by omega)
  rw [show ((k : Int)).toNat = k by omega] at s1 s2
  have q1 := cut1_intsC old k (by omega)
  have q2 := cut1_intsC now k (by omega)
  have w1 := wrap64 ((k : Int) + 1) (by omega)
  have w2 := wrap64 ((f : Int) + 1) (by omega)
  have w3 := wrap64 (4 * (s.p : Int)) (by omega)
  have w4 := wrap64 (48 + 4 * (s.p : Int)) (by omega)
  have b6 : decide ((k : Int) = 6) = false := by simp; omega
  have b7 : decide ((k : Int) = 7) = false := by simp; omega
  have b8 : decide ((k : Int) = 8) = false := by simp; omega
  have b11 : decide ((k : Int) = 11) = false := by simp; omega
  have b12 : decide ((k : Int) = 12) = false := by simp; omega
  cases M with
  | none =>
    rw [Z_loop_eq]
    simp [loopStep, run_F44l1, l1Fr, lS, suOb, Su.c, List.range_succ, calm, alone, len_sl, hk', s1, s2, q1, q2, w1, w2, w3, w4, b6, b7, b8, b11, b12, he]
  | some m =>
    obtain ⟨lg, kk⟩ := m
    rw [Z_loop_eq]
    simp [loopStep, run_F44l1, l1Fr, lS, suOb, Su.c, List.range_succ, calm, alone, len_sl, hk', s1, s2, q1, q2, w1, w2, w3, w4, b6, b7, b8, b11, b12, he]
theorem lfurA (s : Su) (c : List (Nat × Int)) (e0 e1 e2 : Int) (cs old now : List Int) (N : Nat) (M : Option (List D × Nat)) (i f k : Nat) (em : Bool) (hp : s.p ≤ 3) (ho : old.length = N) (hn : now.length = N) (hN : N < 1000) (hk : k < N) (hf : f ≤ 1) (h6 : k ≠ 6) (h7 : k ≠ 7) (h8 : k ≠ 8) (h11 : k ≠ 11) (h12 : k ≠ 12) (he : ¬ getN now k = getN old k) (hr : 16 ≤ k ∧ k < 48) :
    Z prog16 (.loop 0 F44l1 (l1Fr old now N i f k em) (lS s c e0 e1 e2 cs N M)) = Z prog16 (.loop 0 F44l1 (l1Fr old now N i (f + 1 : Nat) (k + 1 : Nat) em) (lS s c e0 e1 e2 cs N M)) := by
  have hk' : (k : Int) < N := by omega
  have s1 := at_full (intsC old) N false k (by omega) (by omega)
  have s2 := at_full (intsC now) N false k (by omega) (by omega)
  rw [show ((k : Int)).toNat = k by omega] at s1 s2
  have q1 := cut1_intsC old k (by omega)
  have q2 := cut1_intsC now k (by omega)
  have w1 := wrap64 ((k : Int) + 1) (by omega)
  have w2 := wrap64 ((f : Int) + 1) (by omega)
  have w3 := wrap64 (4 * (s.p : Int)) (by omega)
  have w4 := wrap64 (48 + 4 * (s.p : Int)) (by omega)
  have b6 : decide ((k : Int) = 6) = false := by simp; omega
  have b7 : decide ((k : Int) = 7) = false := by simp; omega
  have b8 : decide ((k : Int) = 8) = false := by simp; omega
  have b11 : decide ((k : Int) = 11) = false := by simp; omega
  have b12 : decide ((k : Int) = 12) = false := by simp; omega
  have z1 : ¬ (k : Int) < 16 := by omega
  have z2 : ¬ (48 : Int) ≤ k := by omega
  cases M with
  | none =>
    rw [Z_loop_eq]
    simp [loopStep, run_F44l1, l1Fr, lS, suOb, Su.c, List.range_succ, calm, alone, len_sl, hk', s1, s2, q1, q2, w1, w2, w3, w4, b6, b7, b8, b11, b12, he, z1, z2]
  | some m =>
    obtain ⟨lg, kk⟩ := m
    rw [Z_loop_eq]
    simp [loopStep, run_F44l1, l1Fr, lS, suOb, Su.c, List.range_succ, calm, alone, len_sl, hk', s1, s2, q1, q2, w1, w2, w3, w4, b6, b7, b8, b11, b12, he, z1, z2]
theorem lfurB (s : Su) (c : List (Nat × Int)) (e0 e1 e2 : Int) (cs old now : List Int) (N : Nat) (M : Option (List D × Nat)) (i f k : Nat) (em : Bool) (hp : s.p ≤ 3) (ho : old.length = N) (hn : now.length = N) (hN : N < 1000) (hk : k < N) (hf : f ≤ 1) (h6 : k ≠ 6) (h7 : k ≠ 7) (h8 : k ≠ 8) (h11 : k ≠ 11) (h12 : k ≠ 12) (he : ¬ getN now k = getN old k) (hr : 48 + 4 * s.p ≤ k) :
    Z prog16 (.loop 0 F44l1 (l1Fr old now N i f k em) (lS s c e0 e1 e2 cs N M)) = Z prog16 (.loop 0 F44l1 (l1Fr old now N i (f + 1 : Nat) (k + 1 : Nat) em) (lS s c e0 e1 e2 cs N M)) := by
  have hk' : (k : Int) < N := by omega
  have s1 := at_full (intsC old) N false k (by omega) (by omega)
  have s2 := at_full (intsC now) N false k (by omega) (by omega)
  rw [show ((k : Int)).toNat = k by omega] at s1 s2
  have q1 := cut1_intsC old k (by omega)
  have q2 := cut1_intsC now k (by omega)
  have w1 := wrap64 ((k : Int) + 1) (by omega)
  have w2 := wrap64 ((f : Int) + 1) (by omega)
  have w3 := wrap64 (4 * (s.p : Int)) (by omega)
  have w4 := wrap64 (48 + 4 * (s.p : Int)) (by omega)
  have b6 : decide ((k : Int) = 6) = false := by simp; omega
  have b7 : decide ((k : Int) = 7) = false := by simp; omega
  have b8 : decide ((k : Int) = 8) = false := by simp; omega
  have b11 : decide ((k : Int) = 11) = false := by simp; omega
  have b12 : decide ((k : Int) = 12) = false := by simp; omega
  have z1 : ¬ (k : Int) < 16 := by omega
  have z2 : (48 : Int) ≤ k := by omega
  have z3 : ¬ (k : Int) < 48 + 4 * s.p := by omega
  cases M with
  | none =>
    rw [Z_loop_eq]
    simp [loopStep, run_F44l1, l1Fr, lS, suOb, Su.c, List.range_succ, calm, alone, len_sl, hk', s1, s2, q1, q2, w1, w2, w3, w4, b6, b7, b8, b11, b12, he, z1, z2, z3]
  | some m =>
    obtain ⟨lg, kk⟩ := m
    rw [Z_loop_eq]
    simp [loopStep, run_F44l1, l1Fr, lS, suOb, Su.c, List.range_succ, calm, alone, len_sl, hk', s1, s2, q1, q2, w1, w2, w3, w4, b6, b7, b8, b11, b12, he, z1, z2, z3]
theorem llast (s : Su) (c : List (Nat × Int)) (e0 e1 e2 : Int) (cs old now : List Int) (N : Nat) (M : Option (List D × Nat)) (i f : Nat) (em : Bool) :
    Z prog16 (.loop 0 F44l1 (l1Fr old now N i f N em) (lS s c e0 e1 e2 cs N M)) = some (.out (.exit 2) (l1Fr old now N i f N em ++ [(55, .bool false)]) (lS s c e0 e1 e2 cs N M)) := by
  cases M with
  | none =>
    rw [Z_loop_eq]
    simp [loopStep, run_F44l1, l1Fr, lS, suOb, Su.c, List.range_succ, calm, alone, len_sl]
  | some m =>
    obtain ⟨lg, kk⟩ := m
    rw [Z_loop_eq]
    simp [loopStep, run_F44l1, l1Fr, lS, suOb, Su.c, List.range_succ, calm, alone, len_sl]
/-- What a step may change. -/
def Loc (s : Su) (old now : List Int) (em : Bool) (P : Nat) : Prop :=
  ∀ k, k ≠ 6 → k ≠ 7 → k ≠ 8 → (em = false ∨ (k ≠ 11 ∧ k ≠ 12)) → getN now k ≠ getN old k → k = P ∧ ((16 ≤ k ∧ k < 48) ∨ 48 + 4 * s.p ≤ k)
theorem lloop (s : Su) (hp : s.p ≤ 3) (c : List (Nat × Int)) (e0 e1 e2 : Int) (cs old now : List Int) (N : Nat) (M : Option (List D × Nat)) (i : Nat) (em : Bool) (ho : old.length = N) (hn : now.length = N) (hN : N < 1000) (P : Nat) (hl : Loc s old now em P) (m : Nat) :
    ∀ k f : Nat, k + m = N → (f = 0 ∨ (f = 1 ∧ P < k)) → ∃ f' : Nat, f' ≤ 1 ∧ Z prog16 (.loop 0 F44l1 (l1Fr old now N i f k em) (lS s c e0 e1 e2 cs N M)) = some (.out (.exit 2) (l1Fr old now N i f' N em ++ [(55, .bool false)]) (lS s c e0 e1 e2 cs N M)) := by
  induction m with
  | zero =>
    intro k f hk hf
    have : k = N := by omega
    subst this
    exact ⟨f, by omega, llast s c e0 e1 e2 cs old now k M i f em⟩
  | succ m ih =>
    intro k f hk hf
    have hk1 : k < N := by omega
    have hf1 : f ≤ 1 := by omega
    have go : Z prog16 (.loop 0 F44l1 (l1Fr old now N i f k em) (lS s c e0 e1 e2 cs N M)) = Z prog16 (.loop 0 F44l1 (l1Fr old now N i f (k + 1 : Nat) em) (lS s c e0 e1 e2 cs N M)) → ∃ f' : Nat, f' ≤ 1 ∧ Z prog16 (.loop 0 F44l1 (l1Fr old now N i f k em) (lS s c e0 e1 e2 cs N M)) = some (.out (.exit 2) (l1Fr old now N i f' N em ++ [(55, .bool false)]) (lS s c e0 e1 e2 cs N M)) := fun e => by
      obtain ⟨f', g1, g2⟩ := ih (k + 1) f (by omega) (by omega)
      exact ⟨f', g1, e.trans g2⟩
    by_cases he : getN now k = getN old k
    · by_cases h6 : k = 6
      · exact go (lsame6 s c e0 e1 e2 cs old now N M i f k em hp ho hn hN hk1 hf1 h6 he)
      by_cases h7 : k = 7
      · exact go (lsame7 s c e0 e1 e2 cs old now N M i f k em hp ho hn hN hk1 hf1 h7 he)
      by_cases h8 : k = 8
      · exact go (lsame8 s c e0 e1 e2 cs old now N M i f k em hp ho hn hN hk1 hf1 h8 he)
      by_cases h11 : k = 11
      · exact go (lsame11 s c e0 e1 e2 cs old now N M i f k em hp ho hn hN hk1 hf1 h11 he)
      by_cases h12 : k = 12
      · exact go (lsame12 s c e0 e1 e2 cs old now N M i f k em hp ho hn hN hk1 hf1 h12 he)
      exact go (lsame0 s c e0 e1 e2 cs old now N M i f k em hp ho hn hN hk1 hf1 h6 h7 h8 h11 h12 he)
    · by_cases h6 : k = 6
      · exact go (lreg6 s c e0 e1 e2 cs old now N M i f k em hp ho hn hN hk1 hf1 h6 he)
      by_cases h7 : k = 7
      · exact go (lreg7 s c e0 e1 e2 cs old now N M i f k em hp ho hn hN hk1 hf1 h7 he)
      by_cases h8 : k = 8
      · exact go (lreg8 s c e0 e1 e2 cs old now N M i f k em hp ho hn hN hk1 hf1 h8 he)
      by_cases h11 : k = 11
      · cases hem : em with
        | true => subst hem; exact go (leff11 s c e0 e1 e2 cs old now N M i f k true hp ho hn hN hk1 hf1 h11 he rfl)
        | false =>
          have := hl k h6 h7 h8 (.inl hem) he
          omega
      by_cases h12 : k = 12
      · cases hem : em with
        | true => subst hem; exact go (leff12 s c e0 e1 e2 cs old now N M i f k true hp ho hn hN hk1 hf1 h12 he rfl)
        | false =>
          have := hl k h6 h7 h8 (.inl hem) he
          omega
      have hP := hl k h6 h7 h8 (.inr ⟨h11, h12⟩) he
      obtain ⟨f', g1, g2⟩ := ih (k + 1) (f + 1) (by omega) (by omega)
      refine ⟨f', g1, ?_⟩
      rcases hP.2 with hr | hr
      · exact (lfurA s c e0 e1 e2 cs old now N M i f k em hp ho hn hN hk1 hf1 h6 h7 h8 h11 h12 he hr).trans g2
      · exact (lfurB s c e0 e1 e2 cs old now N M i f k em hp ho hn hN hk1 hf1 h6 h7 h8 h11 h12 he hr).trans g2
theorem stepR_loc (s : Su) (hs : s.ok) (c : List (Nat × Int)) (cs : List Int) : ∃ P, Loc s cs (stepR s c cs).cs (stepR s c cs).em P := by
  cases hcan : canStep c cs with
  | false => rw [stepR_no hcan]; exact ⟨0, fun k _ _ _ _ h => absurd rfl h⟩
  | true =>
    have e : stepR s c cs = ⟨postC s cs (insAt c (getI cs 6)).1 (insAt c (getI cs 6)).2, decide (((insAt c (getI cs 6)).1 : Int) = 21), exE (preC cs (insAt c (getI cs 6)).1) (insAt c (getI cs 6)).1 (popA cs (insAt c (getI cs 6)).1) (popB cs (insAt c (getI cs 6)).1), exB (preC cs (insAt c (getI cs 6)).1) (insAt c (getI cs 6)).1⟩ := by
      unfold stepR; rw [if_pos hcan]
    simp only [canStep, Bool.and_eq_true] at hcan
    rw [e]
    generalize (insAt c (getI cs 6)).1 = op at *
    generalize (insAt c (getI cs 6)).2 = n at *
    refine ⟨(plc s cs op n (popA cs op)).toNat, fun k h6 h7 h8 h11 hne => ?_⟩
    simp only at h11 hne
    by_cases hu : op = 3 ∨ (op = 5 ∧ 0 ≤ bodyI s (popA cs op)) ∨ pushN op ≠ 0
    · have hr := plc_rng hs (c := []) (sp := 0) hcan.2 hu
      simp only at hr
      by_cases hP : (plc s cs op n (popA cs op)).toNat = k
      · exact ⟨hP.symm, by omega⟩
      · exact absurd (postC_keep h6 h7 h8 h11 (fun _ => hP)) hne
    · exact absurd (postC_keep h6 h7 h8 h11 (fun h => absurd h hu)) hne
end Go.Pm
end SV29
section SV30
set_option linter.unusedSimpArgs false
set_option linter.unusedVariables false
namespace Go.Pm
open F
def lFr (i : Int) : Fr := [(7, .ptr 0 0), (8, .ptr 1 0), (9, .ptr 2 0), (10, .int i)]
set_option maxHeartbeats 8000000
theorem lout0 (s : Su) (c : List (Nat × Int)) (e0 e1 e2 : Int) (cs cs' : List Int) (N : Nat)  (i f : Nat) (ended em : Bool) (x1 x2 x3 x4 : Int) (hN : cs.length = N) (hN' : cs'.length = N) (hN1 : N < 1000) (hi : i < 20) (hf : f ≤ 1)
    (hst : Z prog16 (.call 52 [.iface 0 (.ptr 0 0), s.d, progD false c e0 e1 e2] (mem0 cs N)) = some (.ret (.tup [.bool ended, .dat (.agg (intsC [x1, x2, x3, x4])), .bool em]) (mem0 cs' N)))
    (hl : Z prog16 (.loop 0 F44l1 (l1Fr cs cs' N i (0 : Nat) (0 : Nat) em) (lS s c e0 e1 e2 cs' N (none))) = some (.out (.exit 2) (l1Fr cs cs' N i f N em ++ [(55, .bool false)]) (lS s c e0 e1 e2 cs' N (none)))) :
    Z prog16 (.loop 0 F44l0 (lFr i) (lS s c e0 e1 e2 cs N (none))) = Z prog16 (.loop 0 F44l0 (lFr (i + 1 : Nat)) (lS s c e0 e1 e2 cs' N (none))) := by
  have z1 := cells0_Z cs N hN (by omega)
  have z2 := cells0_Z cs' N hN' (by omega)
  have hi' : (i : Int) < 20 := by omega
  have w1 := wrap64 ((i : Int) + 1) (by omega)
  have hf' : ¬ (1 : Int) < f := by omega
  have hl' := (Z_loop_cong (k := 0) (b := F44l1) (fr := [(7, .ptr 0 0), (8, .ptr 1 0), (9, .ptr 2 0), (10, .int i), (11, .dat (.sl (intsC cs) N false)), (14, .bool em), (15, .dat (.sl (intsC cs') N false)), (16, .int 0), (17, .int 0)]) (σ := [suOb s, .cells [.msl 3 0 N N 1, .dat (.lit (.slice none 0 0)), .int 0], .cells [.dat (codeD false c), .int e0, .int e1, .int e2], .cells (ints cs'), .cells ([x1, x2, x3, x4].map V.int)]) (by simp [l1Fr, lS, suOb, Su.c, List.range_succ])).trans hl
  simp only [l1Fr, lS, suOb, mem0, mem1, progD, Su.d, Su.c, List.map, intsC] at *
  rw [Z_loop_eq]
  simp [loopStep, run_F44l0, lFr, List.range_succ, len_sl, z1, hst, z2, hl', hi', w1, hf']
theorem lout01 (s : Su) (c : List (Nat × Int)) (e0 e1 e2 : Int) (cs cs' : List Int) (N : Nat) (lg' : List D) (k' : Nat) (i f : Nat) (ended em : Bool) (x1 x2 x3 x4 : Int) (hN : cs.length = N) (hN' : cs'.length = N) (hN1 : N < 1000) (hi : i < 20) (hf : f ≤ 1)
    (hst : Z prog16 (.call 52 [.iface 0 (.ptr 0 0), s.d, progD false c e0 e1 e2] (mem0 cs N)) = some (.ret (.tup [.bool ended, .dat (.agg (intsC [x1, x2, x3, x4])), .bool em]) (mem1 cs' N lg' k' (k' * 2))))
    (hl : Z prog16 (.loop 0 F44l1 (l1Fr cs cs' N i (0 : Nat) (0 : Nat) em) (lS s c e0 e1 e2 cs' N (some (lg', k')))) = some (.out (.exit 2) (l1Fr cs cs' N i f N em ++ [(55, .bool false)]) (lS s c e0 e1 e2 cs' N (some (lg', k'))))) :
    Z prog16 (.loop 0 F44l0 (lFr i) (lS s c e0 e1 e2 cs N (none))) = Z prog16 (.loop 0 F44l0 (lFr (i + 1 : Nat)) (lS s c e0 e1 e2 cs' N (some (lg', k')))) := by
  have z1 := cells0_Z cs N hN (by omega)
  have z2 := cells1_Z cs' N lg' k' (k' * 2) hN' (by omega)
  have hi' : (i : Int) < 20 := by omega
  have w1 := wrap64 ((i : Int) + 1) (by omega)
  have hf' : ¬ (1 : Int) < f := by omega
  have hl' := (Z_loop_cong (k := 0) (b := F44l1) (fr := [(7, .ptr 0 0), (8, .ptr 1 0), (9, .ptr 2 0), (10, .int i), (11, .dat (.sl (intsC cs) N false)), (14, .bool em), (15, .dat (.sl (intsC cs') N false)), (16, .int 0), (17, .int 0)]) (σ := [suOb s, .cells [.msl 3 0 N N 1, .gsl lg' k' 2 4, .int 0], .cells [.dat (codeD false c), .int e0, .int e1, .int e2], .cells (ints cs'), .tip (k' * 2), .cells ([x1, x2, x3, x4].map V.int)]) (by simp [l1Fr, lS, suOb, Su.c, List.range_succ])).trans hl
  simp only [l1Fr, lS, suOb, mem0, mem1, progD, Su.d, Su.c, List.map, intsC] at *
  rw [Z_loop_eq]
  simp [loopStep, run_F44l0, lFr, List.range_succ, len_sl, z1, hst, z2, hl', hi', w1, hf']
theorem lout1 (s : Su) (c : List (Nat × Int)) (e0 e1 e2 : Int) (cs cs' : List Int) (N : Nat) (lg lg' : List D) (k k' : Nat) (i f : Nat) (ended em : Bool) (x1 x2 x3 x4 : Int) (hN : cs.length = N) (hN' : cs'.length = N) (hN1 : N < 1000) (hi : i < 20) (hf : f ≤ 1)
    (hst : Z prog16 (.call 52 [.iface 0 (.ptr 0 0), s.d, progD false c e0 e1 e2] (mem1 cs N lg k (k * 2))) = some (.ret (.tup [.bool ended, .dat (.agg (intsC [x1, x2, x3, x4])), .bool em]) (mem1 cs' N lg' k' (k' * 2))))
    (hl : Z prog16 (.loop 0 F44l1 (l1Fr cs cs' N i (0 : Nat) (0 : Nat) em) (lS s c e0 e1 e2 cs' N (some (lg', k')))) = some (.out (.exit 2) (l1Fr cs cs' N i f N em ++ [(55, .bool false)]) (lS s c e0 e1 e2 cs' N (some (lg', k'))))) :
    Z prog16 (.loop 0 F44l0 (lFr i) (lS s c e0 e1 e2 cs N (some (lg, k)))) = Z prog16 (.loop 0 F44l0 (lFr (i + 1 : Nat)) (lS s c e0 e1 e2 cs' N (some (lg', k')))) := by
  have z1 := cells1_Z cs N lg k (k * 2) hN (by omega)
  have z2 := cells1_Z cs' N lg' k' (k' * 2) hN' (by omega)
  have hi' : (i : Int) < 20 := by omega
  have w1 := wrap64 ((i : Int) + 1) (by omega)
  have hf' : ¬ (1 : Int) < f := by omega
  have hl' := (Z_loop_cong (k := 0) (b := F44l1) (fr := [(7, .ptr 0 0), (8, .ptr 1 0), (9, .ptr 2 0), (10, .int i), (11, .dat (.sl (intsC cs) N false)), (14, .bool em), (15, .dat (.sl (intsC cs') N false)), (16, .int 0), (17, .int 0)]) (σ := [suOb s, .cells [.msl 3 0 N N 1, .gsl lg' k' 2 4, .int 0], .cells [.dat (codeD false c), .int e0, .int e1, .int e2], .cells (ints cs'), .tip (k' * 2), .cells ([x1, x2, x3, x4].map V.int)]) (by simp [l1Fr, lS, suOb, Su.c, List.range_succ])).trans hl
  simp only [l1Fr, lS, suOb, mem0, mem1, progD, Su.d, Su.c, List.map, intsC] at *
  rw [Z_loop_eq]
  simp [loopStep, run_F44l0, lFr, List.range_succ, len_sl, z1, hst, z2, hl', hi', w1, hf']
theorem lend (s : Su) (c : List (Nat × Int)) (e0 e1 e2 : Int) (cs : List Int) (N : Nat) (M : Option (List D × Nat)) :
    Z prog16 (.loop 0 F44l0 (lFr (20 : Nat)) (lS s c e0 e1 e2 cs N M)) = some (.out (.exit 0) (lFr (20 : Nat) ++ [(31, .bool false)]) (lS s c e0 e1 e2 cs N M)) := by
  cases M with
  | none =>
    rw [Z_loop_eq]
    simp [loopStep, run_F44l0, lFr, lS, suOb, Su.c, List.range_succ]
  | some m =>
    obtain ⟨lg, kk⟩ := m
    rw [Z_loop_eq]
    simp [loopStep, run_F44l0, lFr, lS, suOb, Su.c, List.range_succ]
def okM : Option (List D × Nat) → Nat → Prop
  | none, _ => True
  | some (lg, k), b => lg.length = k * 2 ∧ k ≤ b
theorem lall (s : Su) (hs : s.ok) (c : List (Nat × Int)) (e0 e1 e2 : Int) (N : Nat) (h : N = s.n) (hc : ∀ x ∈ c, 1 ≤ x.1 ∧ x.1 ≤ 21) (hcl : c.length < 2^30) (m : Nat) :
    ∀ (i : Nat) (cs : List Int) (M : Option (List D × Nat)) (b : Nat), i + m = 20 → cs.length = N → okM M b → b + 6 * m < 10000 →
    ∃ cs' M', cs'.length = N ∧ Z prog16 (.loop 0 F44l0 (lFr i) (lS s c e0 e1 e2 cs N M)) = some (.out (.exit 0) (lFr (20 : Nat) ++ [(31, .bool false)]) (lS s c e0 e1 e2 cs' N M')) := by
  have hp := hs.p3; have hq := hs.b5
  have hN1 : 48 ≤ N ∧ N < 1000 := by rw [h]; unfold Su.n; omega
  induction m with
  | zero =>
    intro i cs M b hi hN hM hb
    have : i = 20 := by omega
    subst this
    exact ⟨cs, M, hN, lend s c e0 e1 e2 cs N M⟩
  | succ m ih =>
    intro i cs M b hi hN hM hb
    obtain ⟨P, hP⟩ := stepR_loc s hs c cs
    obtain ⟨x1, x2, x3, x4, hx⟩ := stepR_four s c cs
    have hlen : (stepR s c cs).cs.length = N := by rw [stepR_length]; exact hN
    have loop := fun M' => lloop s hp c e0 e1 e2 (stepR s c cs).cs cs (stepR s c cs).cs N M' i (stepR s c cs).em hN hlen hN1.2 P hP N 0 0 (by omega) (.inl rfl)
    cases M with
    | none =>
      rcases any0 s c false e0 e1 e2 cs N hs hN h hc hcl with ⟨h1, h2⟩ | ⟨lg', k', h1, h2, h3⟩
      · obtain ⟨f', f1, f2⟩ := loop none
        rw [h1] at h2 f2
        have z := lout0 s c e0 e1 e2 cs cs N i f' true false 0 0 0 0 hN hN hN1.2 (by omega) f1 h2 f2
        obtain ⟨cs', M', g1, g2⟩ := ih (i + 1) cs none b (by omega) hN trivial (by omega)
        exact ⟨cs', M', g1, z.trans g2⟩
      · obtain ⟨f', f1, f2⟩ := loop (some (lg', k'))
        rw [StR.v, hx] at h3
        have z := lout01 s c e0 e1 e2 cs _ N lg' k' i f' _ _ x1 x2 x3 x4 hN hlen hN1.2 (by omega) f1 h3 f2
        obtain ⟨cs', M', g1, g2⟩ := ih (i + 1) _ (some (lg', k')) 6 (by omega) hlen ⟨h1, h2⟩ (by omega)
        exact ⟨cs', M', g1, z.trans g2⟩
    | some q =>
      obtain ⟨lg, k⟩ := q
      obtain ⟨m1, m2⟩ := hM
      obtain ⟨lg', k', h1, h2, h3⟩ := any1 s c false e0 e1 e2 cs N lg k m1 (by omega) hs hN h hc hcl
      obtain ⟨f', f1, f2⟩ := loop (some (lg', k'))
      rw [StR.v, hx] at h3
      have z := lout1 s c e0 e1 e2 cs _ N lg lg' k k' i f' _ _ x1 x2 x3 x4 hN hlen hN1.2 (by omega) f1 h3 f2
      obtain ⟨cs', M', g1, g2⟩ := ih (i + 1) _ (some (lg', k')) (b + 6) (by omega) hlen ⟨h1, by omega⟩ (by omega)
      exact ⟨cs', M', g1, z.trans g2⟩
theorem vmLocal_Z {d1 d2 d3 : D} {xs1 xs2 xs3 : List Int} (h1 : IsRow d1 xs1) (i1 : ∀ x ∈ xs1, I64 x) (h2 : IsRow d2 xs2) (i2 : ∀ x ∈ xs2, I64 x) (h3 : IsRow d3 xs3) (i3 : ∀ x ∈ xs3, I64 x) :
    Z prog16 (.call 44 [.dat d1, .dat d2, .dat d3] []) = some (.ret (.bool true) []) := by
  obtain ⟨s, bs, hs, hb, hbl, zs⟩ := setup_Z h1 i1
  obtain ⟨w, hw, zw⟩ := cells_Z s hs bs hb hbl h3 i3
  obtain ⟨c, e0, e1, e2, hcl, hc, zc⟩ := code_Z h2 i2
  have hp := hs.p3; have hq := hs.b5
  have hN : 48 ≤ s.n ∧ s.n < 1000 := by unfold Su.n; omega
  have zn := new_Z w s.n false hw (by omega)
  obtain ⟨cs', M', g1, g2⟩ := lall s hs c e0 e1 e2 s.n rfl hc (by omega) 20 0 w none 0 rfl hw trivial (by omega)
  have zl := (Z_loop_cong (k := 0) (b := F44l0) (fr := [(7, .ptr 0 0), (8, .ptr 1 0), (9, .ptr 3 0), (10, .int 0)]) (σ := [suOb s, .cells [.msl 2 0 s.n s.n 1, .dat (.lit (.slice none 0 0)), .int 0], .cells (ints w), .cells [.dat (codeD false c), .int e0, .int e1, .int e2]]) (by simp [lFr, lS, suOb, Su.c, List.range_succ])).trans g2
  refine Z_call (pf := F44) rfl rfl ?_
  simp only [suOb, mem0, mem1, progD, Su.d, Su.c, List.map, lFr] at *
  cases M' with
  | none =>
    simp only [lS] at zl
    simp [F44, zs, zw, zc, zn, zl, lives_Z, List.range_succ]
  | some m =>
    obtain ⟨lg, k⟩ := m
    simp only [lS] at zl
    simp [F44, zs, zw, zc, zn, zl, lives_Z, List.range_succ]
end Go.Pm
end SV30
