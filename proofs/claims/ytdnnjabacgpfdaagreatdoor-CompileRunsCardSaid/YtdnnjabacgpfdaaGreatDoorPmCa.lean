/- Chapter 15: the code of trees, as a plain function. Chapter 15: the reference's small functions: index, name, operator, field. Chapter 15: the reference's Code: rows that grow, sequences. Chapter 15: the reference's Code: sequences, alternatives, branches. Chapter 15: the reference's Code of expressions. -/
import Derived.Test.YtdnnjabacgpfdaaGreatDoorPmEt
import Derived.Test.YtdnnjabacgpfdaaGreatDoorPmP1
import Derived.Test.YtdnnjabacgpfdaaGreatDoorPmTb14
import Derived.Test.YtdnnjabacgpfdaaGreatDoorPmN1
set_option linter.unusedSimpArgs false
set_option linter.unusedVariables false
section SCa
namespace Go.Pm
open Gr
def ixI : List ByteArray -> ByteArray -> Int
 | [], _ => -1
 | x :: l, s => if x = s then 0 else if ixI l s < 0 then -1 else ixI l s + 1
def fieldNs : List ByteArray := [⟨#[120]⟩, ⟨#[121]⟩, ⟨#[118, 120]⟩, ⟨#[118, 121]⟩, ⟨#[97]⟩, ⟨#[98]⟩, ⟨#[104, 105, 116]⟩, ⟨#[115, 116, 105, 108, 108]⟩]
def fieldI (s : ByteArray) : Int := ixI fieldNs s
def nameI (s : ByteArray) : Int := if s = ⟨#[115, 101, 108, 102]⟩ then 6 else if s = ⟨#[111, 116, 104, 101, 114]⟩ then 7 else 8
def opI : Bop -> Int
 | .add => 9 | .sub => 10 | .mul => 11 | .div => 12
 | .lt => 14 | .gt => 14 | .le => 15 | .ge => 15
 | _ => 16
def sq (a b : Int -> Cd) (at_ : Int) : Cd := a at_ ++ b (at_ + (a at_).length)
def brC (c a b : Int -> Cd) (at_ : Int) : Cd :=
 c at_ ++ ((19, at_ + (c at_).length + 1 + (a (at_ + (c at_).length + 1)).length + 1) :: (a (at_ + (c at_).length + 1) ++
   ((18, at_ + (c at_).length + 1 + (a (at_ + (c at_).length + 1)).length + 1 + (b (at_ + (c at_).length + 1 + (a (at_ + (c at_).length + 1)).length + 1)).length) ::
     b (at_ + (c at_).length + 1 + (a (at_ + (c at_).length + 1)).length + 1))))
def whC (c a : Int -> Cd) (at_ : Int) : Cd :=
 c at_ ++ ((19, at_ + (c at_).length + 1 + (a (at_ + (c at_).length + 1)).length + 1) :: (a (at_ + (c at_).length + 1) ++ [(18, at_)]))
def snC (c : Int -> Cd) (i : Int × Int) (at_ : Int) : Cd := c at_ ++ [i]
def binC (o : Bop) (a b : Int -> Cd) : Int -> Cd :=
 match o with
 | .and => brC a b (fun _ => [(1, 0)])
 | .or => brC a (fun _ => [(1, 1)]) b
 | .gt => snC (sq b a) (14, 0)
 | .ge => snC (sq b a) (15, 0)
 | .ne => snC (snC (sq a b) (16, 0)) (17, 0)
 | o => snC (sq a b) (opI o, 0)
def codeE (vs : List ByteArray) : E -> Int -> Cd
 | .int n => fun _ => [(1, n)]
 | .bool n => fun _ => [(1, n)]
 | .var s => fun _ => [(2, ixI vs s)]
 | .name s => fun _ => [(nameI s, 0)]
 | .field _ s e => snC (codeE vs e) (4, fieldI s)
 | .un _ neg e => snC (codeE vs e) (if neg then 13 else 17, 0)
 | .bin _ o a b => binC o (codeE vs a) (codeE vs b)
def codeS (vs : List ByteArray) : Ss -> Int -> Cd
 | .nil => fun _ => []
 | .assign _ s e r => sq (snC (codeE vs e) (3, ixI vs s)) (codeS vs r)
 | .store _ s a b r => sq (snC (sq (codeE vs a) (codeE vs b)) (5, fieldI s)) (codeS vs r)
 | .effect _ a b r => sq (snC (sq (codeE vs a) (codeE vs b)) (20, 0)) (codeS vs r)
 | .stop r => sq (fun _ => [(21, 0)]) (codeS vs r)
 | .cond false _ c (.block _ x (.block _ y .nil)) r => sq (brC (codeE vs c) (codeS vs x) (codeS vs y)) (codeS vs r)
 | .cond true _ c (.block _ x .nil) r => sq (whC (codeE vs c) (codeS vs x)) (codeS vs r)
 | _ => fun _ => []
def Ln (C : Int -> Cd) (n : Nat) : Prop := ∀ p, (C p).length = n
theorem ln_sq {a b : Int -> Cd} {n m : Nat} (ha : Ln a n) (hb : Ln b m) : Ln (sq a b) (n + m) := fun p => by simp [sq, ha p, hb _]
theorem ln_sn {c : Int -> Cd} {i : Int × Int} {n : Nat} (h : Ln c n) : Ln (snC c i) (n + 1) := fun p => by simp [snC, h p]
theorem ln_br {c a b : Int -> Cd} {n m k : Nat} (hc : Ln c n) (ha : Ln a m) (hb : Ln b k) : Ln (brC c a b) (n + m + k + 2) := fun p => by simp [brC, hc p, ha _, hb _]; omega
theorem ln_wh {c a : Int -> Cd} {n m : Nat} (hc : Ln c n) (ha : Ln a m) : Ln (whC c a) (n + m + 2) := fun p => by simp [whC, hc p, ha _]; omega
theorem ln_bin {o : Bop} {a b : Int -> Cd} {n m : Nat} (ha : Ln a n) (hb : Ln b m) : ∃ k, Ln (binC o a b) k /\ n + m + 1 <= k /\ k <= n + m + 3 /\ 0 < k := by
 cases o
 case and =>
   have h1 : Ln (fun _ => [((1 : Int), (0 : Int))]) 1 := fun _ => rfl
   exact ⟨_, ln_br ha hb h1, by omega, by omega, by omega⟩
 case or =>
   have h1 : Ln (fun _ => [((1 : Int), (1 : Int))]) 1 := fun _ => rfl
   exact ⟨_, ln_br ha h1 hb, by omega, by omega, by omega⟩
 case gt => exact ⟨_, ln_sn (ln_sq hb ha), by omega, by omega, by omega⟩
 case ge => exact ⟨_, ln_sn (ln_sq hb ha), by omega, by omega, by omega⟩
 case ne => exact ⟨_, ln_sn (ln_sn (ln_sq ha hb)), by omega, by omega, by omega⟩
 all_goals exact ⟨_, ln_sn (ln_sq ha hb), by omega, by omega, by omega⟩
theorem ln_E (vs : List ByteArray) : ∀ e : E, ∃ n, Ln (codeE vs e) n /\ 0 < n /\ n <= 4 * e.size
 | .int _ => ⟨1, fun _ => rfl, by omega, by simp⟩
 | .bool _ => ⟨1, fun _ => rfl, by omega, by simp⟩
 | .var _ => ⟨1, fun _ => rfl, by omega, by simp⟩
 | .name _ => ⟨1, fun _ => rfl, by omega, by simp⟩
 | .field _ s e => by
   obtain ⟨n, h, h0, h1⟩ := ln_E vs e
   exact ⟨n + 1, ln_sn h, by omega, by simp; omega⟩
 | .un _ neg e => by
   obtain ⟨n, h, h0, h1⟩ := ln_E vs e
   exact ⟨n + 1, ln_sn h, by omega, by simp; omega⟩
 | .bin _ o a b => by
   obtain ⟨n, h, h0, h1⟩ := ln_E vs a
   obtain ⟨m, g, g0, g1⟩ := ln_E vs b
   obtain ⟨k, k1, k2, k3, k4⟩ := ln_bin (o := o) h g
   exact ⟨k, k1, k4, by simp; omega⟩
theorem ln_S (vs : List ByteArray) (b : Ss) : ∃ n, Ln (codeS vs b) n /\ n <= 4 * b.fo.size := by
 fun_induction codeS vs b with
 | case1 => exact ⟨0, fun _ => rfl, by omega⟩
 | case2 _ s e r ih =>
   obtain ⟨n, h, h0, h1⟩ := ln_E vs e
   obtain ⟨m, g, g1⟩ := ih
   exact ⟨_, ln_sq (ln_sn h) g, by simp only [Ss.fo, fo_size_cons, fo_size, fo_size_nil]; omega⟩
 | case3 _ s a b r ih =>
   obtain ⟨n, h, h0, h1⟩ := ln_E vs a
   obtain ⟨n', h', h0', h1'⟩ := ln_E vs b
   obtain ⟨m, g, g1⟩ := ih
   exact ⟨_, ln_sq (ln_sn (ln_sq h h')) g, by simp only [Ss.fo, fo_size_cons, fo_size, fo_size_nil]; omega⟩
 | case4 _ a b r ih =>
   obtain ⟨n, h, h0, h1⟩ := ln_E vs a
   obtain ⟨n', h', h0', h1'⟩ := ln_E vs b
   obtain ⟨m, g, g1⟩ := ih
   exact ⟨_, ln_sq (ln_sn (ln_sq h h')) g, by simp only [Ss.fo, fo_size_cons, fo_size, fo_size_nil]; omega⟩
 | case5 r ih =>
   obtain ⟨m, g, g1⟩ := ih
   exact ⟨_, ln_sq (n := 1) (fun _ => rfl) g, by simp only [Ss.fo, fo_size_cons, fo_size_nil]; omega⟩
 | case6 _ c _ x _ y r ih1 ih2 ih3 =>
   obtain ⟨n, h, h0, h1⟩ := ln_E vs c
   obtain ⟨m1, g1, k1⟩ := ih1
   obtain ⟨m2, g2, k2⟩ := ih2
   obtain ⟨m3, g3, k3⟩ := ih3
   exact ⟨_, ln_sq (ln_br h g1 g2) g3, by simp only [Ss.fo, fo_size_cons, fo_size, fo_size_nil]; omega⟩
 | case7 _ c _ x r ih1 ih2 =>
   obtain ⟨n, h, h0, h1⟩ := ln_E vs c
   obtain ⟨m1, g1, k1⟩ := ih1
   obtain ⟨m2, g2, k2⟩ := ih2
   exact ⟨_, ln_sq (ln_wh h g1) g2, by simp only [Ss.fo, fo_size_cons, fo_size, fo_size_nil]; omega⟩
 | case8 => exact ⟨0, fun _ => rfl, by omega⟩
end Go.Pm
end SCa
section SCb
namespace Go.Pm
open F Gr
theorem at_strD (l : List ByteArray) (i : Nat) (h : i < l.length) : sliceAddr 1 (.dat (strD l)) (i : Int) = some (.dat (.imm (strC l) i)) := by
 cases l with
 | nil => simp at h
 | cons s l => simp only [List.length_cons] at h; simp [strD, sliceAddr]; omega
def ixR : List ByteArray -> ByteArray -> Nat -> Int
 | [], _, _ => -1
 | x :: l, s, i => if x = s then (i : Int) else ixR l s (i + 1)
theorem ixR_eq (l : List ByteArray) (s : ByteArray) (i : Nat) : ixR l s i = if ixI l s < 0 then -1 else ixI l s + i := by
 induction l generalizing i with
 | nil => simp [ixR, ixI]
 | cons x l ih =>
   simp only [ixR, ixI]
   by_cases h : x = s
   · simp [h]
   · simp only [if_neg h, ih]
     by_cases h2 : ixI l s < 0
     · simp [h2]
     · simp only [if_neg h2]
       rw [if_neg (by omega)]
       omega
theorem ixI_rng (l : List ByteArray) (s : ByteArray) : -1 <= ixI l s /\ ixI l s < l.length := by
 induction l with
 | nil => simp [ixI]
 | cons x l ih =>
   simp only [ixI, List.length_cons]
   split
   · omega
   · split <;> omega
def ixOut (v : D) (s : ByteArray) (n : Nat) (r : Int) : Option Res :=
 some (if r < 0 then .out (.exit 0) [(0, .dat v), (1, .str s), (5, .int n), (9, .bool false)] [] else .out .ret [(4, .int r)] [])
theorem ix_loop {vs : List ByteArray} (hl : vs.length < 2^40) (s : ByteArray) : ∀ (n i : Nat), i + n = vs.length ->
   Z base15 (.loop 0 F156l0 [(0, .dat (strD vs)), (1, .str s), (5, .int i)] []) = ixOut (strD vs) s vs.length (ixR (vs.drop i) s i)
 | 0, i, hn => by
   obtain rfl : i = vs.length := by omega
   rw [Z_loop_eq, List.drop_length]
   simp [loopStep, run_F156l0, ixOut, ixR]
 | n + 1, i, hn => by
   have ih := ix_loop hl s n (i + 1) (by omega)
   have hi : i < vs.length := by omega
   have hc := cut_strC vs i hi
   have ha := at_strD vs i hi
   have w1 := wrap64 ((i : Int) + 1) (by omega)
   have hi' : (i : Int) < vs.length := by omega
   rw [List.drop_eq_getElem_cons hi, ixR, Z_loop_eq]
   by_cases he : vs[i] = s
   · have he' := (eqS_iff vs[i] s).trans (decide_eq_true he)
     rw [if_pos he]
     have hn0 : ¬ (i : Int) < 0 := by omega
     simp [loopStep, run_F156l0, ixOut, hi, hc, ha, he', hn0]
   · have he' := (eqS_iff vs[i] s).trans (decide_eq_false he)
     rw [if_neg he, <- ih]
     simp [loopStep, run_F156l0, hi, hc, ha, he', w1]
theorem index_Z {vs : List ByteArray} (hl : vs.length < 2^40) (s : ByteArray) : Z base15 (.call 156 [.dat (strD vs), .str s] []) = some (.ret (.int (ixI vs s)) []) := by
 have h := ix_loop hl s vs.length 0 (by omega)
 have r := ixI_rng vs s
 rw [List.drop_zero, ixR_eq] at h
 have e : (if ixI vs s < 0 then -1 else ixI vs s + ((0 : Nat) : Int)) = ixI vs s := by split <;> omega
 rw [e] at h
 refine Z_call (pf := F156) rfl rfl ?_
 simp only [ixOut, show ((0 : Nat) : Int) = 0 from rfl] at h
 by_cases hs : ixI vs s < 0
 · have h1 : ixI vs s = -1 := by omega
   have w : IntKind.i64.wrap (-1) = -1 := rfl
   simp [hs] at h
   simp [F156, h, h1]
 · simp [hs] at h
   simp [F156, h]
theorem fi_loop (s : ByteArray) : ∀ (n i : Nat), i + n = 8 ->
   Z base15 (.loop 0 F161l0 [(0, .str s), (3, .dat (.sl (strC fieldNs) 8 true)), (4, .int i)] []) = some (if ixR (fieldNs.drop i) s i < 0 then .out (.exit 0) [(0, .str s), (3, .dat (.sl (strC fieldNs) 8 true)), (4, .int 8), (7, .bool false)] [] else .out .ret [(2, .int (ixR (fieldNs.drop i) s i))] [])
 | 0, i, hn => by
   obtain rfl : i = 8 := by omega
   rw [Z_loop_eq, show fieldNs.drop 8 = [] from rfl]
   simp [loopStep, run_F161l0, ixR]
 | n + 1, i, hn => by
   have ih := fi_loop s n (i + 1) (by omega)
   have hl : fieldNs.length = 8 := rfl
   have hi : i < fieldNs.length := by omega
   have hc := cut_strC fieldNs i hi
   have ha := at_full (strC fieldNs) 8 true i (by omega) (by omega)
   rw [show ((i : Int)).toNat = i by omega] at ha
   have w1 := wrap64 ((i : Int) + 1) (by omega)
   have hi' : (i : Int) < 8 := by omega
   rw [List.drop_eq_getElem_cons hi, ixR, Z_loop_eq]
   by_cases he : fieldNs[i] = s
   · have he' := (eqS_iff fieldNs[i] s).trans (decide_eq_true he)
     rw [if_pos he]
     have hn0 : ¬ (i : Int) < 0 := by omega
     simp [loopStep, run_F161l0, hi', hc, ha, he', hn0]
   · have he' := (eqS_iff fieldNs[i] s).trans (decide_eq_false he)
     rw [if_neg he, <- ih]
     simp [loopStep, run_F161l0, hi', hc, ha, he', w1]
theorem field_Z (s : ByteArray) : Z base15 (.call 161 [.str s] []) = some (.ret (.int (fieldI s)) []) := by
 have h := fi_loop s 8 0 (by omega)
 have r := ixI_rng fieldNs s
 rw [List.drop_zero, ixR_eq] at h
 have e : (if ixI fieldNs s < 0 then -1 else ixI fieldNs s + ((0 : Nat) : Int)) = fieldI s := by unfold fieldI; split <;> omega
 rw [e] at h
 refine Z_call (pf := F161) rfl rfl ?_
 simp only [fieldNs, strC, List.map, show ((0 : Nat) : Int) = 0 from rfl] at h
 by_cases hs : fieldI s < 0
 · have h1 : fieldI s = -1 := by unfold fieldI at *; omega
   simp [hs] at h
   simp [F161, h, h1]
 · simp [hs] at h
   simp [F161, h]
theorem name_Z (s : ByteArray) : Z base15 (.call 157 [.str s] []) = some (.ret (.int (nameI s)) []) := by
 refine Z_call (pf := F157) rfl rfl ?_
 unfold nameI
 by_cases h1 : s = ⟨#[115, 101, 108, 102]⟩
 · have e1 := (eqS_iff s ⟨#[115, 101, 108, 102]⟩).trans (decide_eq_true h1)
   rw [if_pos h1]
   simp [F157, e1]
 · have e1 := (eqS_iff s ⟨#[115, 101, 108, 102]⟩).trans (decide_eq_false h1)
   rw [if_neg h1]
   by_cases h2 : s = ⟨#[111, 116, 104, 101, 114]⟩
   · have e2 := (eqS_iff s ⟨#[111, 116, 104, 101, 114]⟩).trans (decide_eq_true h2)
     rw [if_pos h2]
     simp [F157, e1, e2]
   · have e2 := (eqS_iff s ⟨#[111, 116, 104, 101, 114]⟩).trans (decide_eq_false h2)
     rw [if_neg h2]
     simp [F157, e1, e2]
theorem operator_Z (o : Bop) (h1 : o ≠ .and) (h2 : o ≠ .or) : Z base15 (.call 174 [.str o.str] []) = some (.ret (.int (opI o)) []) := by
 cases o <;> first | exact absurd rfl h1 | exact absurd rfl h2 | exact Z_of (n := 2) (by kernel_rfl)
end Go.Pm
end SCb
section SCc
namespace Go.Pm
open F Gr
inductive CodeV : V -> S -> Cd -> Prop
 | lit (c : Cd) (h : c ≠ []) : CodeV (.dat (.sl (icC c) c.length true)) [] c
 | gr (c : Cd) (h : c ≠ []) : CodeV (.gsl (icC c) c.length 2 0) [.tip (icC c).length] c
def NodeOK (vs : List ByteArray) (x : V) (C : Int -> Cd) (L : Nat) : Prop := Ln C L /\ 0 < L /\
 ∀ p : Int, 0 <= p -> p + 4 * L < 2^40 -> ∃ v σ, CodeV v σ (C p) /\ Z base15 (.call 135 [x, .dat (strD vs), .int p] []) = some (.ret v σ)
inductive RowOK (vs : List ByteArray) : List D -> List (Int -> Cd) -> Nat -> Prop
 | nil : RowOK vs [] [] 0
 | cons {a b c d : D} {C : Int -> Cd} {L : Nat} {r : List D} {Cs : List (Int -> Cd)} {M : Nat} (h : NodeOK vs (.dat (.agg [a, b, c, d])) C L) (hr : RowOK vs r Cs M) : RowOK vs (a :: b :: c :: d :: r) (C :: Cs) (L + M)
def seqC : List (Int -> Cd) -> Int -> Cd
 | [], _ => []
 | C :: r, p => C p ++ seqC r (p + (C p).length)
theorem ln_seq {vs : List ByteArray} {r : List D} {Cs : List (Int -> Cd)} {M : Nat} (h : RowOK vs r Cs M) : Ln (seqC Cs) M := by
 induction h with
 | nil => exact fun _ => rfl
 | cons h _ ih => exact fun p => by simp [seqC, h.1 p, ih _]
inductive OutV : V -> S -> Cd -> Prop
 | nil : OutV (.dat (.lit (.slice none 0 0))) [] []
 | gr (c : Cd) (h : c ≠ []) : OutV (.gsl (icC c) c.length 2 0) [.tip (icC c).length] c
theorem icC_cons (a b : Int) (c : Cd) : icC ((a, b) :: c) = .lit (.int .i64 a) :: .lit (.int .i64 b) :: icC c := rfl
theorem icC_nil : icC [] = [] := rfl
theorem at_kd {f : Bool} {n : Nat} {cs : List D} {i : Int} (h0 : 0 <= i) (h1 : i < n) : sliceAddr 4 (.dat (kd f n cs)) i = some (.dat (.imm cs (i.toNat * 4))) := by
 cases n with
 | zero => simp at h1; omega
 | succ n => simp only [kd_s]; simp [sliceAddr, h0]; omega
theorem room16 {n : Nat} (h : n < 2^40) : roomFor n 16 = true := by simp only [roomFor, decide_eq_true_eq]; omega
set_option maxHeartbeats 1000000
section
variable {vs : List ByteArray} {f : Bool} {N : Nat} {cs : List D} {p : Int}
def sqFr (vs : List ByteArray) (f : Bool) (N : Nat) (cs : List D) (p : Int) (v : V) (i : Nat) : Fr := [(0, .dat (kd f N cs)), (1, .dat (strD vs)), (2, .int p), (7, v), (8, .int i)]
theorem sq_end {v : V} {σ : S} {c : Cd} (h : OutV v σ c) : Z base15 (.loop 0 F160l0 (sqFr vs f N cs p v N) σ) = some (.out (.exit 0) (sqFr vs f N cs p v N ++ [(12, .bool false)]) σ) := by
 rw [Z_loop_eq]
 cases h <;> simp [loopStep, run_F160l0, sqFr]
theorem sq_step {v : V} {σ : S} {c : Cd} (h : OutV v σ c) {i : Nat} (hi : i < N) (hN : N < 2^40) {a b c1 d : D} {r : List D} (hc : cs.drop (i * 4) = a :: b :: c1 :: d :: r) {C : Int -> Cd} {L : Nat} (hn : NodeOK vs (.dat (.agg [a, b, c1, d])) C L)
   (hp : 0 <= p) (hb : p + c.length + 4 * L < 2^40) : ∃ v' σ', OutV v' σ' (c ++ C (p + c.length)) /\ Z base15 (.loop 0 F160l0 (sqFr vs f N cs p v i) σ) = Z base15 (.loop 0 F160l0 (sqFr vs f N cs p v' (i + 1)) σ') := by
 have h4 := cut4 hc
 have w1 := wrap64 ((i : Int) + 1) (by omega)
 have hi' : (i : Int) < N := by omega
 have hat := at_kd (f := f) (cs := cs) (i := i) (by omega) hi'
 rw [show ((i : Int)).toNat = i by omega] at hat
 obtain ⟨w, τ, hw, hz⟩ := hn.2.2 (p + c.length) (by omega) (by omega)
 have hl := hn.1 (p + c.length)
 have h0 := hn.2.1
 have w2 := wrap64 (p + c.length) (by omega)
 refine ⟨_, _, .gr _ (by intro e; have e' := (List.append_eq_nil_iff.1 e).2; rw [e'] at hl; simp only [List.length_nil] at hl; omega), ?_⟩
 generalize hx : C (p + c.length) = x at hw hl ⊢
 have hxl : ¬ x.length = 0 := by omega
 have hx0 : ¬ x = [] := fun e => hxl (by rw [e]; rfl)
 have r1 := room16 (n := x.length) (by omega)
 have r2 := room16 (n := c.length + x.length) (by omega)
 have w3 := wrap64 (p + c.length) (by omega)
 have e1 : p + (((([] : Cd).length) : Nat) : Int) = p := by simp
 have wp := wrap64 p (by omega)
 cases h with
 | nil =>
   rw [e1] at hz
   cases hw with
   | lit =>
     rw [Z_loop_eq]
     simp [loopStep, run_F160l0, sqFr, hi', hat, h4, hz, w1, wp, appendV, srcV, hx0, r1, len_nil, icC_append]
   | gr =>
     rw [Z_loop_eq]
     simp [loopStep, run_F160l0, sqFr, hi', hat, h4, hz, w1, wp, appendV, srcV, hx0, r1, len_nil, icC_append]
     refine Z_loop_cong ?_
     simp [List.range_succ]
 | gr =>
   have e2 : (c.length + x.length) * 2 = c.length * 2 + x.length * 2 := by omega
   cases hw with
   | lit =>
     rw [Z_loop_eq]
     simp [loopStep, run_F160l0, sqFr, hi', hat, h4, hz, w1, w3, appendV, srcV, hx0, r2, len_gsl, icC_append, e2]
   | gr =>
     rw [Z_loop_eq]
     simp [loopStep, run_F160l0, sqFr, hi', hat, h4, hz, w1, w3, appendV, srcV, hx0, r2, len_gsl, icC_append, e2]
     refine Z_loop_cong ?_
     simp [List.range_succ]
end
end Go.Pm
end SCc
section SCd
namespace Go.Pm
open F Gr
set_option maxHeartbeats 1000000
section
variable {vs : List ByteArray} {f : Bool} {N : Nat} {cs : List D} {p : Int}
theorem sq_loop (hN : N < 2^40) (hp : 0 <= p) : ∀ {r : List D} {Cs : List (Int -> Cd)} {M : Nat}, RowOK vs r Cs M -> ∀ (i : Nat), cs.drop (i * 4) = r -> i + Cs.length = N -> ∀ {v : V} {σ : S} {c : Cd}, OutV v σ c -> p + c.length + 4 * M < 2^40 ->
   ∃ v' σ', OutV v' σ' (c ++ seqC Cs (p + c.length)) /\ Z base15 (.loop 0 F160l0 (sqFr vs f N cs p v i) σ) = some (.out (.exit 0) (sqFr vs f N cs p v' N ++ [(12, .bool false)]) σ')
 | _, _, _, .nil, i, hc, hn, v, σ, c, h, hb => by
   simp only [List.length_nil, Nat.add_zero] at hn
   subst hn
   exact ⟨v, σ, by simpa [seqC] using h, sq_end h⟩
 | _, _, _, .cons (C := C) (L := L) (Cs := Cs) (M := M) h1 hr, i, hc, hn, v, σ, c, h, hb => by
   simp only [List.length_cons] at hn
   obtain ⟨v1, σ1, k1, k2⟩ := sq_step (f := f) (N := N) h (by omega : i < N) hN hc h1 hp (by omega)
   have hl := h1.1 (p + c.length)
   obtain ⟨v2, σ2, k3, k4⟩ := sq_loop hN hp hr (i + 1) (drop_next hc) (by omega) k1 (by rw [List.length_append]; omega)
   have e : p + c.length + (C (p + c.length)).length = p + ((c ++ C (p + c.length)).length : Nat) := by rw [List.length_append]; omega
   refine ⟨v2, σ2, by rw [seqC, e, <- List.append_assoc]; exact k3, k2.trans k4⟩
theorem sequence_Z {Cs : List (Int -> Cd)} {M : Nat} (h : RowOK vs cs Cs M) (hN : Cs.length = N) (hN2 : N < 2^40) (hp : 0 <= p) (hb : p + 4 * M < 2^40) :
   ∃ v σ, OutV v σ (seqC Cs p) /\ Z base15 (.call 160 [.dat (kd f N cs), .dat (strD vs), .int p] []) = some (.ret v σ) := by
 obtain ⟨v, σ, h1, h2⟩ := sq_loop (f := f) (cs := cs) hN2 hp h 0 (by simp) (by omega) .nil (by simpa using hb)
 rw [List.nil_append, show p + ((([] : Cd).length : Nat) : Int) = p by simp] at h1
 refine ⟨v, σ, h1, ?_⟩
 refine Z_call (pf := F160) rfl rfl ?_
 simp only [sqFr, show ((0 : Nat) : Int) = 0 from rfl] at h2
 generalize seqC Cs p = c at *
 cases h1 with
 | nil => simp [F160, h2]
 | gr => simp [F160, h2]
inductive AnyV : V -> S -> Cd -> Prop
 | lit (c : Cd) (h : c ≠ []) : AnyV (.dat (.sl (icC c) c.length true)) [] c
 | gr (c : Cd) (h : c ≠ []) : AnyV (.gsl (icC c) c.length 2 0) [.tip (icC c).length] c
 | nil : AnyV (.dat (.lit (.slice none 0 0))) [] []
theorem CodeV.any {v : V} {σ : S} {c : Cd} (h : CodeV v σ c) : AnyV v σ c := by cases h; exact .lit _ ‹_›; exact .gr _ ‹_›
theorem OutV.any {v : V} {σ : S} {c : Cd} (h : OutV v σ c) : AnyV v σ c := by cases h; exact .nil; exact .gr _ ‹_›
def BlkOK (vs : List ByteArray) (x : V) (C : Int -> Cd) (L : Nat) : Prop := Ln C L /\
 ∀ p : Int, 0 <= p -> p + 4 * L < 2^40 -> ∃ v σ, AnyV v σ (C p) /\ Z base15 (.call 135 [x, .dat (strD vs), .int p] []) = some (.ret v σ)
theorem NodeOK.blk {x : V} {C : Int -> Cd} {L : Nat} (h : NodeOK vs x C L) : BlkOK vs x C L :=
 ⟨h.1, fun p h0 h1 => let ⟨v, σ, a, b⟩ := h.2.2 p h0 h1; ⟨v, σ, a.any, b⟩⟩
def AltOK (vs : List ByteArray) (x : V) (n : Int) (C : Int -> Cd) (L : Nat) : Prop := Ln C L /\
 ∀ p : Int, 0 <= p -> p + 4 * L < 2^40 -> ∃ v σ, AnyV v σ (C p) /\ Z base15 (.call 175 [x, .int n, .dat (strD vs), .int p] []) = some (.ret v σ)
theorem alt_const (n : Int) (o : Option Addr) : AltOK vs (.dat (.lit (.slice o 0 0))) n (fun _ => [(1, n)]) 1 :=
 ⟨fun _ => rfl, fun p h0 h1 => ⟨_, _, .lit _ (by simp), by
   refine Z_call (pf := F175) rfl rfl ?_
   simp [F175, V.len, icC]⟩⟩
theorem alt_node {a b c d : D} {C : Int -> Cd} {L : Nat} (g : Bool) (n : Int) (h : BlkOK vs (.dat (.agg [a, b, c, d])) C L) : AltOK vs (.dat (.sl [a, b, c, d] 1 g)) n C L :=
 ⟨h.1, fun p h0 h1 => by
   obtain ⟨v, σ, k1, k2⟩ := h.2 p h0 h1
   refine ⟨v, σ, k1, ?_⟩
   refine Z_call (pf := F175) rfl rfl ?_
   generalize C p = c0 at *
   cases k1 <;> simp [F175, V.len, sliceAddr, cutCells, k2]⟩
theorem branch_Z {k n' : Int} {s : ByteArray} {d x y : D} {n m : Int} {C A B : Int -> Cd} {L La Lb : Nat} (h1 : V.one (.dat d) = true) (h2 : V.cells (.dat d) = [.dat d])
   (hC : NodeOK vs (.dat (.agg [.lit (.int .i64 k), .lit (.int .i64 n'), .lit (.string s), d])) C L) (hA : AltOK vs (.dat x) n A La) (hB : AltOK vs (.dat y) m B Lb) (hp : 0 <= p) (hb : p + 4 * (L + La + Lb : Nat) < 2^40) :
   Z base15 (.call 159 [.dat (.agg [.lit (.int .i64 k), .lit (.int .i64 n'), .lit (.string s), d]), .dat x, .int n, .dat y, .int m, .dat (strD vs), .int p] []) = some (.ret (.gsl (icC (brC C A B p)) (brC C A B p).length 2 0) [.tip (icC (brC C A B p)).length]) := by
 obtain ⟨v1, s1, k1, z1⟩ := hC.2.2 p hp (by omega)
 have l1 := hC.1 p
 have l0 := hC.2.1
 obtain ⟨v2, s2, k2, z2⟩ := hA.2 (p + (C p).length + 1) (by omega) (by omega)
 have l2 := hA.1 (p + (C p).length + 1)
 obtain ⟨v3, s3, k3, z3⟩ := hB.2 (p + (C p).length + 1 + (A (p + (C p).length + 1)).length + 1) (by omega) (by omega)
 have l3 := hB.1 (p + (C p).length + 1 + (A (p + (C p).length + 1)).length + 1)
 unfold brC
 generalize C p = c1 at *
 generalize A (p + c1.length + 1) = c2 at *
 generalize B (p + c1.length + 1 + c2.length + 1) = c3 at *
 have hc1 : ¬ c1.length = 0 := by omega
 have hc0 : ¬ c1 = [] := fun e => hc1 (by rw [e]; rfl)
 have w1 := wrap64 (p + c1.length) (by omega)
 have w2 := wrap64 (p + c1.length + 1) (by omega)
 have w3 := wrap64 (p + c1.length + 1 + c2.length) (by omega)
 have w4 := wrap64 (p + c1.length + 1 + c2.length + 1) (by omega)
 have w5 := wrap64 (p + c1.length + 1 + c2.length + 1 + c3.length) (by omega)
 have r1 := room16 (n := c1.length + 1) (by omega)
 have r2 := room16 (n := c1.length + 1 + c2.length) (by omega)
 have r3 := room16 (n := c1.length + 1 + c2.length + 1) (by omega)
 have r4 := room16 (n := c1.length + 1 + c2.length + 1 + c3.length) (by omega)
 refine Z_call (pf := F159) rfl rfl ?_
 have e1 : (c1.length + 1) * 2 = c1.length * 2 + 2 := by omega
 have e2 : (c1.length + 1 + c2.length) * 2 = c1.length * 2 + (c2.length * 2 + 1 + 1) := by omega
 have e3 : (c1.length + 1 + c2.length + 1) * 2 = c1.length * 2 + (c2.length * 2 + 2 + 1 + 1) := by omega
 cases k1 with
 | lit _ g1 =>
   cases k2 with
   | lit _ g2 =>
     cases k3 with
     | lit _ g3 =>
       simp [F159, g1, g2, g3, hc0, h1, h2, z1, z2, z3, w1, w2, w3, w4, w5, appendV, srcV, r1, r2, r3, r4, e1, e2, e3, len_sl, len_gsl, len_nil, icC_append, icC_cons, icC_nil] <;> omega
     | gr _ g3 =>
       simp [F159, g1, g2, g3, hc0, h1, h2, z1, z2, z3, w1, w2, w3, w4, w5, appendV, srcV, r1, r2, r3, r4, e1, e2, e3, len_sl, len_gsl, len_nil, icC_append, icC_cons, icC_nil] <;> omega
     | nil =>
       simp only [List.length_nil, show ((0 : Nat) : Int) = 0 from rfl, Int.add_zero, Nat.add_zero] at w5 r4
       simp [F159, g1, g2, hc0, h1, h2, z1, z2, z3, w1, w2, w3, w4, w5, appendV, srcV, r1, r2, r3, r4, e1, e2, e3, len_sl, len_gsl, len_nil, icC_append, icC_cons, icC_nil] <;> omega
   | gr _ g2 =>
     cases k3 with
     | lit _ g3 =>
       simp [F159, g1, g2, g3, hc0, h1, h2, z1, z2, z3, w1, w2, w3, w4, w5, appendV, srcV, r1, r2, r3, r4, e1, e2, e3, len_sl, len_gsl, len_nil, icC_append, icC_cons, icC_nil] <;> omega
     | gr _ g3 =>
       simp [F159, g1, g2, g3, hc0, h1, h2, z1, z2, z3, w1, w2, w3, w4, w5, appendV, srcV, r1, r2, r3, r4, e1, e2, e3, len_sl, len_gsl, len_nil, icC_append, icC_cons, icC_nil] <;> omega
     | nil =>
       simp only [List.length_nil, show ((0 : Nat) : Int) = 0 from rfl, Int.add_zero, Nat.add_zero] at w5 r4
       simp [F159, g1, g2, hc0, h1, h2, z1, z2, z3, w1, w2, w3, w4, w5, appendV, srcV, r1, r2, r3, r4, e1, e2, e3, len_sl, len_gsl, len_nil, icC_append, icC_cons, icC_nil] <;> omega
   | nil =>
     simp only [List.length_nil, show ((0 : Nat) : Int) = 0 from rfl, Int.add_zero, Nat.add_zero] at z3 w3 w4 w5 r2 r3 r4 e2 e3
     cases k3 with
     | lit _ g3 =>
       simp [F159, g1, g3, hc0, h1, h2, z1, z2, z3, w1, w2, w3, w4, w5, appendV, srcV, r1, r2, r3, r4, e1, e2, e3, len_sl, len_gsl, len_nil, icC_append, icC_cons, icC_nil] <;> omega
     | gr _ g3 =>
       simp [F159, g1, g3, hc0, h1, h2, z1, z2, z3, w1, w2, w3, w4, w5, appendV, srcV, r1, r2, r3, r4, e1, e2, e3, len_sl, len_gsl, len_nil, icC_append, icC_cons, icC_nil] <;> omega
     | nil =>
       simp only [List.length_nil, show ((0 : Nat) : Int) = 0 from rfl, Int.add_zero, Nat.add_zero] at w5 r4
       simp [F159, g1, hc0, h1, h2, z1, z2, z3, w1, w2, w3, w4, w5, appendV, srcV, r1, r2, r3, r4, e1, e2, e3, len_sl, len_gsl, len_nil, icC_append, icC_cons, icC_nil] <;> omega
 | gr _ g1 =>
   cases k2 with
   | lit _ g2 =>
     cases k3 with
     | lit _ g3 =>
       simp [F159, g1, g2, g3, hc0, h1, h2, z1, z2, z3, w1, w2, w3, w4, w5, appendV, srcV, r1, r2, r3, r4, e1, e2, e3, len_sl, len_gsl, len_nil, icC_append, icC_cons, icC_nil] <;> omega
     | gr _ g3 =>
       simp [F159, g1, g2, g3, hc0, h1, h2, z1, z2, z3, w1, w2, w3, w4, w5, appendV, srcV, r1, r2, r3, r4, e1, e2, e3, len_sl, len_gsl, len_nil, icC_append, icC_cons, icC_nil] <;> omega
     | nil =>
       simp only [List.length_nil, show ((0 : Nat) : Int) = 0 from rfl, Int.add_zero, Nat.add_zero] at w5 r4
       simp [F159, g1, g2, hc0, h1, h2, z1, z2, z3, w1, w2, w3, w4, w5, appendV, srcV, r1, r2, r3, r4, e1, e2, e3, len_sl, len_gsl, len_nil, icC_append, icC_cons, icC_nil] <;> omega
   | gr _ g2 =>
     cases k3 with
     | lit _ g3 =>
       simp [F159, g1, g2, g3, hc0, h1, h2, z1, z2, z3, w1, w2, w3, w4, w5, appendV, srcV, r1, r2, r3, r4, e1, e2, e3, len_sl, len_gsl, len_nil, icC_append, icC_cons, icC_nil] <;> omega
     | gr _ g3 =>
       simp [F159, g1, g2, g3, hc0, h1, h2, z1, z2, z3, w1, w2, w3, w4, w5, appendV, srcV, r1, r2, r3, r4, e1, e2, e3, len_sl, len_gsl, len_nil, icC_append, icC_cons, icC_nil] <;> omega
     | nil =>
       simp only [List.length_nil, show ((0 : Nat) : Int) = 0 from rfl, Int.add_zero, Nat.add_zero] at w5 r4
       simp [F159, g1, g2, hc0, h1, h2, z1, z2, z3, w1, w2, w3, w4, w5, appendV, srcV, r1, r2, r3, r4, e1, e2, e3, len_sl, len_gsl, len_nil, icC_append, icC_cons, icC_nil] <;> omega
   | nil =>
     simp only [List.length_nil, show ((0 : Nat) : Int) = 0 from rfl, Int.add_zero, Nat.add_zero] at z3 w3 w4 w5 r2 r3 r4 e2 e3
     cases k3 with
     | lit _ g3 =>
       simp [F159, g1, g3, hc0, h1, h2, z1, z2, z3, w1, w2, w3, w4, w5, appendV, srcV, r1, r2, r3, r4, e1, e2, e3, len_sl, len_gsl, len_nil, icC_append, icC_cons, icC_nil] <;> omega
     | gr _ g3 =>
       simp [F159, g1, g3, hc0, h1, h2, z1, z2, z3, w1, w2, w3, w4, w5, appendV, srcV, r1, r2, r3, r4, e1, e2, e3, len_sl, len_gsl, len_nil, icC_append, icC_cons, icC_nil] <;> omega
     | nil =>
       simp only [List.length_nil, show ((0 : Nat) : Int) = 0 from rfl, Int.add_zero, Nat.add_zero] at w5 r4
       simp [F159, g1, hc0, h1, h2, z1, z2, z3, w1, w2, w3, w4, w5, appendV, srcV, r1, r2, r3, r4, e1, e2, e3, len_sl, len_gsl, len_nil, icC_append, icC_cons, icC_nil] <;> omega
end
end Go.Pm
end SCd
section SCe
namespace Go.Pm
open F Gr
set_option maxHeartbeats 1000000
theorem CodeV.of_out {v : V} {σ : S} {c : Cd} (h : OutV v σ c) (h0 : c.length ≠ 0) : v = .gsl (icC c) c.length 2 0 /\ σ = [.tip (icC c).length] := by
 cases h with
 | nil => simp at h0
 | gr => exact ⟨rfl, rfl⟩
def isAnd : Bop -> Bool | .and => true | _ => false
def isOr : Bop -> Bool | .or => true | _ => false
def isGt : Bop -> Bool | .gt => true | _ => false
def isGe : Bop -> Bool | .ge => true | _ => false
def isNe : Bop -> Bool | .ne => true | _ => false
theorem os_and (o : Bop) : eqS o.str ⟨#[38, 38]⟩ = isAnd o := by cases o <;> kernel_rfl
theorem os_or (o : Bop) : eqS o.str ⟨#[124, 124]⟩ = isOr o := by cases o <;> kernel_rfl
theorem os_gt (o : Bop) : eqS o.str ⟨#[62]⟩ = isGt o := by cases o <;> kernel_rfl
theorem os_ge (o : Bop) : eqS o.str ⟨#[62, 61]⟩ = isGe o := by cases o <;> kernel_rfl
theorem os_ne (o : Bop) : eqS o.str ⟨#[33, 61]⟩ = isNe o := by cases o <;> kernel_rfl
section
variable {vs : List ByteArray} {a b : E} {A B : Int -> Cd} {La Lb : Nat}
theorem seq2_Z (ha : NodeOK vs a.node A La) (hb : NodeOK vs b.node B Lb) {p : Int} (hp : 0 <= p) (hq : p + 4 * (La + Lb : Nat) < 2^40) :
   Z base15 (.call 160 [.dat (.sl [.lit (.int .i64 a.kind), .lit (.int .i64 a.num), .lit (.string a.str), a.kids, .lit (.int .i64 b.kind), .lit (.int .i64 b.num), .lit (.string b.str), b.kids] 2 true), .dat (strD vs), .int p] []) =
     some (.ret (.gsl (icC (sq A B p)) (sq A B p).length 2 0) [.tip (icC (sq A B p)).length]) := by
 obtain ⟨v, σ, h1, h2⟩ := sequence_Z (f := true) (N := 2) (RowOK.cons ha (RowOK.cons hb .nil)) rfl (by omega) hp (by omega)
 have e : seqC [A, B] p = sq A B p := by simp [seqC, sq]
 rw [e] at h1
 obtain ⟨rfl, rfl⟩ := CodeV.of_out h1 (by simp only [sq, List.length_append, ha.1 p]; have := ha.2.1; omega)
 exact h2
theorem binary_Z (f : Bool) (o : Bop) (ha : NodeOK vs a.node A La) (hb : NodeOK vs b.node B Lb) {p : Int} (hp : 0 <= p) (hq : p + 4 * (La + Lb + 1 : Nat) < 2^40) :
   Z base15 (.call 158 [(E.bin f o a b).node, .dat (strD vs), .int p] []) = some (.ret (.gsl (icC (binC o A B p)) (binC o A B p).length 2 0) [.tip (icC (binC o A B p)).length]) := by
 have s1 := os_and o
 have s2 := os_or o
 have s3 := os_gt o
 have s4 := os_ge o
 have s5 := os_ne o
 have la := ha.1
 have lb := hb.1
 by_cases h1 : isAnd o = true
 · obtain rfl : o = .and := by cases o <;> first | rfl | cases h1
   have z := branch_Z (vs := vs) (k := a.kind) (n' := a.num) (s := a.str) (d := a.kids) (x := .sl [.lit (.int .i64 b.kind), .lit (.int .i64 b.num), .lit (.string b.str), b.kids] 1 false) (y := .lit (.slice none 0 0)) (n := 0) (m := 0) (by simp) (by simp) ha (alt_node false 0 hb.blk) (alt_const 0 none) hp (by omega)
   simp only [binC]
   refine Z_call (pf := F158) rfl rfl ?_
   simp [F158, s1, isAnd, sliceV, bound, sliceAddr, cutCells, z]
 simp only [Bool.not_eq_true] at h1
 by_cases h2 : isOr o = true
 · obtain rfl : o = .or := by cases o <;> first | rfl | cases h2
   have z := branch_Z (vs := vs) (k := a.kind) (n' := a.num) (s := a.str) (d := a.kids) (y := .sl [.lit (.int .i64 b.kind), .lit (.int .i64 b.num), .lit (.string b.str), b.kids] 1 false) (x := .lit (.slice none 0 0)) (n := 1) (m := 0) (by simp) (by simp) ha (alt_const 1 none) (alt_node false 0 hb.blk) hp (by omega)
   simp only [binC]
   refine Z_call (pf := F158) rfl rfl ?_
   simp [F158, s1, s2, isAnd, isOr, sliceV, bound, sliceAddr, cutCells, z]
 simp only [Bool.not_eq_true] at h2
 have zo := operator_Z o (fun e => by rw [e] at h1; cases h1) (fun e => by rw [e] at h2; cases h2)
 have l1 : (sq A B p).length = La + Lb := by simp [sq, la p, lb _]
 have l2 : (sq B A p).length = La + Lb := by simp [sq, la _, lb p]; omega
 have r1 := room16 (n := La + Lb + 1) (by omega)
 have e1 : (La + Lb + 1) * 2 = (La + Lb) * 2 + 2 := by omega
 have r2 := room16 (n := La + Lb + 1 + 1) (by omega)
 by_cases h3 : isGt o = true
 · obtain rfl : o = .gt := by cases o <;> first | rfl | cases h3
   have z := seq2_Z hb ha hp (by omega)
   simp only [binC, snC]
   refine Z_call (pf := F158) rfl rfl ?_
   generalize sq B A p = c at *
   simp [F158, s1, s2, s3, s5, h1, h2, h3, isNe, isAnd, isOr, isGt, sliceV, bound, sliceAddr, cutCells, z, zo, opI, appendV, srcV, l2, r1, icC_append, icC_cons, icC_nil] <;> omega
 simp only [Bool.not_eq_true] at h3
 by_cases h4 : isGe o = true
 · obtain rfl : o = .ge := by cases o <;> first | rfl | cases h4
   have z := seq2_Z hb ha hp (by omega)
   simp only [binC, snC]
   refine Z_call (pf := F158) rfl rfl ?_
   generalize sq B A p = c at *
   simp [F158, s1, s2, s3, s4, s5, h1, h2, h3, isNe, isGe, isAnd, isOr, isGt, sliceV, bound, sliceAddr, cutCells, z, zo, opI, appendV, srcV, l2, r1, icC_append, icC_cons, icC_nil] <;> omega
 simp only [Bool.not_eq_true] at h4
 have z := seq2_Z ha hb hp (by omega)
 by_cases h5 : isNe o = true
 · obtain rfl : o = .ne := by cases o <;> first | rfl | cases h5
   simp only [binC, snC]
   refine Z_call (pf := F158) rfl rfl ?_
   generalize sq A B p = c at *
   simp [F158, s1, s2, s3, s4, s5, h1, h2, h3, isNe, isGe, isAnd, isOr, isGt, sliceV, bound, sliceAddr, cutCells, z, zo, opI, appendV, srcV, l1, r1, r2, e1, icC_append, icC_cons, icC_nil] <;> omega
 simp only [Bool.not_eq_true] at h5
 have e : binC o A B = snC (sq A B) (opI o, 0) := by cases o <;> first | rfl | exact absurd h1 (by decide) | exact absurd h2 (by decide) | exact absurd h3 (by decide) | exact absurd h4 (by decide) | exact absurd h5 (by decide)
 rw [e]
 simp only [snC]
 refine Z_call (pf := F158) rfl rfl ?_
 generalize sq A B p = c at *
 simp [F158, s1, s2, s3, s4, s5, h1, h2, h3, h4, h5, sliceV, bound, sliceAddr, cutCells, z, zo, appendV, srcV, l1, r1, r2, icC_append, icC_cons, icC_nil] <;> omega
end
end Go.Pm
end SCe
