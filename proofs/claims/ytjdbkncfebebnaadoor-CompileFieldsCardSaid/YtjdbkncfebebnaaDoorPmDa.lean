/- Chapter 15: the program's translator: emit, opcodes, fields. Chapter 15: the program's translator: jumps and their targets. Chapter 15: the program's translator: choices. Chapter 15: the program's translator: nodes, kids, function values. Chapter 15: the program's translator: expressions. -/
import Derived.Test.YtjdbkncfebebnaaDoorPmCm
import Derived.Test.YtjdbkncfebebnaaDoorPmE3
set_option linter.unusedSimpArgs false
set_option linter.unusedVariables false
section SDa
namespace Go.Pm
open F Gr
set_option maxHeartbeats 1000000
def icV (c : Cd) : List V := (icC c).map V.dat
theorem icV_len (c : Cd) : (icV c).length = c.length * 2 := by simp [icV]
theorem icV_append (a b : Cd) : icV (a ++ b) = icV a ++ icV b := by simp [icV, icC_append]
theorem icV_one (o n : Int) : icV [(o, n)] = [V.int o, V.int n] := rfl
theorem len_ow2 (σ : S) (l N : Nat) : V.len σ .sl (.own l N 2) = some N := rfl
theorem icV_sn (c : Cd) (o n : Int) : icV c ++ [V.int o, V.int n] = icV (c ++ [(o, n)]) := by rw [icV_append]; rfl
@[simp] theorem icV_locs (c : Cd) : locsL (icV c) = [] := by
 unfold icV
 induction icC c with
 | nil => rfl
 | cons x B ih => simpa using ih
@[simp] theorem icV_ren (r : Nat -> Nat) (c : Cd) : renL r (icV c) = icV c := by
 unfold icV
 induction icC c with
 | nil => rfl
 | cons x B ih => simpa using ih
theorem icV_dat (c : Cd) : allDat (icV c) = some (icC c) := by
 unfold icV
 induction icC c with
 | nil => rfl
 | cons x B ih => simp [allDat, ih]
abbrev cob (e0 e1 e2 : Int) (l n m : Nat) : Ob := .cells [.own l n 2, .mp m, .int e0, .int e1, .int e2]
abbrev cnil (e0 e1 e2 : Int) (m : Nat) : Ob := .cells [.dat (.lit (.slice none 0 0)), .mp m, .int e0, .int e1, .int e2]
abbrev mpo (vs : List ByteArray) : Ob := .map (mapM 0 vs)
abbrev tst1 (vs : List ByteArray) (e0 e1 e2 : Int) (c : Cd) : S := [cob e0 e1 e2 1 c.length 2, .vec (icV c), mpo vs]
abbrev tst0 (vs : List ByteArray) (e0 e1 e2 : Int) : S := [cnil e0 e1 e2 1, mpo vs]
abbrev tst2 (vs : List ByteArray) (e0 e1 e2 : Int) (c : Cd) : S := [cob e0 e1 e2 2 c.length 1, mpo vs, .vec (icV c)]
attribute [local simp] locs_mapM ren_mapM dkey
section
variable {vs : List ByteArray} {e0 e1 e2 : Int}
theorem emit1 (c : Cd) (hc : c.length < 2^30) (o n : Int) : Z base15 (.call 148 [.ptr 0 0, .int o, .int n] (tst1 vs e0 e1 e2 c)) = some (.ret (.int c.length) (tst1 vs e0 e1 e2 (c ++ [(o, n)]))) := by
 have r1 := room16 (n := c.length + 1) (by omega)
 have hl := icV_len c
 have w1 := wrap64 (c.length : Int) (by omega)
 have e : (c.length : Int) + 1 - 1 = c.length := by omega
 refine Z_call (pf := F148) rfl rfl ?_
 simp [F148, r1, hl, w1, len_ow2, icV_sn, icV_len, List.range_succ]
theorem emit0 (o n : Int) : Z base15 (.call 148 [.ptr 0 0, .int o, .int n] (tst0 vs e0 e1 e2)) = some (.ret (.int 0) (tst2 vs e0 e1 e2 [(o, n)])) := by
 have r1 := room16 (n := 1) (by omega)
 have w1 : IntKind.i64.wrap 0 = 0 := rfl
 refine Z_call (pf := F148) rfl rfl ?_
 simp [F148, r1, w1, len_ow2, icV_one, List.range_succ]
end
theorem opcode_Z (o : Bop) (h1 : o ≠ .and) (h2 : o ≠ .or) : Z base15 (.call 187 [.str o.str] []) = some (.ret (.int (opI o)) []) := by
 cases o <;> first | exact absurd rfl h1 | exact absurd rfl h2 | exact Z_of (n := 2) (by kernel_rfl)
theorem lfield_Z {s : ByteArray} (h : s ∈ fieldL) : Z base15 (.call 134 [.str s] []) = some (.ret (.int (fieldI s)) []) := by
 simp only [fieldL, storL, List.cons_append, List.nil_append, List.mem_cons, List.not_mem_nil, or_false] at h
 rcases h with rfl | rfl | rfl | rfl | rfl | rfl | rfl | rfl <;> exact Z_of (n := 2) (by kernel_rfl)
theorem find_ix (s : ByteArray) : ∀ (l : List ByteArray) (i : Nat), s ∈ l -> findE .s (.string s) (mapM i l) = some (some (.int (ixI l s + i)))
 | [], i, h => by cases h
 | x :: l, i, h => by
   by_cases hx : x = s
   · subst hx
     simp [mapM, findE, sameKey, ixI]
   · have hm := (List.mem_cons.1 h).resolve_left fun e => hx e.symm
     have ih := find_ix s l (i + 1) hm
     have hb : (s == x) = false := by rw [bytes_beq]; exact decide_eq_false fun e => hx e.symm
     have h0 := ixI_mem hm
     simp only [mapM, findE, sameKey, hb, ih, ixI, if_neg hx, if_neg (show ¬ ixI l s < 0 by omega)]
     congr 3
     omega
end Go.Pm
end SDa
section SDb
namespace Go.Pm
open F Gr
set_option maxHeartbeats 1000000
attribute [local simp] locs_mapM ren_mapM dkey rkey
theorem icV_setN (c1 c2 : Cd) (o n v : Int) : List.take (c1.length * 2 + 1) (icV (c1 ++ (o, n) :: c2)) ++ V.dat (.lit (.int .i64 v)) :: List.drop (c1.length * 2 + 1 + 1) (icV (c1 ++ (o, n) :: c2)) = icV (c1 ++ (o, v) :: c2) := by
 unfold icV
 have e : ∀ z : Int, icC (c1 ++ (o, z) :: c2) = (icC c1 ++ [.lit (.int .i64 o)]) ++ (.lit (.int .i64 z) :: icC c2) := fun z => by rw [icC_append, List.append_assoc]; rfl
 have l : (icC c1 ++ [D.lit (.int .i64 o)]).length = c1.length * 2 + 1 := by simp [icC_length c1]
 rw [e n, e v, <- List.map_take, <- List.map_drop, <- l, List.take_left, show (icC c1 ++ [D.lit (.int .i64 o)]).length + 1 = (icC c1 ++ [D.lit (.int .i64 o)]).length + 1 from rfl, List.drop_append, List.drop_of_length_le (by omega), show (icC c1 ++ [D.lit (.int .i64 o)]).length + 1 - (icC c1 ++ [D.lit (.int .i64 o)]).length = 1 by omega]
 simp
section
variable {vs : List ByteArray} {e0 e1 e2 : Int}
theorem jump1 (c : Cd) (hc : c.length < 2^30) (o : Int) : Z base15 (.call 201 [.ptr 0 0, .int o] (tst1 vs e0 e1 e2 c)) =
   some (.ret (.fn 204 [] [.ptr 3 0, .ptr 4 0]) (tst1 vs e0 e1 e2 (c ++ [(o, 0)]) ++ [.cells [.ptr 0 0], .cells [.int c.length]])) := by
 have z := emit1 (vs := vs) (e0 := e0) (e1 := e1) (e2 := e2) c hc o 0
 refine Z_call (pf := F201) rfl rfl ?_
 simp [F201, z, List.range_succ]
theorem patch_Z (c1 c2 : Cd) (o x : Int) (hc : (c1 ++ (o, x) :: c2).length < 2^30) :
   Z base15 (.dcall 204 [.dat (.lit .nilIface), .ptr 0 0, .ptr 1 0] [.cells [.ptr 2 0], .cells [.int c1.length], cob e0 e1 e2 3 (c1 ++ (o, x) :: c2).length 4, .vec (icV (c1 ++ (o, x) :: c2)), mpo vs]) =
   some (.ret (.dat (.lit undef)) [.cells [.ptr 2 0], .cells [.int c1.length], cob e0 e1 e2 3 (c1 ++ (o, x) :: c2).length 4, .vec (icV (c1 ++ (o, ((c1 ++ (o, x) :: c2).length : Int)) :: c2)), mpo vs]) := by
 have hs := icV_setN c1 c2 o x (c1 ++ (o, x) :: c2).length
 have hl := icV_len (c1 ++ (o, x) :: c2)
 have hk : c1.length < (c1 ++ (o, x) :: c2).length := by simp
 generalize (c1 ++ (o, x) :: c2) = c at *
 have hk' : (c1.length : Int) < c.length := by omega
 have hle : c1.length * 2 + 1 + 1 <= c.length * 2 := by omega
 refine Z_dcall (pf := F204) rfl ?_
 simp [dcallBody, F204, PC.flat, V.isNilIf, len_ow2, hl, hk, hk', hle, hs, sliceAddr, calm, alone, List.range_succ]
end
end Go.Pm
end SDb
section SDc
namespace Go.Pm
open F Gr
set_option maxHeartbeats 2000000
attribute [local simp] locs_mapM ren_mapM dkey rkey
abbrev nbo (k n : Int) (s : ByteArray) (d : D) : Ob := .cells [.int k, .int n, .str s, .dat d]
structure Clo2 (vs : List ByteArray) (id : Nat) (bn : Ob) (C : Int -> Cd) (L : Nat) : Prop where
 ln : Ln C L
 one : ∀ (e0 e1 e2 : Int) (c : Cd), c ≠ [] -> c.length + 4 * L < 2^30 -> Z base15 (.call id [.ptr 0 0, .ptr 1 0] [.cells [.ptr 2 0], bn, cob e0 e1 e2 3 c.length 4, .vec (icV c), mpo vs]) =
   some (.ret (.tup []) [.cells [.ptr 2 0], bn, cob e0 e1 e2 3 (c ++ C c.length).length 4, .vec (icV (c ++ C c.length)), mpo vs])
structure Clo1 (vs : List ByteArray) (id : Nat) (C : Int -> Cd) (L : Nat) : Prop where
 ln : Ln C L
 one : ∀ (e0 e1 e2 : Int) (c : Cd), c ≠ [] -> c.length + 4 * L < 2^30 -> Z base15 (.call id [.ptr 0 0] [.cells [.ptr 1 0], cob e0 e1 e2 2 c.length 3, .vec (icV c), mpo vs]) =
   some (.ret (.tup []) [.cells [.ptr 1 0], cob e0 e1 e2 2 (c ++ C c.length).length 3, .vec (icV (c ++ C c.length)), mpo vs])
def Clo0 (vs : List ByteArray) (id : Nat) (bn : Ob) (C : Int -> Cd) : Prop := ∀ (e0 e1 e2 : Int), Z base15 (.call id [.ptr 0 0, .ptr 1 0] [.cells [.ptr 2 0], bn, cnil e0 e1 e2 3, mpo vs]) =
   some (.ret (.tup []) [.cells [.ptr 2 0], bn, cob e0 e1 e2 4 (C 0).length 3, mpo vs, .vec (icV (C 0))])
def fstC (A : Int -> Cd) (c : Cd) : Cd := c ++ (19, (c.length : Int) + 1 + (A (c.length + 1)).length + 1) :: (A (c.length + 1) ++ [(18, 0)])
section
variable {vs : List ByteArray} {e0 e1 e2 : Int} {id : Nat} {k n : Int} {s : ByteArray} {d : D} {A : Int -> Cd} {L : Nat}
theorem first2 (h : Clo2 vs id (nbo k n s d) A L) (c : Cd) (hc : c ≠ []) (hl : c.length + 4 * L + 10 < 2^30) :
   Z base15 (.call 200 [.ptr 0 0, .fn id [] [.ptr 1 0, .ptr 2 0]] [cob e0 e1 e2 3 c.length 4, .cells [.ptr 0 0], nbo k n s d, .vec (icV c), mpo vs]) =
     some (.ret (.fn 204 [] [.ptr 5 0, .ptr 6 0]) [cob e0 e1 e2 3 (fstC A c).length 4, .cells [.ptr 0 0], nbo k n s d, .vec (icV (fstC A c)), mpo vs, .cells [.ptr 0 0], .cells [.int ((c.length : Int) + 1 + (A (c.length + 1)).length)]]) := by
 have ha := h.ln (c.length + 1)
 obtain ⟨c1, h1⟩ : ∃ c1, c1 = c ++ [((19 : Int), (0 : Int))] := ⟨_, rfl⟩
 have l1 : c1.length = c.length + 1 := by simp [h1]
 obtain ⟨c2, h2⟩ : ∃ c2, c2 = c1 ++ A c1.length := ⟨_, rfl⟩
 have e1' : ((c1.length : Nat) : Int) = c.length + 1 := by omega
 have l2 : c2.length = c.length + 1 + (A (c.length + 1)).length := by rw [h2, List.length_append, e1', l1]
 obtain ⟨c3, h3⟩ : ∃ c3, c3 = c2 ++ [((18 : Int), (0 : Int))] := ⟨_, rfl⟩
 have l3 : c3.length = c2.length + 1 := by simp [h3]
 have f3 : c3 = c ++ (19, 0) :: (A (c.length + 1) ++ [(18, 0)]) := by rw [h3, h2, h1]; simp
 obtain ⟨c4, h4⟩ : ∃ c4, c4 = fstC A c := ⟨_, rfl⟩
 have f4 : c4 = c ++ (19, (c3.length : Int)) :: (A (c.length + 1) ++ [(18, 0)]) := by rw [h4, fstC, l3, l2]; simp
 have l4 : c4.length = c3.length := by rw [f4, f3]; simp
 have z1 := jump1 (vs := vs) (e0 := e0) (e1 := e1) (e2 := e2) c (by omega) 19
 rw [<- h1] at z1
 have z2 := h.one e0 e1 e2 c1 (by rw [h1]; simp) (by omega)
 rw [<- h2] at z2
 have z3 := jump1 (vs := vs) (e0 := e0) (e1 := e1) (e2 := e2) c2 (by omega) 18
 rw [<- h3] at z3
 have z4 := patch_Z (vs := vs) (e0 := e0) (e1 := e1) (e2 := e2) c (A (c.length + 1) ++ [(18, 0)]) 19 0 (by rw [<- f3]; omega)
 rw [<- f3, <- f4] at z4
 rw [<- h4, show ((c.length : Int) + 1 + (A (c.length + 1)).length) = (c2.length : Int) by omega, l4]
 refine Z_call (pf := F200) rfl rfl ?_
 simp [F200, z1, z2, z3, z4, V.isNilIf, List.range_succ]
theorem first1 (h : Clo1 vs id A L) (c : Cd) (hc : c ≠ []) (hl : c.length + 4 * L + 10 < 2^30) :
   Z base15 (.call 200 [.ptr 0 0, .fn id [] [.ptr 1 0]] [cob e0 e1 e2 2 c.length 3, .cells [.ptr 0 0], .vec (icV c), mpo vs]) =
     some (.ret (.fn 204 [] [.ptr 4 0, .ptr 5 0]) [cob e0 e1 e2 2 (fstC A c).length 3, .cells [.ptr 0 0], .vec (icV (fstC A c)), mpo vs, .cells [.ptr 0 0], .cells [.int ((c.length : Int) + 1 + (A (c.length + 1)).length)]]) := by
 have ha := h.ln (c.length + 1)
 obtain ⟨c1, h1⟩ : ∃ c1, c1 = c ++ [((19 : Int), (0 : Int))] := ⟨_, rfl⟩
 have l1 : c1.length = c.length + 1 := by simp [h1]
 obtain ⟨c2, h2⟩ : ∃ c2, c2 = c1 ++ A c1.length := ⟨_, rfl⟩
 have e1' : ((c1.length : Nat) : Int) = c.length + 1 := by omega
 have l2 : c2.length = c.length + 1 + (A (c.length + 1)).length := by rw [h2, List.length_append, e1', l1]
 obtain ⟨c3, h3⟩ : ∃ c3, c3 = c2 ++ [((18 : Int), (0 : Int))] := ⟨_, rfl⟩
 have l3 : c3.length = c2.length + 1 := by simp [h3]
 have f3 : c3 = c ++ (19, 0) :: (A (c.length + 1) ++ [(18, 0)]) := by rw [h3, h2, h1]; simp
 obtain ⟨c4, h4⟩ : ∃ c4, c4 = fstC A c := ⟨_, rfl⟩
 have f4 : c4 = c ++ (19, (c3.length : Int)) :: (A (c.length + 1) ++ [(18, 0)]) := by rw [h4, fstC, l3, l2]; simp
 have l4 : c4.length = c3.length := by rw [f4, f3]; simp
 have z1 := jump1 (vs := vs) (e0 := e0) (e1 := e1) (e2 := e2) c (by omega) 19
 rw [<- h1] at z1
 have z2 := h.one e0 e1 e2 c1 (by rw [h1]; simp) (by omega)
 rw [<- h2] at z2
 have z3 := jump1 (vs := vs) (e0 := e0) (e1 := e1) (e2 := e2) c2 (by omega) 18
 rw [<- h3] at z3
 have z4 := patch_Z (vs := vs) (e0 := e0) (e1 := e1) (e2 := e2) c (A (c.length + 1) ++ [(18, 0)]) 19 0 (by rw [<- f3]; omega)
 rw [<- f3, <- f4] at z4
 rw [<- h4, show ((c.length : Int) + 1 + (A (c.length + 1)).length) = (c2.length : Int) by omega, l4]
 refine Z_call (pf := F200) rfl rfl ?_
 simp [F200, z1, z2, z3, z4, V.isNilIf, List.range_succ]
end
section
variable {vs : List ByteArray} {e0 e1 e2 : Int} {i1 i2 i3 : Nat} {k n : Int} {s : ByteArray} {d : D} {C A B : Int -> Cd} {L La Lb : Nat}
theorem fst_br (C A B : Int -> Cd) (c : Cd) : fstC A (c ++ C c.length) ++ B (fstC A (c ++ C c.length)).length = (c ++ C c.length ++ (19, ((c ++ C c.length).length : Int) + 1 + (A ((c ++ C c.length).length + 1)).length + 1) :: A ((c ++ C c.length).length + 1)) ++ (18, 0) :: B (fstC A (c ++ C c.length)).length := by
 simp [fstC]
theorem br_eq (C A B : Int -> Cd) (c : Cd) : (c ++ C c.length ++ (19, ((c ++ C c.length).length : Int) + 1 + (A ((c ++ C c.length).length + 1)).length + 1) :: A ((c ++ C c.length).length + 1)) ++ (18, ((fstC A (c ++ C c.length) ++ B (fstC A (c ++ C c.length)).length).length : Int)) :: B (fstC A (c ++ C c.length)).length = c ++ brC C A B c.length := by
 have e : ((fstC A (c ++ C c.length)).length : Int) = c.length + (C c.length).length + 1 + (A (c.length + (C c.length).length + 1)).length + 1 := by
   simp only [fstC, List.length_append, List.length_cons, List.length_nil]
   rw [show ((c.length + (C c.length).length : Nat) : Int) = (c.length : Int) + (C c.length).length by omega]
   omega
 simp only [brC, List.length_append]
 rw [show ((c.length + (C c.length).length : Nat) : Int) = (c.length : Int) + (C c.length).length by omega]
 rw [show (((fstC A (c ++ C c.length)).length + (B (fstC A (c ++ C c.length)).length).length : Nat) : Int) = ((fstC A (c ++ C c.length)).length : Int) + (B (fstC A (c ++ C c.length)).length).length by omega, e]
 simp
theorem choice21_1 (h1 : Clo2 vs i1 (nbo k n s d) C L) (h2 : Clo2 vs i2 (nbo k n s d) A La) (h3 : Clo1 vs i3 B Lb) (c : Cd) (hc : c ≠ []) (hl : c.length + 4 * (L + La + Lb + 2) < 2^30) (hL : 0 < L) :
   Z base15 (.call 180 [.ptr 0 0, .fn i1 [] [.ptr 1 0, .ptr 2 0], .fn i2 [] [.ptr 1 0, .ptr 2 0], .fn i3 [] [.ptr 1 0]] [cob e0 e1 e2 3 c.length 4, .cells [.ptr 0 0], nbo k n s d, .vec (icV c), mpo vs]) = some (.ret (.tup []) [cob e0 e1 e2 3 (c ++ brC C A B c.length).length 4, .cells [.ptr 0 0], nbo k n s d, .vec (icV (c ++ brC C A B c.length)), mpo vs]) := by
 obtain ⟨c0, hc0⟩ : ∃ c0, c0 = c ++ C c.length := ⟨_, rfl⟩
 have z1 := h1.one e0 e1 e2 c hc (by omega)
 rw [<- hc0] at z1
 have l0 : c0.length = c.length + L := by rw [hc0, List.length_append, h1.ln]
 have n0 : c0 ≠ [] := by rw [hc0]; simp [hc]
 have la := h2.ln (c0.length + 1)
 have z2 := first2 (e0 := e0) (e1 := e1) (e2 := e2) h2 c0 n0 (by omega)
 have eb := fst_br C A B c
 have eq := br_eq C A B c
 rw [<- hc0] at eb eq
 have lf : (fstC A c0).length = c0.length + 1 + La + 1 := by simp only [fstC, List.length_append, List.length_cons, List.length_nil, la]; omega
 obtain ⟨c1, h1'⟩ : ∃ c1, c1 = fstC A c0 := ⟨_, rfl⟩
 rw [<- h1'] at z2 eb eq lf
 have z3 := h3.one e0 e1 e2 c1 (by rw [h1', fstC]; simp) (by omega)
 have lb := h3.ln c1.length
 obtain ⟨c2, h2'⟩ : ∃ c2, c2 = c1 ++ B c1.length := ⟨_, rfl⟩
 have l2 : c2.length = c1.length + Lb := by rw [h2', List.length_append, lb]
 rw [<- h2'] at z3 eb eq
 have z4 := patch_Z (vs := vs) (e0 := e0) (e1 := e1) (e2 := e2) (c0 ++ (19, (c0.length : Int) + 1 + (A (c0.length + 1)).length + 1) :: A (c0.length + 1)) (B c1.length) 18 0 (by rw [<- eb]; omega)
 rw [<- eb, eq] at z4
 have l3 : (c ++ brC C A B c.length).length = c2.length := by rw [<- eq, eb]; simp
 have lk : (((c0 ++ (19, (c0.length : Int) + 1 + (A (c0.length + 1)).length + 1) :: A (c0.length + 1)).length : Nat) : Int) = (c0.length : Int) + 1 + (A (c0.length + 1)).length := by simp only [List.length_append, List.length_cons]; omega
 rw [lk] at z4
 generalize c ++ brC C A B c.length = c3 at *
 generalize (c0.length : Int) + 1 + (A (c0.length + 1)).length = at_ at *
 rw [l3]
 refine Z_call (pf := F180) rfl rfl ?_
 simp [F180, z1, z2, z3, z4, V.isNilIf, List.range_succ]
theorem choice21_0 (h1 : Clo2 vs i1 (nbo k n s d) C L) (h0 : Clo0 vs i1 (nbo k n s d) C) (h2 : Clo2 vs i2 (nbo k n s d) A La) (h3 : Clo1 vs i3 B Lb) (hl : 4 * (L + La + Lb + 2) < 2^30) (hL : 0 < L) :
   Z base15 (.call 180 [.ptr 0 0, .fn i1 [] [.ptr 1 0, .ptr 2 0], .fn i2 [] [.ptr 1 0, .ptr 2 0], .fn i3 [] [.ptr 1 0]] [cnil e0 e1 e2 3, .cells [.ptr 0 0], nbo k n s d, mpo vs]) = some (.ret (.tup []) [cob e0 e1 e2 4 (brC C A B 0).length 3, .cells [.ptr 0 0], nbo k n s d, mpo vs, .vec (icV (brC C A B 0))]) := by
 obtain ⟨c, hcn⟩ : ∃ c : Cd, c = [] := ⟨_, rfl⟩
 obtain ⟨c0, hc0⟩ : ∃ c0, c0 = c ++ C c.length := ⟨_, rfl⟩
 have z1 := h0 e0 e1 e2
 rw [show C 0 = c0 by rw [hc0, hcn]; rfl] at z1
 have l0 : c0.length = c.length + L := by rw [hc0, List.length_append, h1.ln]
 have n0 : c0 ≠ [] := fun e => by rw [e] at l0; simp only [List.length_nil] at l0; omega
 have l00 : c.length = 0 := by rw [hcn]; rfl
 rw [show brC C A B 0 = c ++ brC C A B c.length by rw [hcn]; rfl]
 have la := h2.ln (c0.length + 1)
 have z2 := first2 (e0 := e0) (e1 := e1) (e2 := e2) h2 c0 n0 (by omega)
 have eb := fst_br C A B c
 have eq := br_eq C A B c
 rw [<- hc0] at eb eq
 have lf : (fstC A c0).length = c0.length + 1 + La + 1 := by simp only [fstC, List.length_append, List.length_cons, List.length_nil, la]; omega
 obtain ⟨c1, h1'⟩ : ∃ c1, c1 = fstC A c0 := ⟨_, rfl⟩
 rw [<- h1'] at z2 eb eq lf
 have z3 := h3.one e0 e1 e2 c1 (by rw [h1', fstC]; simp) (by omega)
 have lb := h3.ln c1.length
 obtain ⟨c2, h2'⟩ : ∃ c2, c2 = c1 ++ B c1.length := ⟨_, rfl⟩
 have l2 : c2.length = c1.length + Lb := by rw [h2', List.length_append, lb]
 rw [<- h2'] at z3 eb eq
 have z4 := patch_Z (vs := vs) (e0 := e0) (e1 := e1) (e2 := e2) (c0 ++ (19, (c0.length : Int) + 1 + (A (c0.length + 1)).length + 1) :: A (c0.length + 1)) (B c1.length) 18 0 (by rw [<- eb]; omega)
 rw [<- eb, eq] at z4
 have l3 : (c ++ brC C A B c.length).length = c2.length := by rw [<- eq, eb]; simp
 have lk : (((c0 ++ (19, (c0.length : Int) + 1 + (A (c0.length + 1)).length + 1) :: A (c0.length + 1)).length : Nat) : Int) = (c0.length : Int) + 1 + (A (c0.length + 1)).length := by simp only [List.length_append, List.length_cons]; omega
 rw [lk] at z4
 generalize c ++ brC C A B c.length = c3 at *
 generalize (c0.length : Int) + 1 + (A (c0.length + 1)).length = at_ at *
 rw [l3]
 refine Z_call (pf := F180) rfl rfl ?_
 simp [F180, z1, z2, z3, z4, V.isNilIf, List.range_succ]
theorem choice12_1 (h1 : Clo2 vs i1 (nbo k n s d) C L) (h2 : Clo1 vs i2 A La) (h3 : Clo2 vs i3 (nbo k n s d) B Lb) (c : Cd) (hc : c ≠ []) (hl : c.length + 4 * (L + La + Lb + 2) < 2^30) (hL : 0 < L) :
   Z base15 (.call 180 [.ptr 0 0, .fn i1 [] [.ptr 1 0, .ptr 2 0], .fn i2 [] [.ptr 1 0], .fn i3 [] [.ptr 1 0, .ptr 2 0]] [cob e0 e1 e2 3 c.length 4, .cells [.ptr 0 0], nbo k n s d, .vec (icV c), mpo vs]) = some (.ret (.tup []) [cob e0 e1 e2 3 (c ++ brC C A B c.length).length 4, .cells [.ptr 0 0], nbo k n s d, .vec (icV (c ++ brC C A B c.length)), mpo vs]) := by
 obtain ⟨c0, hc0⟩ : ∃ c0, c0 = c ++ C c.length := ⟨_, rfl⟩
 have z1 := h1.one e0 e1 e2 c hc (by omega)
 rw [<- hc0] at z1
 have l0 : c0.length = c.length + L := by rw [hc0, List.length_append, h1.ln]
 have n0 : c0 ≠ [] := by rw [hc0]; simp [hc]
 have la := h2.ln (c0.length + 1)
 have z2 := first1 (e0 := e0) (e1 := e1) (e2 := e2) h2 c0 n0 (by omega)
 have eb := fst_br C A B c
 have eq := br_eq C A B c
 rw [<- hc0] at eb eq
 have lf : (fstC A c0).length = c0.length + 1 + La + 1 := by simp only [fstC, List.length_append, List.length_cons, List.length_nil, la]; omega
 obtain ⟨c1, h1'⟩ : ∃ c1, c1 = fstC A c0 := ⟨_, rfl⟩
 rw [<- h1'] at z2 eb eq lf
 have z3 := h3.one e0 e1 e2 c1 (by rw [h1', fstC]; simp) (by omega)
 have lb := h3.ln c1.length
 obtain ⟨c2, h2'⟩ : ∃ c2, c2 = c1 ++ B c1.length := ⟨_, rfl⟩
 have l2 : c2.length = c1.length + Lb := by rw [h2', List.length_append, lb]
 rw [<- h2'] at z3 eb eq
 have z4 := patch_Z (vs := vs) (e0 := e0) (e1 := e1) (e2 := e2) (c0 ++ (19, (c0.length : Int) + 1 + (A (c0.length + 1)).length + 1) :: A (c0.length + 1)) (B c1.length) 18 0 (by rw [<- eb]; omega)
 rw [<- eb, eq] at z4
 have l3 : (c ++ brC C A B c.length).length = c2.length := by rw [<- eq, eb]; simp
 have lk : (((c0 ++ (19, (c0.length : Int) + 1 + (A (c0.length + 1)).length + 1) :: A (c0.length + 1)).length : Nat) : Int) = (c0.length : Int) + 1 + (A (c0.length + 1)).length := by simp only [List.length_append, List.length_cons]; omega
 rw [lk] at z4
 generalize c ++ brC C A B c.length = c3 at *
 generalize (c0.length : Int) + 1 + (A (c0.length + 1)).length = at_ at *
 rw [l3]
 refine Z_call (pf := F180) rfl rfl ?_
 simp [F180, z1, z2, z3, z4, V.isNilIf, List.range_succ]
theorem choice12_0 (h1 : Clo2 vs i1 (nbo k n s d) C L) (h0 : Clo0 vs i1 (nbo k n s d) C) (h2 : Clo1 vs i2 A La) (h3 : Clo2 vs i3 (nbo k n s d) B Lb) (hl : 4 * (L + La + Lb + 2) < 2^30) (hL : 0 < L) :
   Z base15 (.call 180 [.ptr 0 0, .fn i1 [] [.ptr 1 0, .ptr 2 0], .fn i2 [] [.ptr 1 0], .fn i3 [] [.ptr 1 0, .ptr 2 0]] [cnil e0 e1 e2 3, .cells [.ptr 0 0], nbo k n s d, mpo vs]) = some (.ret (.tup []) [cob e0 e1 e2 4 (brC C A B 0).length 3, .cells [.ptr 0 0], nbo k n s d, mpo vs, .vec (icV (brC C A B 0))]) := by
 obtain ⟨c, hcn⟩ : ∃ c : Cd, c = [] := ⟨_, rfl⟩
 obtain ⟨c0, hc0⟩ : ∃ c0, c0 = c ++ C c.length := ⟨_, rfl⟩
 have z1 := h0 e0 e1 e2
 rw [show C 0 = c0 by rw [hc0, hcn]; rfl] at z1
 have l0 : c0.length = c.length + L := by rw [hc0, List.length_append, h1.ln]
 have n0 : c0 ≠ [] := fun e => by rw [e] at l0; simp only [List.length_nil] at l0; omega
 have l00 : c.length = 0 := by rw [hcn]; rfl
 rw [show brC C A B 0 = c ++ brC C A B c.length by rw [hcn]; rfl]
 have la := h2.ln (c0.length + 1)
 have z2 := first1 (e0 := e0) (e1 := e1) (e2 := e2) h2 c0 n0 (by omega)
 have eb := fst_br C A B c
 have eq := br_eq C A B c
 rw [<- hc0] at eb eq
 have lf : (fstC A c0).length = c0.length + 1 + La + 1 := by simp only [fstC, List.length_append, List.length_cons, List.length_nil, la]; omega
 obtain ⟨c1, h1'⟩ : ∃ c1, c1 = fstC A c0 := ⟨_, rfl⟩
 rw [<- h1'] at z2 eb eq lf
 have z3 := h3.one e0 e1 e2 c1 (by rw [h1', fstC]; simp) (by omega)
 have lb := h3.ln c1.length
 obtain ⟨c2, h2'⟩ : ∃ c2, c2 = c1 ++ B c1.length := ⟨_, rfl⟩
 have l2 : c2.length = c1.length + Lb := by rw [h2', List.length_append, lb]
 rw [<- h2'] at z3 eb eq
 have z4 := patch_Z (vs := vs) (e0 := e0) (e1 := e1) (e2 := e2) (c0 ++ (19, (c0.length : Int) + 1 + (A (c0.length + 1)).length + 1) :: A (c0.length + 1)) (B c1.length) 18 0 (by rw [<- eb]; omega)
 rw [<- eb, eq] at z4
 have l3 : (c ++ brC C A B c.length).length = c2.length := by rw [<- eq, eb]; simp
 have lk : (((c0 ++ (19, (c0.length : Int) + 1 + (A (c0.length + 1)).length + 1) :: A (c0.length + 1)).length : Nat) : Int) = (c0.length : Int) + 1 + (A (c0.length + 1)).length := by simp only [List.length_append, List.length_cons]; omega
 rw [lk] at z4
 generalize c ++ brC C A B c.length = c3 at *
 generalize (c0.length : Int) + 1 + (A (c0.length + 1)).length = at_ at *
 rw [l3]
 refine Z_call (pf := F180) rfl rfl ?_
 simp [F180, z1, z2, z3, z4, V.isNilIf, List.range_succ]
theorem choice22_1 (h1 : Clo2 vs i1 (nbo k n s d) C L) (h2 : Clo2 vs i2 (nbo k n s d) A La) (h3 : Clo2 vs i3 (nbo k n s d) B Lb) (c : Cd) (hc : c ≠ []) (hl : c.length + 4 * (L + La + Lb + 2) < 2^30) (hL : 0 < L) :
   Z base15 (.call 180 [.ptr 0 0, .fn i1 [] [.ptr 1 0, .ptr 2 0], .fn i2 [] [.ptr 1 0, .ptr 2 0], .fn i3 [] [.ptr 1 0, .ptr 2 0]] [cob e0 e1 e2 3 c.length 4, .cells [.ptr 0 0], nbo k n s d, .vec (icV c), mpo vs]) = some (.ret (.tup []) [cob e0 e1 e2 3 (c ++ brC C A B c.length).length 4, .cells [.ptr 0 0], nbo k n s d, .vec (icV (c ++ brC C A B c.length)), mpo vs]) := by
 obtain ⟨c0, hc0⟩ : ∃ c0, c0 = c ++ C c.length := ⟨_, rfl⟩
 have z1 := h1.one e0 e1 e2 c hc (by omega)
 rw [<- hc0] at z1
 have l0 : c0.length = c.length + L := by rw [hc0, List.length_append, h1.ln]
 have n0 : c0 ≠ [] := by rw [hc0]; simp [hc]
 have la := h2.ln (c0.length + 1)
 have z2 := first2 (e0 := e0) (e1 := e1) (e2 := e2) h2 c0 n0 (by omega)
 have eb := fst_br C A B c
 have eq := br_eq C A B c
 rw [<- hc0] at eb eq
 have lf : (fstC A c0).length = c0.length + 1 + La + 1 := by simp only [fstC, List.length_append, List.length_cons, List.length_nil, la]; omega
 obtain ⟨c1, h1'⟩ : ∃ c1, c1 = fstC A c0 := ⟨_, rfl⟩
 rw [<- h1'] at z2 eb eq lf
 have z3 := h3.one e0 e1 e2 c1 (by rw [h1', fstC]; simp) (by omega)
 have lb := h3.ln c1.length
 obtain ⟨c2, h2'⟩ : ∃ c2, c2 = c1 ++ B c1.length := ⟨_, rfl⟩
 have l2 : c2.length = c1.length + Lb := by rw [h2', List.length_append, lb]
 rw [<- h2'] at z3 eb eq
 have z4 := patch_Z (vs := vs) (e0 := e0) (e1 := e1) (e2 := e2) (c0 ++ (19, (c0.length : Int) + 1 + (A (c0.length + 1)).length + 1) :: A (c0.length + 1)) (B c1.length) 18 0 (by rw [<- eb]; omega)
 rw [<- eb, eq] at z4
 have l3 : (c ++ brC C A B c.length).length = c2.length := by rw [<- eq, eb]; simp
 have lk : (((c0 ++ (19, (c0.length : Int) + 1 + (A (c0.length + 1)).length + 1) :: A (c0.length + 1)).length : Nat) : Int) = (c0.length : Int) + 1 + (A (c0.length + 1)).length := by simp only [List.length_append, List.length_cons]; omega
 rw [lk] at z4
 generalize c ++ brC C A B c.length = c3 at *
 generalize (c0.length : Int) + 1 + (A (c0.length + 1)).length = at_ at *
 rw [l3]
 refine Z_call (pf := F180) rfl rfl ?_
 simp [F180, z1, z2, z3, z4, V.isNilIf, List.range_succ]
theorem choice22_0 (h1 : Clo2 vs i1 (nbo k n s d) C L) (h0 : Clo0 vs i1 (nbo k n s d) C) (h2 : Clo2 vs i2 (nbo k n s d) A La) (h3 : Clo2 vs i3 (nbo k n s d) B Lb) (hl : 4 * (L + La + Lb + 2) < 2^30) (hL : 0 < L) :
   Z base15 (.call 180 [.ptr 0 0, .fn i1 [] [.ptr 1 0, .ptr 2 0], .fn i2 [] [.ptr 1 0, .ptr 2 0], .fn i3 [] [.ptr 1 0, .ptr 2 0]] [cnil e0 e1 e2 3, .cells [.ptr 0 0], nbo k n s d, mpo vs]) = some (.ret (.tup []) [cob e0 e1 e2 4 (brC C A B 0).length 3, .cells [.ptr 0 0], nbo k n s d, mpo vs, .vec (icV (brC C A B 0))]) := by
 obtain ⟨c, hcn⟩ : ∃ c : Cd, c = [] := ⟨_, rfl⟩
 obtain ⟨c0, hc0⟩ : ∃ c0, c0 = c ++ C c.length := ⟨_, rfl⟩
 have z1 := h0 e0 e1 e2
 rw [show C 0 = c0 by rw [hc0, hcn]; rfl] at z1
 have l0 : c0.length = c.length + L := by rw [hc0, List.length_append, h1.ln]
 have n0 : c0 ≠ [] := fun e => by rw [e] at l0; simp only [List.length_nil] at l0; omega
 have l00 : c.length = 0 := by rw [hcn]; rfl
 rw [show brC C A B 0 = c ++ brC C A B c.length by rw [hcn]; rfl]
 have la := h2.ln (c0.length + 1)
 have z2 := first2 (e0 := e0) (e1 := e1) (e2 := e2) h2 c0 n0 (by omega)
 have eb := fst_br C A B c
 have eq := br_eq C A B c
 rw [<- hc0] at eb eq
 have lf : (fstC A c0).length = c0.length + 1 + La + 1 := by simp only [fstC, List.length_append, List.length_cons, List.length_nil, la]; omega
 obtain ⟨c1, h1'⟩ : ∃ c1, c1 = fstC A c0 := ⟨_, rfl⟩
 rw [<- h1'] at z2 eb eq lf
 have z3 := h3.one e0 e1 e2 c1 (by rw [h1', fstC]; simp) (by omega)
 have lb := h3.ln c1.length
 obtain ⟨c2, h2'⟩ : ∃ c2, c2 = c1 ++ B c1.length := ⟨_, rfl⟩
 have l2 : c2.length = c1.length + Lb := by rw [h2', List.length_append, lb]
 rw [<- h2'] at z3 eb eq
 have z4 := patch_Z (vs := vs) (e0 := e0) (e1 := e1) (e2 := e2) (c0 ++ (19, (c0.length : Int) + 1 + (A (c0.length + 1)).length + 1) :: A (c0.length + 1)) (B c1.length) 18 0 (by rw [<- eb]; omega)
 rw [<- eb, eq] at z4
 have l3 : (c ++ brC C A B c.length).length = c2.length := by rw [<- eq, eb]; simp
 have lk : (((c0 ++ (19, (c0.length : Int) + 1 + (A (c0.length + 1)).length + 1) :: A (c0.length + 1)).length : Nat) : Int) = (c0.length : Int) + 1 + (A (c0.length + 1)).length := by simp only [List.length_append, List.length_cons]; omega
 rw [lk] at z4
 generalize c ++ brC C A B c.length = c3 at *
 generalize (c0.length : Int) + 1 + (A (c0.length + 1)).length = at_ at *
 rw [l3]
 refine Z_call (pf := F180) rfl rfl ?_
 simp [F180, z1, z2, z3, z4, V.isNilIf, List.range_succ]
end
end Go.Pm
end SDc
section SDd
namespace Go.Pm
open F Gr
set_option maxHeartbeats 2000000
attribute [local simp] locs_mapM ren_mapM dkey rkey
structure TrB (vs : List ByteArray) (x : V) (C : Int -> Cd) (L : Nat) : Prop where
 ln : Ln C L
 one : ∀ (e0 e1 e2 : Int) (c : Cd), c ≠ [] -> c.length + 4 * L < 2^30 -> Z base15 (.call 147 [.ptr 0 0, x] (tst1 vs e0 e1 e2 c)) = some (.ret (.tup []) (tst1 vs e0 e1 e2 (c ++ C c.length)))
structure TrOK (vs : List ByteArray) (x : V) (C : Int -> Cd) (L : Nat) : Prop extends TrB vs x C L where
 pos : 0 < L
 zero : ∀ (e0 e1 e2 : Int), 4 * L < 2^30 -> Z base15 (.call 147 [.ptr 0 0, x] (tst0 vs e0 e1 e2)) = some (.ret (.tup []) (tst2 vs e0 e1 e2 (C 0)))
section
variable {vs : List ByteArray} {e0 e1 e2 : Int} {C : Int -> Cd} {L : Nat} {k n : Int} {s : ByteArray} {f : Bool} {N : Nat} {cs r : List D} {a b c1 d : D} {i : Nat}
theorem at_kd' (h1 : i < N) : sliceAddr 4 (.dat (kd f N cs)) (i : Int) = some (.dat (.imm cs (i * 4))) := by
 have := at_kd (f := f) (n := N) (cs := cs) (i := (i : Int)) (by omega) (by omega)
 simpa using this
theorem kid1 (h : TrB vs (.dat (.agg [a, b, c1, d])) C L) (hd : cs.drop (i * 4) = a :: b :: c1 :: d :: r) (hi : i < N) (c : Cd) (hc : c ≠ []) (hl : c.length + 4 * L < 2^30) :
   Z base15 (.call 165 [.ptr 0 0, .dat (.agg [.lit (.int .i64 k), .lit (.int .i64 n), .lit (.string s), kd f N cs]), .int i] (tst1 vs e0 e1 e2 c)) = some (.ret (.tup []) (tst1 vs e0 e1 e2 (c ++ C c.length))) := by
 have h4 := cut4 hd
 have hi' : (i : Int) < N := by omega
 have z := h.one e0 e1 e2 c hc hl
 have ha := at_kd' (f := f) (cs := cs) hi
 generalize c ++ C c.length = c2 at *
 refine Z_call (pf := F165) rfl rfl ?_
 simp [F165, hi', ha, h4, z, List.range_succ]
theorem kid0 (h : TrOK vs (.dat (.agg [a, b, c1, d])) C L) (hd : cs.drop (i * 4) = a :: b :: c1 :: d :: r) (hi : i < N) (hl : 4 * L < 2^30) :
   Z base15 (.call 165 [.ptr 0 0, .dat (.agg [.lit (.int .i64 k), .lit (.int .i64 n), .lit (.string s), kd f N cs]), .int i] (tst0 vs e0 e1 e2)) = some (.ret (.tup []) (tst2 vs e0 e1 e2 (C 0))) := by
 have h4 := cut4 hd
 have hi' : (i : Int) < N := by omega
 have z := h.zero e0 e1 e2 hl
 have ha := at_kd' (f := f) (cs := cs) hi
 generalize C 0 = c2 at *
 refine Z_call (pf := F165) rfl rfl ?_
 simp [F165, hi', ha, h4, z, List.range_succ]
theorem clo181 (h : TrB vs (.dat (.agg [a, b, c1, d])) C L) (hd : cs.drop (0 * 4) = a :: b :: c1 :: d :: r) (hi : 0 < N) : Clo2 vs 181 (nbo k n s (kd f N cs)) C L where
 ln := h.ln
 one := fun e0 e1 e2 c hc hl => by
   have z := kid1 (e0 := e0) (e1 := e1) (e2 := e2) (k := k) (n := n) (s := s) (f := f) h hd hi c hc hl
   rw [show (((0 : Nat)) : Int) = 0 from rfl] at z
   generalize c ++ C c.length = c2 at *
   refine Z_call (pf := F181) rfl rfl ?_
   simp [F181, z, List.range_succ]
theorem cloz181 (h : TrOK vs (.dat (.agg [a, b, c1, d])) C L) (hd : cs.drop (0 * 4) = a :: b :: c1 :: d :: r) (hi : 0 < N) (hl : 4 * L < 2^30) : Clo0 vs 181 (nbo k n s (kd f N cs)) C := fun e0 e1 e2 => by
 have z := kid0 (e0 := e0) (e1 := e1) (e2 := e2) (k := k) (n := n) (s := s) (f := f) h hd hi hl
 rw [show (((0 : Nat)) : Int) = 0 from rfl] at z
 generalize C 0 = c2 at *
 refine Z_call (pf := F181) rfl rfl ?_
 simp [F181, z, List.range_succ]
theorem clo182 (h : TrB vs (.dat (.agg [a, b, c1, d])) C L) (hd : cs.drop (1 * 4) = a :: b :: c1 :: d :: r) (hi : 1 < N) : Clo2 vs 182 (nbo k n s (kd f N cs)) C L where
 ln := h.ln
 one := fun e0 e1 e2 c hc hl => by
   have z := kid1 (e0 := e0) (e1 := e1) (e2 := e2) (k := k) (n := n) (s := s) (f := f) h hd hi c hc hl
   rw [show (((1 : Nat)) : Int) = 1 from rfl] at z
   generalize c ++ C c.length = c2 at *
   refine Z_call (pf := F182) rfl rfl ?_
   simp [F182, z, List.range_succ]
theorem clo184 (h : TrB vs (.dat (.agg [a, b, c1, d])) C L) (hd : cs.drop (0 * 4) = a :: b :: c1 :: d :: r) (hi : 0 < N) : Clo2 vs 184 (nbo k n s (kd f N cs)) C L where
 ln := h.ln
 one := fun e0 e1 e2 c hc hl => by
   have z := kid1 (e0 := e0) (e1 := e1) (e2 := e2) (k := k) (n := n) (s := s) (f := f) h hd hi c hc hl
   rw [show (((0 : Nat)) : Int) = 0 from rfl] at z
   generalize c ++ C c.length = c2 at *
   refine Z_call (pf := F184) rfl rfl ?_
   simp [F184, z, List.range_succ]
theorem cloz184 (h : TrOK vs (.dat (.agg [a, b, c1, d])) C L) (hd : cs.drop (0 * 4) = a :: b :: c1 :: d :: r) (hi : 0 < N) (hl : 4 * L < 2^30) : Clo0 vs 184 (nbo k n s (kd f N cs)) C := fun e0 e1 e2 => by
 have z := kid0 (e0 := e0) (e1 := e1) (e2 := e2) (k := k) (n := n) (s := s) (f := f) h hd hi hl
 rw [show (((0 : Nat)) : Int) = 0 from rfl] at z
 generalize C 0 = c2 at *
 refine Z_call (pf := F184) rfl rfl ?_
 simp [F184, z, List.range_succ]
theorem clo186 (h : TrB vs (.dat (.agg [a, b, c1, d])) C L) (hd : cs.drop (1 * 4) = a :: b :: c1 :: d :: r) (hi : 1 < N) : Clo2 vs 186 (nbo k n s (kd f N cs)) C L where
 ln := h.ln
 one := fun e0 e1 e2 c hc hl => by
   have z := kid1 (e0 := e0) (e1 := e1) (e2 := e2) (k := k) (n := n) (s := s) (f := f) h hd hi c hc hl
   rw [show (((1 : Nat)) : Int) = 1 from rfl] at z
   generalize c ++ C c.length = c2 at *
   refine Z_call (pf := F186) rfl rfl ?_
   simp [F186, z, List.range_succ]
theorem clo188 (h : TrB vs (.dat (.agg [a, b, c1, d])) C L) (hd : cs.drop (0 * 4) = a :: b :: c1 :: d :: r) (hi : 0 < N) : Clo2 vs 188 (nbo k n s (kd f N cs)) C L where
 ln := h.ln
 one := fun e0 e1 e2 c hc hl => by
   have z := kid1 (e0 := e0) (e1 := e1) (e2 := e2) (k := k) (n := n) (s := s) (f := f) h hd hi c hc hl
   rw [show (((0 : Nat)) : Int) = 0 from rfl] at z
   generalize c ++ C c.length = c2 at *
   refine Z_call (pf := F188) rfl rfl ?_
   simp [F188, z, List.range_succ]
theorem cloz188 (h : TrOK vs (.dat (.agg [a, b, c1, d])) C L) (hd : cs.drop (0 * 4) = a :: b :: c1 :: d :: r) (hi : 0 < N) (hl : 4 * L < 2^30) : Clo0 vs 188 (nbo k n s (kd f N cs)) C := fun e0 e1 e2 => by
 have z := kid0 (e0 := e0) (e1 := e1) (e2 := e2) (k := k) (n := n) (s := s) (f := f) h hd hi hl
 rw [show (((0 : Nat)) : Int) = 0 from rfl] at z
 generalize C 0 = c2 at *
 refine Z_call (pf := F188) rfl rfl ?_
 simp [F188, z, List.range_succ]
theorem clo189 (h : TrB vs (.dat (.agg [a, b, c1, d])) C L) (hd : cs.drop (1 * 4) = a :: b :: c1 :: d :: r) (hi : 1 < N) : Clo2 vs 189 (nbo k n s (kd f N cs)) C L where
 ln := h.ln
 one := fun e0 e1 e2 c hc hl => by
   have z := kid1 (e0 := e0) (e1 := e1) (e2 := e2) (k := k) (n := n) (s := s) (f := f) h hd hi c hc hl
   rw [show (((1 : Nat)) : Int) = 1 from rfl] at z
   generalize c ++ C c.length = c2 at *
   refine Z_call (pf := F189) rfl rfl ?_
   simp [F189, z, List.range_succ]
theorem clo190 (h : TrB vs (.dat (.agg [a, b, c1, d])) C L) (hd : cs.drop (2 * 4) = a :: b :: c1 :: d :: r) (hi : 2 < N) : Clo2 vs 190 (nbo k n s (kd f N cs)) C L where
 ln := h.ln
 one := fun e0 e1 e2 c hc hl => by
   have z := kid1 (e0 := e0) (e1 := e1) (e2 := e2) (k := k) (n := n) (s := s) (f := f) h hd hi c hc hl
   rw [show (((2 : Nat)) : Int) = 2 from rfl] at z
   generalize c ++ C c.length = c2 at *
   refine Z_call (pf := F190) rfl rfl ?_
   simp [F190, z, List.range_succ]
theorem clo183 : Clo1 vs 183 (fun _ => [(1, 0)]) 1 where
 ln := fun _ => rfl
 one := fun e0 e1 e2 c hc hl => by
   have z := emit1 (vs := vs) (e0 := e0) (e1 := e1) (e2 := e2) c (by omega) 1 0
   show Z base15 _ = some (Res.ret (.tup []) [.cells [.ptr 1 0], cob e0 e1 e2 2 (c ++ [((1 : Int), (0 : Int))]).length 3, .vec (icV (c ++ [((1 : Int), (0 : Int))])), mpo vs])
   generalize c ++ [((1 : Int), (0 : Int))] = c2 at *
   refine Z_call (pf := F183) rfl rfl ?_
   simp [F183, z, List.range_succ]
theorem clo185 : Clo1 vs 185 (fun _ => [(1, 1)]) 1 where
 ln := fun _ => rfl
 one := fun e0 e1 e2 c hc hl => by
   have z := emit1 (vs := vs) (e0 := e0) (e1 := e1) (e2 := e2) c (by omega) 1 1
   show Z base15 _ = some (Res.ret (.tup []) [.cells [.ptr 1 0], cob e0 e1 e2 2 (c ++ [((1 : Int), (1 : Int))]).length 3, .vec (icV (c ++ [((1 : Int), (1 : Int))])), mpo vs])
   generalize c ++ [((1 : Int), (1 : Int))] = c2 at *
   refine Z_call (pf := F185) rfl rfl ?_
   simp [F185, z, List.range_succ]
end
end Go.Pm
end SDd
section SDe
namespace Go.Pm
open F Gr
set_option maxHeartbeats 2000000
attribute [local simp] locs_mapM ren_mapM dkey rkey
section
variable {vs : List ByteArray}
theorem tr_int (n : Int) : TrOK vs (E.int n).node (fun _ => [(1, n)]) 1 where
 ln := fun _ => rfl
 pos := by omega
 one := fun e0 e1 e2 c hc hl => by
   have z := emit1 (vs := vs) (e0 := e0) (e1 := e1) (e2 := e2) c (by omega) 1 n
   generalize c ++ [((1 : Int), n)] = c2 at *
   refine Z_call (pf := F147) rfl rfl ?_
   simp [F147, z, List.range_succ]
 zero := fun e0 e1 e2 hl => by
   have z := emit0 (vs := vs) (e0 := e0) (e1 := e1) (e2 := e2) 1 n
   generalize [((1 : Int), n)] = c2 at *
   refine Z_call (pf := F147) rfl rfl ?_
   simp [F147, z, List.range_succ]
theorem tr_bool (n : Int) : TrOK vs (E.bool n).node (fun _ => [(1, n)]) 1 where
 ln := fun _ => rfl
 pos := by omega
 one := fun e0 e1 e2 c hc hl => by
   have z := emit1 (vs := vs) (e0 := e0) (e1 := e1) (e2 := e2) c (by omega) 1 n
   generalize c ++ [((1 : Int), n)] = c2 at *
   refine Z_call (pf := F147) rfl rfl ?_
   simp [F147, z, List.range_succ]
 zero := fun e0 e1 e2 hl => by
   have z := emit0 (vs := vs) (e0 := e0) (e1 := e1) (e2 := e2) 1 n
   generalize [((1 : Int), n)] = c2 at *
   refine Z_call (pf := F147) rfl rfl ?_
   simp [F147, z, List.range_succ]
theorem tr_var {s : ByteArray} (hs : s ∈ vs) : TrOK vs (E.var s).node (fun _ => [(2, ixI vs s)]) 1 where
 ln := fun _ => rfl
 pos := by omega
 one := fun e0 e1 e2 c hc hl => by
   have z := emit1 (vs := vs) (e0 := e0) (e1 := e1) (e2 := e2) c (by omega) 2 (ixI vs s)
   have zf := find_ix s vs 0 hs
   rw [show ixI vs s + ((0 : Nat) : Int) = ixI vs s by omega] at zf
   generalize ixI vs s = v at *
   generalize c ++ [((2 : Int), v)] = c2 at *
   refine Z_call (pf := F147) rfl rfl ?_
   simp [F147, z, zf, keyOk, calm, alone, List.range_succ]
 zero := fun e0 e1 e2 hl => by
   have z := emit0 (vs := vs) (e0 := e0) (e1 := e1) (e2 := e2) 2 (ixI vs s)
   have zf := find_ix s vs 0 hs
   rw [show ixI vs s + ((0 : Nat) : Int) = ixI vs s by omega] at zf
   generalize ixI vs s = v at *
   generalize [((2 : Int), v)] = c2 at *
   refine Z_call (pf := F147) rfl rfl ?_
   simp [F147, z, zf, keyOk, calm, alone, List.range_succ]
theorem tname1 (k n : Int) (s : ByteArray) (d : D) (hd1 : V.one (.dat d) = true) (hd2 : V.cells (.dat d) = [.dat d]) {e0 e1 e2 : Int} (c : Cd) (hc : c.length < 2^30) :
   Z base15 (.call 166 [.ptr 0 0, .dat (.agg [.lit (.int .i64 k), .lit (.int .i64 n), .lit (.string s), d])] (tst1 vs e0 e1 e2 c)) = some (.ret (.tup []) (tst1 vs e0 e1 e2 (c ++ [(nameI s, 0)]))) := by
 have z := fun o => emit1 (vs := vs) (e0 := e0) (e1 := e1) (e2 := e2) c hc o 0
 refine Z_call (pf := F166) rfl rfl ?_
 unfold nameI
 by_cases h1 : s = ⟨#[115, 101, 108, 102]⟩
 · have q1 := (eqS_iff s ⟨#[115, 101, 108, 102]⟩).trans (decide_eq_true h1)
   rw [if_pos h1]
   have z := z 6
   generalize c ++ [((6 : Int), (0 : Int))] = c2 at *
   simp [F166, q1, z, hd1, hd2, List.range_succ]
 · have q1 := (eqS_iff s ⟨#[115, 101, 108, 102]⟩).trans (decide_eq_false h1)
   rw [if_neg h1]
   by_cases h2 : s = ⟨#[111, 116, 104, 101, 114]⟩
   · have q2 := (eqS_iff s ⟨#[111, 116, 104, 101, 114]⟩).trans (decide_eq_true h2)
     rw [if_pos h2]
     have z := z 7
     generalize c ++ [((7 : Int), (0 : Int))] = c2 at *
     simp [F166, q1, q2, z, hd1, hd2, List.range_succ]
   · have q2 := (eqS_iff s ⟨#[111, 116, 104, 101, 114]⟩).trans (decide_eq_false h2)
     rw [if_neg h2]
     have z := z 8
     generalize c ++ [((8 : Int), (0 : Int))] = c2 at *
     simp [F166, q1, q2, z, hd1, hd2, List.range_succ]
theorem tname0 (k n : Int) (s : ByteArray) (d : D) (hd1 : V.one (.dat d) = true) (hd2 : V.cells (.dat d) = [.dat d]) {e0 e1 e2 : Int} :
   Z base15 (.call 166 [.ptr 0 0, .dat (.agg [.lit (.int .i64 k), .lit (.int .i64 n), .lit (.string s), d])] (tst0 vs e0 e1 e2)) = some (.ret (.tup []) (tst2 vs e0 e1 e2 [(nameI s, 0)])) := by
 have z := fun o => emit0 (vs := vs) (e0 := e0) (e1 := e1) (e2 := e2) o 0
 refine Z_call (pf := F166) rfl rfl ?_
 unfold nameI
 by_cases h1 : s = ⟨#[115, 101, 108, 102]⟩
 · have q1 := (eqS_iff s ⟨#[115, 101, 108, 102]⟩).trans (decide_eq_true h1)
   rw [if_pos h1]
   have z := z 6
   generalize [((6 : Int), (0 : Int))] = c2 at *
   simp [F166, q1, z, hd1, hd2, List.range_succ]
 · have q1 := (eqS_iff s ⟨#[115, 101, 108, 102]⟩).trans (decide_eq_false h1)
   rw [if_neg h1]
   by_cases h2 : s = ⟨#[111, 116, 104, 101, 114]⟩
   · have q2 := (eqS_iff s ⟨#[111, 116, 104, 101, 114]⟩).trans (decide_eq_true h2)
     rw [if_pos h2]
     have z := z 7
     generalize [((7 : Int), (0 : Int))] = c2 at *
     simp [F166, q1, q2, z, hd1, hd2, List.range_succ]
   · have q2 := (eqS_iff s ⟨#[111, 116, 104, 101, 114]⟩).trans (decide_eq_false h2)
     rw [if_neg h2]
     have z := z 8
     generalize [((8 : Int), (0 : Int))] = c2 at *
     simp [F166, q1, q2, z, hd1, hd2, List.range_succ]
theorem tr_name (s : ByteArray) : TrOK vs (E.name s).node (fun _ => [(nameI s, 0)]) 1 where
 ln := fun _ => rfl
 pos := by omega
 one := fun e0 e1 e2 c hc hl => by
   have z := tname1 (vs := vs) (e0 := e0) (e1 := e1) (e2 := e2) 12 0 s (.lit (.slice none 0 0)) rfl rfl c (by omega)
   generalize nameI s = v at *
   generalize c ++ [(v, (0 : Int))] = c2 at *
   refine Z_call (pf := F147) rfl rfl ?_
   simp [F147, z, List.range_succ]
 zero := fun e0 e1 e2 hl => by
   have z := tname0 (vs := vs) (e0 := e0) (e1 := e1) (e2 := e2) 12 0 s (.lit (.slice none 0 0)) rfl rfl
   generalize nameI s = v at *
   generalize [(v, (0 : Int))] = c2 at *
   refine Z_call (pf := F147) rfl rfl ?_
   simp [F147, z, List.range_succ]
theorem sn_eq (A : Int -> Cd) (i : Int × Int) (c : Cd) : (c ++ A c.length) ++ [i] = c ++ snC A i c.length := by simp [snC]
theorem app_ne {c x : Cd} (h : c ≠ []) : c ++ x ≠ [] := by simp [h]
theorem tr_field (f : Bool) {s : ByteArray} (hs : s ∈ fieldL) {a : E} {A : Int -> Cd} {L : Nat} (h : TrOK vs a.node A L) : TrOK vs (E.field f s a).node (snC A (4, fieldI s)) (L + 1) where
 ln := ln_sn h.ln
 pos := by omega
 one := fun e0 e1 e2 c hc hl => by
   have z1 : Z base15 (.call 165 [.ptr 0 0, (E.field f s a).node, .int 0] (tst1 vs e0 e1 e2 c)) = _ := kid1 (f := f) (N := 1) (i := 0) (e0 := e0) (e1 := e1) (e2 := e2) h.toTrB rfl (by omega) c hc (by omega)
   have zf := lfield_Z hs
   have l1 : (c ++ A c.length).length < 2^30 := by rw [List.length_append, h.ln]; omega
   have z2 := emit1 (vs := vs) (e0 := e0) (e1 := e1) (e2 := e2) (c ++ A c.length) l1 4 (fieldI s)
   rw [sn_eq] at z2
   simp only [E.node, kind_field, num_field, str_field, kids_field] at z1
   generalize c ++ A c.length = c1 at *
   generalize c ++ snC A (4, fieldI s) c.length = c2 at *
   refine Z_call (pf := F147) rfl rfl ?_
   simp [F147, z1, z2, zf, List.range_succ]
 zero := fun e0 e1 e2 hl => by
   have z1 : Z base15 (.call 165 [.ptr 0 0, (E.field f s a).node, .int 0] (tst0 vs e0 e1 e2)) = _ := kid0 (f := f) (N := 1) (i := 0) (e0 := e0) (e1 := e1) (e2 := e2) h rfl (by omega) (by omega)
   have zf := lfield_Z hs
   have l1 : (A 0).length < 2^30 := by rw [h.ln]; omega
   have z2 := emit1 (vs := vs) (e0 := e0) (e1 := e1) (e2 := e2) (A 0) l1 4 (fieldI s)
   rw [show A 0 ++ [((4 : Int), fieldI s)] = snC A (4, fieldI s) 0 from rfl] at z2
   simp only [E.node, kind_field, num_field, str_field, kids_field] at z1
   generalize A 0 = c1 at *
   generalize snC A (4, fieldI s) 0 = c2 at *
   refine Z_call (pf := F147) rfl rfl ?_
   simp [F147, z1, z2, zf, List.range_succ]
theorem tun1_true (f : Bool) {a : E} {A : Int -> Cd} {L : Nat} (h : TrOK vs a.node A L) {e0 e1 e2 : Int} (c : Cd) (hc : c ≠ []) (hl : c.length + 4 * L < 2^30) : Z base15 (.call 167 [.ptr 0 0, (E.un f true a).node] (tst1 vs e0 e1 e2 c)) = some (.ret (.tup []) (tst1 vs e0 e1 e2 (c ++ snC A (13, 0) c.length))) := by
 have hp := h.pos
 have z1 : Z base15 (.call 165 [.ptr 0 0, (E.un f true a).node, .int 0] (tst1 vs e0 e1 e2 c)) = _ := kid1 (f := f) (N := 1) (i := 0) (e0 := e0) (e1 := e1) (e2 := e2) h.toTrB rfl (by omega) c hc (by omega)
 have l1 : (c ++ A c.length).length < 2^30 := by rw [List.length_append, h.ln]; omega
 have z2 := emit1 (vs := vs) (e0 := e0) (e1 := e1) (e2 := e2) (c ++ A c.length) l1 13 0
 rw [sn_eq] at z2
 simp only [E.node, kind_un, num_un, str_un, kids_un, ustr, Bool.false_eq_true, if_true, if_false] at z1
 generalize c ++ A c.length = c1 at *
 generalize c ++ snC A (13, 0) c.length = c2 at *
 refine Z_call (pf := F167) rfl rfl ?_
 simp [F167, z1, z2, ustr, List.range_succ]
theorem tun0_true (f : Bool) {a : E} {A : Int -> Cd} {L : Nat} (h : TrOK vs a.node A L) {e0 e1 e2 : Int} (hl : 4 * L < 2^30) : Z base15 (.call 167 [.ptr 0 0, (E.un f true a).node] (tst0 vs e0 e1 e2)) = some (.ret (.tup []) (tst2 vs e0 e1 e2 (snC A (13, 0) 0))) := by
 have hp := h.pos
 have z1 : Z base15 (.call 165 [.ptr 0 0, (E.un f true a).node, .int 0] (tst0 vs e0 e1 e2)) = _ := kid0 (f := f) (N := 1) (i := 0) (e0 := e0) (e1 := e1) (e2 := e2) h rfl (by omega) (by omega)
 have l1 : (A 0).length < 2^30 := by rw [h.ln]; omega
 have z2 := emit1 (vs := vs) (e0 := e0) (e1 := e1) (e2 := e2) (A 0) l1 13 0
 rw [show A 0 ++ [((13 : Int), (0 : Int))] = snC A (13, 0) 0 from rfl] at z2
 simp only [E.node, kind_un, num_un, str_un, kids_un, ustr, Bool.false_eq_true, if_true, if_false] at z1
 generalize A 0 = c1 at *
 generalize snC A (13, 0) 0 = c2 at *
 refine Z_call (pf := F167) rfl rfl ?_
 simp [F167, z1, z2, ustr, List.range_succ]
theorem tr_un_true (f : Bool) {a : E} {A : Int -> Cd} {L : Nat} (h : TrOK vs a.node A L) : TrOK vs (E.un f true a).node (snC A (13, 0)) (L + 1) where
 ln := ln_sn h.ln
 pos := by omega
 one := fun e0 e1 e2 c hc hl => by
   have z := tun1_true f h (e0 := e0) (e1 := e1) (e2 := e2) c hc (by omega)
   simp only [E.node, kind_un, num_un, str_un, kids_un, ustr, Bool.false_eq_true, if_true, if_false] at z
   generalize c ++ snC A (13, 0) c.length = c2 at *
   refine Z_call (pf := F147) rfl rfl ?_
   simp [F147, z, ustr, List.range_succ]
 zero := fun e0 e1 e2 hl => by
   have z := tun0_true f h (e0 := e0) (e1 := e1) (e2 := e2) (by omega)
   simp only [E.node, kind_un, num_un, str_un, kids_un, ustr, Bool.false_eq_true, if_true, if_false] at z
   generalize snC A (13, 0) 0 = c2 at *
   refine Z_call (pf := F147) rfl rfl ?_
   simp [F147, z, ustr, List.range_succ]
theorem tun1_false (f : Bool) {a : E} {A : Int -> Cd} {L : Nat} (h : TrOK vs a.node A L) {e0 e1 e2 : Int} (c : Cd) (hc : c ≠ []) (hl : c.length + 4 * L < 2^30) : Z base15 (.call 167 [.ptr 0 0, (E.un f false a).node] (tst1 vs e0 e1 e2 c)) = some (.ret (.tup []) (tst1 vs e0 e1 e2 (c ++ snC A (17, 0) c.length))) := by
 have hp := h.pos
 have z1 : Z base15 (.call 165 [.ptr 0 0, (E.un f false a).node, .int 0] (tst1 vs e0 e1 e2 c)) = _ := kid1 (f := f) (N := 1) (i := 0) (e0 := e0) (e1 := e1) (e2 := e2) h.toTrB rfl (by omega) c hc (by omega)
 have l1 : (c ++ A c.length).length < 2^30 := by rw [List.length_append, h.ln]; omega
 have z2 := emit1 (vs := vs) (e0 := e0) (e1 := e1) (e2 := e2) (c ++ A c.length) l1 17 0
 rw [sn_eq] at z2
 simp only [E.node, kind_un, num_un, str_un, kids_un, ustr, Bool.false_eq_true, if_true, if_false] at z1
 generalize c ++ A c.length = c1 at *
 generalize c ++ snC A (17, 0) c.length = c2 at *
 refine Z_call (pf := F167) rfl rfl ?_
 simp [F167, z1, z2, ustr, List.range_succ]
theorem tun0_false (f : Bool) {a : E} {A : Int -> Cd} {L : Nat} (h : TrOK vs a.node A L) {e0 e1 e2 : Int} (hl : 4 * L < 2^30) : Z base15 (.call 167 [.ptr 0 0, (E.un f false a).node] (tst0 vs e0 e1 e2)) = some (.ret (.tup []) (tst2 vs e0 e1 e2 (snC A (17, 0) 0))) := by
 have hp := h.pos
 have z1 : Z base15 (.call 165 [.ptr 0 0, (E.un f false a).node, .int 0] (tst0 vs e0 e1 e2)) = _ := kid0 (f := f) (N := 1) (i := 0) (e0 := e0) (e1 := e1) (e2 := e2) h rfl (by omega) (by omega)
 have l1 : (A 0).length < 2^30 := by rw [h.ln]; omega
 have z2 := emit1 (vs := vs) (e0 := e0) (e1 := e1) (e2 := e2) (A 0) l1 17 0
 rw [show A 0 ++ [((17 : Int), (0 : Int))] = snC A (17, 0) 0 from rfl] at z2
 simp only [E.node, kind_un, num_un, str_un, kids_un, ustr, Bool.false_eq_true, if_true, if_false] at z1
 generalize A 0 = c1 at *
 generalize snC A (17, 0) 0 = c2 at *
 refine Z_call (pf := F167) rfl rfl ?_
 simp [F167, z1, z2, ustr, List.range_succ]
theorem tr_un_false (f : Bool) {a : E} {A : Int -> Cd} {L : Nat} (h : TrOK vs a.node A L) : TrOK vs (E.un f false a).node (snC A (17, 0)) (L + 1) where
 ln := ln_sn h.ln
 pos := by omega
 one := fun e0 e1 e2 c hc hl => by
   have z := tun1_false f h (e0 := e0) (e1 := e1) (e2 := e2) c hc (by omega)
   simp only [E.node, kind_un, num_un, str_un, kids_un, ustr, Bool.false_eq_true, if_true, if_false] at z
   generalize c ++ snC A (17, 0) c.length = c2 at *
   refine Z_call (pf := F147) rfl rfl ?_
   simp [F147, z, ustr, List.range_succ]
 zero := fun e0 e1 e2 hl => by
   have z := tun0_false f h (e0 := e0) (e1 := e1) (e2 := e2) (by omega)
   simp only [E.node, kind_un, num_un, str_un, kids_un, ustr, Bool.false_eq_true, if_true, if_false] at z
   generalize snC A (17, 0) 0 = c2 at *
   refine Z_call (pf := F147) rfl rfl ?_
   simp [F147, z, ustr, List.range_succ]
end
end Go.Pm
end SDe
