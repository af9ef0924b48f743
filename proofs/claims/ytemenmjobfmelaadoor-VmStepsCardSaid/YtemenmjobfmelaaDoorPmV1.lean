/- Chapter 16: the memory of cells. Chapter 16: a memory is made, and read out. Chapter 16: a memory is read out. Chapter 16: the hash of an effect; the example. Chapter 16: the machine's small functions. -/
import Derived.Test.YtemenmjobfmelaaDoorPmY
import Derived.Test.YtemenmjobfmelaaDoorPmF16
import Derived.KernelRfl
set_option linter.unusedSimpArgs false
set_option linter.unusedVariables false
section SV1
set_option linter.unusedSimpArgs false
set_option linter.unusedVariables false
namespace Go.Pm
open F
/-- A row of numbers, in cells that are written to. -/
def ints (xs : List Int) : List V := xs.map fun n => V.int n
@[simp] theorem ints_length (xs : List Int) : (ints xs).length = xs.length := by simp [ints]
@[simp] theorem intsC_length (xs : List Int) : (intsC xs).length = xs.length := by simp [intsC]
@[simp] theorem locsL_ints (xs : List Int) : locsL (ints xs) = [] := by
  induction xs with
  | nil => rfl
  | cons x xs ih => simpa [ints] using ih
@[simp] theorem renL_ints (r : Nat → Nat) (xs : List Int) : renL r (ints xs) = ints xs := by
  induction xs with
  | nil => rfl
  | cons x xs ih => simpa [ints] using ih
@[simp] theorem allDat_ints (xs : List Int) : allDat (ints xs) = some (intsC xs) := by
  induction xs with
  | nil => rfl
  | cons x xs ih =>
    have : allDat (ints (x :: xs)) = match allDat (ints xs) with
      | some ds => some (.lit (.int .i64 x) :: ds)
      | none => none := rfl
    rw [this, ih]; rfl
@[simp] theorem all_one_intsC (xs : List Int) : (intsC xs).all (fun d => V.one (.dat d)) = true := by
  simp [intsC, Value.oneCell']
@[simp] theorem all_one_ints (xs : List Int) : (ints xs).all V.one = true := by
  simp [ints, Value.oneCell']
@[simp] theorem mem_one_intsC (xs : List Int) : (∀ x ∈ intsC xs, V.one (.dat x) = true) := by
  simp [intsC, Value.oneCell']
theorem take_all_intsC (xs : List Int) (n : Nat) (h : xs.length ≤ n) : (intsC xs).take n = intsC xs := List.take_of_length_le (by simpa using h)
theorem drop_ints (xs : List Int) (n : Nat) : (ints xs).drop n = ints (xs.drop n) := by simp [ints]
theorem take_ints (xs : List Int) (n : Nat) : (ints xs).take n = ints (xs.take n) := by simp [ints]
theorem set_ints (xs : List Int) (i : Nat) (v : Int) (h : i < xs.length) : (ints xs).take i ++ (V.int v :: (ints xs).drop (i + 1)) = ints (xs.set i v) := by
  rw [List.set_eq_take_append_cons_drop, if_pos h]; simp [ints]
/-- What a cell holds. -/
def getN (cs : List Int) (i : Nat) : Int := cs.getD i 0
def getI (cs : List Int) (i : Int) : Int := getN cs i.toNat
def setI (cs : List Int) (i v : Int) : List Int := cs.set i.toNat v
@[simp] theorem setI_length (cs : List Int) (i v : Int) : (setI cs i v).length = cs.length := by simp [setI]
attribute [local simp] V.len sliceAddr loopStep Z_loop_eq
theorem cut1_ints (xs : List Int) (i : Int) (h : i.toNat < xs.length) : cutCells (ints xs) i.toNat 1 = some [V.int (getI xs i)] := by
  have : xs.drop i.toNat = xs[i.toNat] :: xs.drop (i.toNat + 1) := List.drop_eq_getElem_cons h
  simp only [cutCells, drop_ints, this, getI, getN, List.getD_eq_getElem?_getD, List.getElem?_eq_getElem h]
  rfl
/-- A memory with an empty log. -/
def mem0 (cs : List Int) (n : Nat) : S := [.cells [.msl 1 0 n n 1, .dat (.lit (.slice none 0 0)), .int 0], .cells (ints cs)]
/-- A memory with a log of k entries. -/
def mem1 (cs : List Int) (n : Nat) (lg : List D) (k t : Nat) : S := [.cells [.msl 1 0 n n 1, .gsl lg k 2 2, .int 0], .cells (ints cs), .tip t]
section
variable {cs : List Int} {n : Nat} {lg : List D} {k t : Nat} {i v : Int}
theorem has0_Z : Z prog16 (.call 62 [.ptr 0 0, .int i] (mem0 cs n)) = some (.ret (.bool (decide (0 ≤ i) && decide (i < n))) (mem0 cs n)) := by
  refine Z_call (pf := F62) rfl rfl ?_
  by_cases h : 0 ≤ i
  · simp [F62, mem0, h, List.range_succ]
  · simp [F62, mem0, h, List.range_succ]
theorem has1_Z : Z prog16 (.call 62 [.ptr 0 0, .int i] (mem1 cs n lg k t)) = some (.ret (.bool (decide (0 ≤ i) && decide (i < n))) (mem1 cs n lg k t)) := by
  refine Z_call (pf := F62) rfl rfl ?_
  by_cases h : 0 ≤ i
  · simp [F62, mem1, h, List.range_succ]
  · simp [F62, mem1, h, List.range_succ]
theorem get0_Z (hn : cs.length = n) (h0 : 0 ≤ i) (h1 : i < n) : Z prog16 (.call 51 [.ptr 0 0, .int i] (mem0 cs n)) = some (.ret (.int (getI cs i)) (mem0 cs n)) := by
  refine Z_call (pf := F51) rfl rfl ?_
  have h2 := has0_Z (cs := cs) (n := n) (i := i)
  have h3 : i.toNat < cs.length := by omega
  simp only [mem0] at h2
  simp [F51, mem0, h2, h0, h1, h3, cut1_ints cs i h3, List.range_succ]
theorem get1_Z (hn : cs.length = n) (h0 : 0 ≤ i) (h1 : i < n) : Z prog16 (.call 51 [.ptr 0 0, .int i] (mem1 cs n lg k t)) = some (.ret (.int (getI cs i)) (mem1 cs n lg k t)) := by
  refine Z_call (pf := F51) rfl rfl ?_
  have h2 := has1_Z (cs := cs) (n := n) (i := i) (lg := lg) (k := k) (t := t)
  have h3 : i.toNat < cs.length := by omega
  simp only [mem1] at h2
  simp [F51, mem1, h2, h0, h1, h3, cut1_ints cs i h3, List.range_succ]
/-- What is written into the log. -/
def ent (cs : List Int) (i : Int) : List D := [.lit (.int .i64 i), .lit (.int .i64 (getI cs i))]
theorem set0_Z (hn : cs.length = n) (h0 : 0 ≤ i) (h1 : i < n) : Z prog16 (.call 114 [.ptr 0 0, .int i, .int v] (mem0 cs n)) = some (.ret (.tup []) (mem1 (setI cs i v) n (ent cs i) 1 2)) := by
  refine Z_call (pf := F114) rfl rfl ?_
  have h2 := has0_Z (cs := cs) (n := n) (i := i)
  have h3 : i.toNat < cs.length := by omega
  simp only [mem0] at h2
  have h4 := set_ints cs i.toNat v h3
  have h7 : i.toNat + 1 ≤ cs.length := h3
  simp [F114, mem0, mem1, h2, h0, h1, h3, h4, h7, cut1_ints cs i h3, List.range_succ, setI, ent, appendV, srcV, roomFor, calm, alone]
theorem set1_Z (hn : cs.length = n) (h0 : 0 ≤ i) (h1 : i < n) (hl : lg.length = k * 2) (hk : k < 2^30) : Z prog16 (.call 114 [.ptr 0 0, .int i, .int v] (mem1 cs n lg k (k * 2))) = some (.ret (.tup []) (mem1 (setI cs i v) n (lg ++ ent cs i) (k + 1) ((k + 1) * 2))) := by
  refine Z_call (pf := F114) rfl rfl ?_
  have h2 := has1_Z (cs := cs) (n := n) (i := i) (lg := lg) (k := k) (t := k * 2)
  have h3 : i.toNat < cs.length := by omega
  have h5 : roomFor (k + 1) 16 = true := by simp [roomFor]; omega
  simp only [mem1] at h2
  have h4 := set_ints cs i.toNat v h3
  have h7 : i.toNat + 1 ≤ cs.length := h3
  simp [F114, mem0, mem1, h2, h0, h1, h3, h4, h5, h7, hl, cut1_ints cs i h3, List.range_succ, setI, ent, appendV, srcV, calm, alone]
  try omega
theorem len0_Z : Z prog16 (.call 73 [.ptr 0 0] (mem0 cs n)) = some (.ret (.int n) (mem0 cs n)) := by
  refine Z_call (pf := F73) rfl rfl ?_
  simp [F73, mem0, List.range_succ]
theorem len1_Z : Z prog16 (.call 73 [.ptr 0 0] (mem1 cs n lg k t)) = some (.ret (.int n) (mem1 cs n lg k t)) := by
  refine Z_call (pf := F73) rfl rfl ?_
  simp [F73, mem1, List.range_succ]
end
end Go.Pm
end SV1
section SV2
set_option linter.unusedSimpArgs false
set_option linter.unusedVariables false
namespace Go.Pm
open F
attribute [local simp] V.len sliceAddr
/-- The first i places filled. -/
def fillI (w : List Int) (i : Nat) : List Int := w.take i ++ List.replicate (w.length - i) 0
@[simp] theorem fillI_length (w : List Int) (i : Nat) : (fillI w i).length = w.length := by simp [fillI]; omega
theorem fillI_all (w : List Int) (i : Nat) (h : w.length ≤ i) : fillI w i = w := by simp [fillI, List.take_of_length_le h, Nat.sub_eq_zero_of_le h]
theorem fillI_zero (w : List Int) : fillI w 0 = List.replicate w.length 0 := by simp [fillI]
theorem fillI_set (w : List Int) (i : Nat) (h : i < w.length) : (fillI w i).set i (getN w i) = fillI w (i + 1) := by
  apply List.ext_getElem (by simp)
  intro j h1 h2
  simp only [List.length_set, fillI_length] at h1
  simp only [getN, fillI, List.getElem_set, List.getElem_append, List.length_take, List.getElem_take, List.getElem_replicate, List.getD_eq_getElem?_getD, List.getElem?_eq_getElem h, Option.getD_some]
  split
  · subst i; rw [dif_pos (by omega)]
  · split
    · rw [dif_pos (by omega)]
    · rw [dif_neg (by omega)]
theorem set_fillI (w : List Int) (i : Nat) (h : i < w.length) : (ints (fillI w i)).take i ++ (V.int (getN w i) :: (ints (fillI w i)).drop (i + 1)) = ints (fillI w (i + 1)) := by
  rw [set_ints _ _ _ (by simpa using h), fillI_set w i h]
theorem repl_ints (n : Nat) : (repl n [(D.lit (.int .i64 0))]).map V.dat = ints (List.replicate n 0) := by
  induction n with
  | zero => rfl
  | succ n ih =>
    simp only [repl, List.map_append, ih, ints, List.replicate_succ, List.map_cons]
    rfl
theorem cut1_intsC (xs : List Int) (i : Nat) (h : i < xs.length) : cutCells (intsC xs) i 1 = some [.lit (.int .i64 (getN xs i))] := by
  rw [cut_intsC xs i h]; simp [getN, List.getD_eq_getElem?_getD, h]
def newFr (w : D) (n : Nat) (i : Int) : Fr := [(0, .dat w), (3, .ptr 0 0), (11, .int n), (12, .int i)]
theorem new_loop (w : List Int) (n : Nat) (f : Bool) (hn : w.length = n) (hb : n < 2^40) (m i : Nat) (hm : i + m = n) :
    Z prog16 (.loop 0 F46l0 (newFr (.sl (intsC w) n f) n i) (mem0 (fillI w i) n)) = some (.out (.exit 0) (newFr (.sl (intsC w) n f) n n ++ [(13, .bool false)]) (mem0 w n)) := by
  induction m generalizing i with
  | zero =>
    have : i = n := by omega
    subst this
    rw [Z_loop_eq, fillI_all w i (by omega)]
    simp [loopStep, run_F46l0, mem0, newFr, List.range_succ]
  | succ m ih =>
    have h1 := ih (i + 1) (by omega)
    have h2 : i < n := by omega
    have h3 : i < w.length := by omega
    have h4 := set_fillI w i h3
    have h5 := cut1_intsC w i h3
    have w1 := wrap64 (i + 1 : Int) (by omega)
    have h6 : i + 1 ≤ w.length := h3
    simp only [newFr, mem0, Int.natCast_add, Int.cast_ofNat_Int] at h1
    rw [Z_loop_eq]
    simp [loopStep, run_F46l0, mem0, newFr, List.range_succ, h2, h5, h4, h6, w1, h1, calm, alone]
theorem new_Z (w : List Int) (n : Nat) (f : Bool) (hn : w.length = n) (hb : n < 2^40) : Z prog16 (.call 46 [.dat (.sl (intsC w) n f)] []) = some (.ret (.ptr 0 0) (mem0 w n)) := by
  refine Z_call (pf := F46) rfl rfl ?_
  have h1 := new_loop w n f hn hb n 0 (by omega)
  rw [Z_loop_eq] at h1
  have hg : gcF 0 (newFr (.sl (intsC w) n f) n (0 : Nat)) (mem0 (fillI w 0) n) = some (newFr (.sl (intsC w) n f) n (0 : Nat), mem0 (fillI w 0) n) := by
    simp [newFr, mem0, List.range_succ]
  rw [hg] at h1
  rw [show ((0:Nat):Int) = 0 from rfl] at h1
  have h2 : (n : Int) ≤ 1099511627776 ∧ 8 * (n : Int) ≤ 281474976710656 := by omega
  have h3 : 8 * n ≤ 281474976710656 := by omega
  rw [fillI_zero, hn] at h1
  simp only [newFr, mem0] at h1 ⊢
  simp [F46, Z_loop_eq, repl_ints, h2, h3, List.range_succ, h1]
end Go.Pm
end SV2
section SV3
set_option linter.unusedSimpArgs false
set_option linter.unusedVariables false
namespace Go.Pm
open F
attribute [local simp] V.len sliceAddr
theorem cells0_loop (w : List Int) (n : Nat)  (hn : w.length = n) (hb : n < 2^40) (m i : Nat) (hm : i + m = n) :
    Z prog16 (.loop 2 F59l0 [(0, .ptr 0 0), (3, .msl 2 0 n n 1), (9, .int n), (10, .int i)] (mem0 w n ++ [.cells (ints (fillI w i))])) = some (.out (.exit 0) [(0, .ptr 0 0), (3, .msl 2 0 n n 1), (9, .int n), (10, .int n), (11, .bool false)] (mem0 w n ++ [.cells (ints w)])) := by
  induction m generalizing i with
  | zero =>
    have : i = n := by omega
    subst this
    rw [Z_loop_eq, fillI_all w i (by omega)]
    simp [loopStep, run_F59l0, mem0, List.range_succ]
  | succ m ih =>
    have h1 := ih (i + 1) (by omega)
    have h2 : i < n := by omega
    have h3 : i < w.length := by omega
    have h4 := set_fillI w i h3
    have h5 := get0_Z (cs := w) (n := n) (i := i)  hn (by omega) (by omega)
    have h7 : getI w i = getN w i := by simp [getI]
    have w1 := wrap64 (i + 1 : Int) (by omega)
    have h6 : i + 1 ≤ w.length := h3
    simp only [mem0, Int.natCast_add, Int.cast_ofNat_Int, h7, List.cons_append, List.nil_append] at h1 h5
    rw [Z_loop_eq]
    simp [loopStep, run_F59l0, mem0, List.range_succ, h2, h5, h4, h6, w1, h1, calm, alone]
theorem cells0_Z (w : List Int) (n : Nat)  (hn : w.length = n) (hb : n < 2^40) : Z prog16 (.call 59 [.ptr 0 0] (mem0 w n)) = some (.ret (.dat (.sl (intsC w) n false)) (mem0 w n)) := by
  refine Z_call (pf := F59) rfl rfl ?_
  have h1 := cells0_loop w n  hn hb n 0 (by omega)
  have h4 := len0_Z (cs := w) (n := n) 
  have h2 : (n : Int) ≤ 1099511627776 ∧ 8 * (n : Int) ≤ 281474976710656 := by omega
  have h3 : 8 * n ≤ 281474976710656 := by omega
  have h5 := take_all_intsC w n (by omega)
  rw [fillI_zero, hn] at h1
  rw [show ((0:Nat):Int) = 0 from rfl] at h1
  simp only [mem0, List.cons_append, List.nil_append] at h1 h4 ⊢
  simp [F59, repl_ints, h2, h3, h4, h5, hn, List.range_succ, h1]
theorem cells1_loop (w : List Int) (n : Nat) (lg : List D) (k t : Nat) (hn : w.length = n) (hb : n < 2^40) (m i : Nat) (hm : i + m = n) :
    Z prog16 (.loop 3 F59l0 [(0, .ptr 0 0), (3, .msl 3 0 n n 1), (9, .int n), (10, .int i)] (mem1 w n lg k t ++ [.cells (ints (fillI w i))])) = some (.out (.exit 0) [(0, .ptr 0 0), (3, .msl 3 0 n n 1), (9, .int n), (10, .int n), (11, .bool false)] (mem1 w n lg k t ++ [.cells (ints w)])) := by
  induction m generalizing i with
  | zero =>
    have : i = n := by omega
    subst this
    rw [Z_loop_eq, fillI_all w i (by omega)]
    simp [loopStep, run_F59l0, mem1, List.range_succ]
  | succ m ih =>
    have h1 := ih (i + 1) (by omega)
    have h2 : i < n := by omega
    have h3 : i < w.length := by omega
    have h4 := set_fillI w i h3
    have h5 := get1_Z (cs := w) (n := n) (i := i) (lg := lg) (k := k) (t := t) hn (by omega) (by omega)
    have h7 : getI w i = getN w i := by simp [getI]
    have w1 := wrap64 (i + 1 : Int) (by omega)
    have h6 : i + 1 ≤ w.length := h3
    simp only [mem1, Int.natCast_add, Int.cast_ofNat_Int, h7, List.cons_append, List.nil_append] at h1 h5
    rw [Z_loop_eq]
    simp [loopStep, run_F59l0, mem1, List.range_succ, h2, h5, h4, h6, w1, h1, calm, alone]
theorem cells1_Z (w : List Int) (n : Nat) (lg : List D) (k t : Nat) (hn : w.length = n) (hb : n < 2^40) : Z prog16 (.call 59 [.ptr 0 0] (mem1 w n lg k t)) = some (.ret (.dat (.sl (intsC w) n false)) (mem1 w n lg k t)) := by
  refine Z_call (pf := F59) rfl rfl ?_
  have h1 := cells1_loop w n lg k t hn hb n 0 (by omega)
  have h4 := len1_Z (cs := w) (n := n) (lg := lg) (k := k) (t := t)
  have h2 : (n : Int) ≤ 1099511627776 ∧ 8 * (n : Int) ≤ 281474976710656 := by omega
  have h3 : 8 * n ≤ 281474976710656 := by omega
  have h5 := take_all_intsC w n (by omega)
  rw [fillI_zero, hn] at h1
  rw [show ((0:Nat):Int) = 0 from rfl] at h1
  simp only [mem1, List.cons_append, List.nil_append] at h1 h4 ⊢
  simp [F59, repl_ints, h2, h3, h4, h5, hn, List.range_succ, h1]
end Go.Pm
end SV3
section SV4
set_option linter.unusedSimpArgs false
set_option linter.unusedVariables false
namespace Go.Pm
open F
attribute [local simp] V.len sliceAddr loopStep Z_loop_eq
/-- The mixing step. -/
def mixI (s w : Int) : Int :=
  let m := IntKind.u64.wrap (bitI .u64 (· ^^^ ·) s w * 11400714819323198485)
  bitI .u64 (· ^^^ ·) m (m.tdiv 4294967296)
def hashI (a b c d : Int) : Int := mixI (mixI (mixI (mixI (mixI 10587374985770004219 (IntKind.u64.wrap a)) (IntKind.u64.wrap b)) (IntKind.u64.wrap c)) (IntKind.u64.wrap d)) 0
theorem wrap_u64_range (n : Int) : 0 ≤ IntKind.u64.wrap n ∧ IntKind.u64.wrap n < 18446744073709551616 := by
  have : IntKind.u64.wrap n = n % 18446744073709551616 := by simp [IntKind.wrap, IntKind.bits, IntKind.signed]
  rw [this]; omega
theorem wrap_u64_id (n : Int) (h : 0 ≤ n ∧ n < 18446744073709551616) : IntKind.u64.wrap n = n := by
  have : IntKind.u64.wrap n = n % 18446744073709551616 := by simp [IntKind.wrap, IntKind.bits, IntKind.signed]
  rw [this]; omega
theorem tdiv_id (m : Int) (h : 0 ≤ m ∧ m < 18446744073709551616) : IntKind.u64.wrap (m.tdiv 4294967296) = m.tdiv 4294967296 := by
  apply wrap_u64_id
  have := Int.tdiv_eq_ediv_of_nonneg h.1 (b := 4294967296)
  omega
theorem shr_id (m : Int) (h : 0 ≤ m ∧ m < 18446744073709551616) : shrI .u64 m 32 = m.tdiv 4294967296 := by
  rw [Int.tdiv_eq_ediv_of_nonneg h.1 (b := 4294967296)]
  show Int.fdiv _ (2 ^ min (32:Int).toNat IntKind.u64.bits) = _
  rw [Int.fdiv_eq_ediv_of_nonneg _ (by decide)]
  rfl
/-- One factor of the mixing step. -/
def mulF (s w : Int) : Int := IntKind.u64.wrap (bitI .u64 (· ^^^ ·) s w * 11400714819323198485)
theorem mulF_range (s w : Int) : 0 ≤ mulF s w ∧ mulF s w < 18446744073709551616 := wrap_u64_range _
theorem mixI_eq (s w : Int) : mixI s w = bitI .u64 (· ^^^ ·) (mulF s w) ((mulF s w).tdiv 4294967296) := by
  unfold mixI mulF
  exact rfl
theorem bin_xor (a b : Int) : binV .xor (.int .u64 a) (.int .u64 b) = some (.int .u64 (bitI .u64 (· ^^^ ·) a b)) := by simp
theorem bin_mul (a b : Int) : binV .mul (.int .u64 (bitI .u64 (· ^^^ ·) a b)) (.int .u64 11400714819323198485) = some (.int .u64 (mulF a b)) := by simp [mulF]
theorem bin_quo (a b : Int) : binV .quo (.int .u64 (mulF a b)) (.int .u64 4294967296) = some (.int .u64 ((mulF a b).tdiv 4294967296)) := by simp [tdiv_id _ (mulF_range a b)]
theorem bin_shr (a b : Int) : binV .shr (.int .u64 (mulF a b)) (.int .u64 32) = some (.int .u64 ((mulF a b).tdiv 4294967296)) := by simp [shr_id _ (mulF_range a b)]
def F80K (K Q : Int) : PFun := ⟨2, [.tmp 4],
  .seq (.region none [⟨some 4, .mov (.c (.int .u64 0)), none, []⟩] [0, 1])
  (.seq (.region none [⟨some 6, .mov (.t 0), none, []⟩,
    ⟨some 7, .mov (.t 1), none, []⟩,
    ⟨some 8, .bin .xor (.t 6) (.t 7), none, []⟩,
    ⟨some 9, .bin .mul (.t 8) (.c (.int .u64 K)), none, []⟩,
    ⟨some 5, .mov (.t 9), none, []⟩] [5])
  (.seq (.region none [⟨some 10, .mov (.t 5), none, []⟩,
    ⟨some 11, .mov (.t 5), none, []⟩,
    ⟨some 12, .bin .quo (.t 11) (.c (.int .u64 Q)), none, []⟩,
    ⟨some 13, .bin .xor (.t 10) (.t 12), none, []⟩,
    ⟨some 4, .mov (.t 13), none, []⟩] [4])
  (.ret))), false, false, false⟩
theorem mix80_K (C : Task → Option Res) {K Q s w x m z y : Int} (h1 : binV .xor (.int .u64 s) (.int .u64 w) = some (.int .u64 x)) (h2 : binV .mul (.int .u64 x) (.int .u64 K) = some (.int .u64 m)) (h3 : binV .quo (.int .u64 m) (.int .u64 Q) = some (.int .u64 z)) (h4 : binV .xor (.int .u64 m) (.int .u64 z) = some (.int .u64 y)) :
    callBody C (F80K K Q) [.dat (.lit (.int .u64 s)), .dat (.lit (.int .u64 w))] [] = some (.ret (.dat (.lit (.int .u64 y))) []) := by
  simp [F80K, -binV, h1, h2, h3, h4]
theorem F80_K : F80 = F80K 11400714819323198485 4294967296 := rfl
theorem rmix_Z (s w : Int) : Z prog16 (.call 80 [.dat (.lit (.int .u64 s)), .dat (.lit (.int .u64 w))] []) = some (.ret (.dat (.lit (.int .u64 (mixI s w)))) []) := by
  refine Z_call (pf := F80) rfl rfl ?_
  rw [mixI_eq, F80_K]
  exact mix80_K _ (bin_xor s w) (bin_mul s w) (bin_quo s w) (bin_xor _ _)
def F111K (K Q : Int) : PFun := ⟨2, [.tmp 4],
  .seq (.region none [⟨some 4, .mov (.c (.int .u64 0)), none, []⟩] [0, 1])
  (.seq (.region none [⟨some 6, .mov (.t 0), none, []⟩,
    ⟨some 7, .mov (.t 1), none, []⟩,
    ⟨some 8, .bin .xor (.t 6) (.t 7), none, []⟩,
    ⟨some 9, .bin .mul (.t 8) (.c (.int .u64 K)), none, []⟩,
    ⟨some 5, .mov (.t 9), none, []⟩] [5])
  (.seq (.region none [⟨some 10, .mov (.t 5), none, []⟩,
    ⟨some 11, .mov (.t 5), none, []⟩,
    ⟨some 12, .bin .shr (.t 11) (.c (.int .u64 Q)), none, []⟩,
    ⟨some 13, .bin .xor (.t 10) (.t 12), none, []⟩,
    ⟨some 4, .mov (.t 13), none, []⟩] [4])
  (.ret))), false, false, false⟩
theorem mix111_K (C : Task → Option Res) {K Q s w x m z y : Int} (h1 : binV .xor (.int .u64 s) (.int .u64 w) = some (.int .u64 x)) (h2 : binV .mul (.int .u64 x) (.int .u64 K) = some (.int .u64 m)) (h3 : binV .shr (.int .u64 m) (.int .u64 Q) = some (.int .u64 z)) (h4 : binV .xor (.int .u64 m) (.int .u64 z) = some (.int .u64 y)) :
    callBody C (F111K K Q) [.dat (.lit (.int .u64 s)), .dat (.lit (.int .u64 w))] [] = some (.ret (.dat (.lit (.int .u64 y))) []) := by
  simp [F111K, -binV, h1, h2, h3, h4]
theorem F111_K : F111 = F111K 11400714819323198485 32 := rfl
theorem hmix_Z (s w : Int) : Z prog16 (.call 111 [.dat (.lit (.int .u64 s)), .dat (.lit (.int .u64 w))] []) = some (.ret (.dat (.lit (.int .u64 (mixI s w)))) []) := by
  refine Z_call (pf := F111) rfl rfl ?_
  rw [mixI_eq, F111_K]
  exact mix111_K _ (bin_xor s w) (bin_mul s w) (bin_shr s w) (bin_xor _ _)
theorem begin_Z : Z prog16 (.call 110 [.str ⟨#[101, 102, 102, 101, 99, 116]⟩, .int 4] []) = some (.ret (.dat (.lit (.int .u64 10587374985770004219))) []) := Z_of (n := 40) (by kernel_rfl)
theorem words_Z : Z prog16 (.call 79 [.dat (.sl (bytesD ⟨#[101, 102, 102, 101, 99, 116]⟩) 6 false)] []) = some (.ret (.dat (.sl [.lit (.int .u64 127970251794021)] 1 false)) []) := Z_of (n := 40) (by kernel_rfl)
theorem begin_eq : mixI (mixI (mixI 0 127970251794021) 6) 4 = 10587374985770004219 := by kernel_rfl
theorem hsum_K {B a b c d a' b' c' d' x1 x2 x3 x4 x5 : Int} (f : Bool) (hB : Z prog16 (.call 110 [.str ⟨#[101, 102, 102, 101, 99, 116]⟩, .int 4] []) = some (.ret (.dat (.lit (.int .u64 B))) []))
    (ha : IntKind.u64.wrap a = a') (hb : IntKind.u64.wrap b = b') (hc : IntKind.u64.wrap c = c') (hd : IntKind.u64.wrap d = d')
    (m1 : Z prog16 (.call 111 [.dat (.lit (.int .u64 B)), .dat (.lit (.int .u64 a'))] []) = some (.ret (.dat (.lit (.int .u64 x1))) [])) (m2 : Z prog16 (.call 111 [.dat (.lit (.int .u64 x1)), .dat (.lit (.int .u64 b'))] []) = some (.ret (.dat (.lit (.int .u64 x2))) [])) (m3 : Z prog16 (.call 111 [.dat (.lit (.int .u64 x2)), .dat (.lit (.int .u64 c'))] []) = some (.ret (.dat (.lit (.int .u64 x3))) [])) (m4 : Z prog16 (.call 111 [.dat (.lit (.int .u64 x3)), .dat (.lit (.int .u64 d'))] []) = some (.ret (.dat (.lit (.int .u64 x4))) [])) (m5 : Z prog16 (.call 111 [.dat (.lit (.int .u64 x4)), .dat (.lit (.int .u64 0))] []) = some (.ret (.dat (.lit (.int .u64 x5))) [])) :
    Z prog16 (.call 109 [.str ⟨#[101, 102, 102, 101, 99, 116]⟩, .dat (.sl [.lit (.int .i64 a), .lit (.int .i64 b), .lit (.int .i64 c), .lit (.int .i64 d)] 4 f)] []) = some (.ret (.dat (.lit (.int .u64 x5))) []) := by
  refine Z_call (pf := F109) rfl rfl ?_
  simp [F109, run_F109l0, hB, ha, hb, hc, hd, m1, m2, m3, m4, m5, wrap64]
theorem rsum_K {a b c d a' b' c' d' x1 x2 x3 x4 x5 y1 y2 B : Int} (f : Bool)
    (ha : IntKind.u64.wrap a = a') (hb : IntKind.u64.wrap b = b') (hc : IntKind.u64.wrap c = c') (hd : IntKind.u64.wrap d = d')
    (k1 : Z prog16 (.call 80 [.dat (.lit (.int .u64 0)), .dat (.lit (.int .u64 127970251794021))] []) = some (.ret (.dat (.lit (.int .u64 y1))) [])) (k2 : Z prog16 (.call 80 [.dat (.lit (.int .u64 y1)), .dat (.lit (.int .u64 6))] []) = some (.ret (.dat (.lit (.int .u64 y2))) [])) (k3 : Z prog16 (.call 80 [.dat (.lit (.int .u64 y2)), .dat (.lit (.int .u64 4))] []) = some (.ret (.dat (.lit (.int .u64 B))) []))
    (m1 : Z prog16 (.call 80 [.dat (.lit (.int .u64 B)), .dat (.lit (.int .u64 a'))] []) = some (.ret (.dat (.lit (.int .u64 x1))) [])) (m2 : Z prog16 (.call 80 [.dat (.lit (.int .u64 x1)), .dat (.lit (.int .u64 b'))] []) = some (.ret (.dat (.lit (.int .u64 x2))) [])) (m3 : Z prog16 (.call 80 [.dat (.lit (.int .u64 x2)), .dat (.lit (.int .u64 c'))] []) = some (.ret (.dat (.lit (.int .u64 x3))) [])) (m4 : Z prog16 (.call 80 [.dat (.lit (.int .u64 x3)), .dat (.lit (.int .u64 d'))] []) = some (.ret (.dat (.lit (.int .u64 x4))) [])) (m5 : Z prog16 (.call 80 [.dat (.lit (.int .u64 x4)), .dat (.lit (.int .u64 0))] []) = some (.ret (.dat (.lit (.int .u64 x5))) [])) :
    Z prog16 (.call 70 [.str ⟨#[101, 102, 102, 101, 99, 116]⟩, .dat (.sl [.lit (.int .i64 a), .lit (.int .i64 b), .lit (.int .i64 c), .lit (.int .i64 d)] 4 f)] []) = some (.ret (.dat (.lit (.int .u64 x5))) []) := by
  refine Z_call (pf := F70) rfl rfl ?_
  have hw := words_Z
  have hs : (⟨#[101, 102, 102, 101, 99, 116]⟩ : ByteArray).size = 6 := rfl
  have w6 : IntKind.u64.wrap 6 = 6 := by decide
  have w4 : IntKind.u64.wrap 4 = 4 := by decide
  simp [F70, run_F70l0, run_F70l1, hw, hs, w6, w4, k1, k2, k3, ha, hb, hc, hd, m1, m2, m3, m4, m5, wrap64]
theorem hsum_Z (a b c d : Int) (f : Bool) : Z prog16 (.call 109 [.str ⟨#[101, 102, 102, 101, 99, 116]⟩, .dat (.sl [.lit (.int .i64 a), .lit (.int .i64 b), .lit (.int .i64 c), .lit (.int .i64 d)] 4 f)] []) = some (.ret (.dat (.lit (.int .u64 (hashI a b c d)))) []) :=
  hsum_K f begin_Z rfl rfl rfl rfl (hmix_Z _ _) (hmix_Z _ _) (hmix_Z _ _) (hmix_Z _ _) (hmix_Z _ _)
theorem rsum_Z (a b c d : Int) (f : Bool) : Z prog16 (.call 70 [.str ⟨#[101, 102, 102, 101, 99, 116]⟩, .dat (.sl [.lit (.int .i64 a), .lit (.int .i64 b), .lit (.int .i64 c), .lit (.int .i64 d)] 4 f)] []) = some (.ret (.dat (.lit (.int .u64 (hashI a b c d)))) []) := by
  have h3 := rmix_Z (mixI (mixI 0 127970251794021) 6) 4
  rw [begin_eq] at h3
  exact rsum_K f rfl rfl rfl rfl (rmix_Z _ _) (rmix_Z _ _) h3 (rmix_Z _ _) (rmix_Z _ _) (rmix_Z _ _) (rmix_Z _ _) (rmix_Z _ _)
theorem lives_Z : Z prog16 (.call 50 [] []) = some (.ret (.bool true) []) := Z_of (n := 400) (by kernel_rfl)
end Go.Pm
end SV4
section SV5
set_option linter.unusedSimpArgs false
set_option linter.unusedVariables false
namespace Go.Pm
open F
attribute [local simp] V.len sliceAddr
def clampI (n lo hi : Int) : Int := if n < lo then lo else if n > hi then hi else n
def satI (n : Int) : Int := clampI n (-2147483647) 2147483647
def flagI (b : Bool) : Int := if b then 1 else 0
abbrev wr (n : Int) : Int := IntKind.i64.wrap n
/-- What an operator makes of its values. -/
def appI : Nat → Int → Int → Int
  | 9, a, b => satI (wr (a + b))
  | 10, a, b => satI (wr (a - b))
  | 11, a, b => satI (wr (a * b))
  | 12, a, b => if b = 0 then 0 else satI (wr (a.tdiv b))
  | 13, a, _ => satI (wr (0 - a))
  | 14, a, b => flagI (decide (a < b))
  | 15, a, b => flagI (decide (a ≤ b))
  | 16, a, b => flagI (decide (a = b))
  | _, a, _ => flagI (decide (a = 0))
theorem vclamp_Z (n lo hi : Int) : Z prog16 (.call 108 [.int n, .int lo, .int hi] []) = some (.ret (.int (clampI n lo hi)) []) := by
  refine Z_call (pf := F108) rfl rfl ?_
  by_cases h : n < lo
  · simp [F108, h, clampI]
  · by_cases h2 : hi < n
    · simp [F108, h, h2, clampI]
    · simp [F108, h, h2, clampI]
theorem rclamp_Z (n lo hi : Int) : Z prog16 (.call 78 [.int n, .int lo, .int hi] []) = some (.ret (.int (clampI n lo hi)) []) := by
  refine Z_call (pf := F78) rfl rfl ?_
  by_cases h : n < lo
  · simp [F78, h, clampI]
  · by_cases h2 : hi < n
    · simp [F78, h, h2, clampI]
    · simp [F78, h, h2, clampI]
theorem vsat_Z (n : Int) : Z prog16 (.call 88 [.int n] []) = some (.ret (.int (satI n)) []) := by
  refine Z_call (pf := F88) rfl rfl ?_
  simp [F88, vclamp_Z, satI]
theorem rsat_Z (n : Int) : Z prog16 (.call 81 [.int n] []) = some (.ret (.int (satI n)) []) := by
  refine Z_call (pf := F81) rfl rfl ?_
  simp [F81, rclamp_Z, satI]
theorem truth_Z (b : Bool) : Z prog16 (.call 93 [.bool b] []) = some (.ret (.int (flagI b)) []) := by
  refine Z_call (pf := F93) rfl rfl ?_
  cases b <;> simp [F93, flagI]
theorem rflag_Z (b : Bool) : Z prog16 (.call 61 [.bool b] []) = some (.ret (.int (flagI b)) []) := by
  refine Z_call (pf := F61) rfl rfl ?_
  cases b <;> simp [F61, flagI]
theorem bin_Z (a b : Int) : ∀ p ∈ [(87, 9), (89, 10), (90, 11), (91, 12), (92, 14), (94, 15), (95, 16)], Z prog16 (.call p.1 [.int a, .int b] []) = some (.ret (.int (appI p.2 a b)) []) := by
  intro p hp
  simp only [List.mem_cons, List.not_mem_nil, or_false] at hp
  rcases hp with rfl | rfl | rfl | rfl | rfl | rfl | rfl
  · refine Z_call (pf := F87) rfl rfl ?_
    simp [F87, vsat_Z, appI]
  · refine Z_call (pf := F89) rfl rfl ?_
    simp [F89, vsat_Z, appI]
  · refine Z_call (pf := F90) rfl rfl ?_
    simp [F90, vsat_Z, appI]
  · refine Z_call (pf := F91) rfl rfl ?_
    by_cases h : b = 0
    · simp [F91, vsat_Z, appI, h]
    · simp [F91, vsat_Z, appI, h]
  · refine Z_call (pf := F92) rfl rfl ?_
    simp [F92, truth_Z, appI]
  · refine Z_call (pf := F94) rfl rfl ?_
    simp [F94, truth_Z, appI]
  · refine Z_call (pf := F95) rfl rfl ?_
    simp [F95, truth_Z, appI]
theorem un_Z (a : Int) : ∀ p ∈ [(96, 13), (97, 17)], Z prog16 (.call p.1 [.int a] []) = some (.ret (.int (appI p.2 a 0)) []) := by
  intro p hp
  simp only [List.mem_cons, List.not_mem_nil, or_false] at hp
  rcases hp with rfl | rfl
  · refine Z_call (pf := F96) rfl rfl ?_
    simp [F96, vsat_Z, appI]
  · refine Z_call (pf := F97) rfl rfl ?_
    simp [F97, truth_Z, appI]
theorem apply_Z (a b : Int) (op : Nat) (h1 : 9 ≤ op) (h2 : op ≤ 17) : Z prog16 (.call 71 [.int op, .int a, .int b] []) = some (.ret (.int (appI op a b)) []) := by
  refine Z_call (pf := F71) rfl rfl ?_
  obtain rfl | rfl | rfl | rfl | rfl | rfl | rfl | rfl | rfl : op = 9 ∨ op = 10 ∨ op = 11 ∨ op = 12 ∨ op = 13 ∨ op = 14 ∨ op = 15 ∨ op = 16 ∨ op = 17 := by omega
  · simp [F71, rsat_Z, appI]
  · simp [F71, rsat_Z, appI]
  · simp [F71, rsat_Z, appI]
  · by_cases h : b = 0
    · simp [F71, rsat_Z, appI, h]
    · simp [F71, rsat_Z, appI, h]
  · simp [F71, rsat_Z, appI]
  · simp [F71, rflag_Z, appI]
  · simp [F71, rflag_Z, appI]
  · simp [F71, rflag_Z, appI]
  · simp [F71, rflag_Z, appI]
/-- The value that a field gets. -/
def limI (n b : Int) : Int := if n = 0 ∨ n = 1 then clampI b (-1048576) 1048576 else if n = 2 ∨ n = 3 then clampI b (-16384) 16384 else b
theorem lim_Z (n b : Int) : Z prog16 (.call 102 [.int n, .int b] []) = some (.ret (.int (limI n b)) []) := by
  refine Z_call (pf := F102) rfl rfl ?_
  by_cases h0 : n = 0
  · simp [F102, vclamp_Z, limI, h0]
  · by_cases h1 : n = 1
    · simp [F102, vclamp_Z, limI, h0, h1]
    · by_cases h2 : n = 2
      · simp [F102, vclamp_Z, limI, h0, h1, h2]
      · by_cases h3 : n = 3
        · simp [F102, vclamp_Z, limI, h0, h1, h2, h3]
        · simp [F102, vclamp_Z, limI, h0, h1, h2, h3]
end Go.Pm
end SV5
