/- Chapter 13's generator: choices, expressions. Chapter 13's generator: all expressions. Chapter 13's generator: statements. Chapter 13's generator: blocks and whole programs. Chapter 13's generator: whole programs. -/
import Derived.Test.YtdnnjabacgpfdaaGreatDoorPmEt
import Derived.Test.YtdnnjabacgpfdaaGreatDoorPmTb14
import Derived.Test.YtdnnjabacgpfdaaGreatDoorPmW2
set_option linter.unusedSimpArgs false
set_option linter.unusedVariables false
section SG1
namespace Go.Pm
open F
theorem around_b {n m : Int} (h1 : I64 n) (hm : 1 <= m) : Z base15 (.call 17 [.int n, .int m] []) = some (.ret (.int (around n m)) []) := by
 refine Z_call (pf := F17) rfl rfl ?_
 unfold around
 have hm0 : ¬ m = 0 := by omega
 by_cases h : n < 0
 · have w1 : IntKind.i64.wrap (n + 1) = n + 1 := wrap64 _ (by unfold I64 at h1; omega)
   have w2 : IntKind.i64.wrap (-(n + 1)) = -(n + 1) := wrap64 _ (by unfold I64 at h1; omega)
   simp [F17, h, hm0, w1, w2]
 · simp [F17, h, hm0]
abbrev gst (xs : List Int) (i : Int) : S := [.cells [.dat (intsD xs), .int i]]
def pickV (xs : List Int) (i m : Int) : Int := if (xs.length : Int) <= i then 0 else (around (xs.getD i.toNat 0) 1000000).tmod m
def pickI (xs : List Int) (i : Int) : Int := if (xs.length : Int) <= i then i else i + 1
theorem pickI_rng {xs : List Int} {i : Int} (h : 0 <= i /\ i <= 100) (hl : xs.length <= 100) : 0 <= pickI xs i /\ pickI xs i <= 100 := by
 unfold pickI; split <;> omega
theorem pickV_rng {xs : List Int} {i m : Int} (hx : ∀ x ∈ xs, I64 x) (hm : 1 <= m) : 0 <= pickV xs i m /\ pickV xs i m < m := by
 unfold pickV
 split
 · omega
 · have h0 : I64 (xs.getD i.toNat 0) := by
     rw [List.getD_eq_getElem?_getD]
     cases h : xs[i.toNat]? with
     | none => simp [I64]
     | some y => exact hx _ (List.mem_of_getElem? h)
   have := around_lt (m := 1000000) h0 (by omega)
   exact tmod_rng this.1 hm
theorem pick_Z {xs : List Int} {i m : Int} (hx : ∀ x ∈ xs, I64 x) (hi : 0 <= i /\ i <= 100) (hm : 1 <= m) :
   Z base15 (.call 136 [.ptr 0 0, .int m] (gst xs i)) = some (.ret (.int (pickV xs i m)) (gst xs (pickI xs i))) := by
 refine Z_call (pf := F136) rfl rfl ?_
 have hm0 : m ≠ 0 := by omega
 by_cases h : (xs.length : Int) <= i
 · simp [F136, h, pickV, pickI]
 · have a1 := at_intsD xs i hi.1 (by omega)
   have hlt : i.toNat < xs.length := by omega
   have a2 := cut_intsC xs i.toNat hlt
   have a3 := around_b (n := xs[i.toNat]) (m := 1000000) (hx _ (List.getElem_mem hlt)) (by omega)
   have w1 := wrap64 (i + 1) (by omega)
   simp [F136, w1, h, pickV, pickI, a1, a2, a3, hm0, hlt]
section
variable (k : Int) (s : ByteArray) (a b a' b' : Int) (t t' : ByteArray) (d d' : D)
theorem one_Z (h1 : V.one (.dat d) = true) (h2 : V.cells (.dat d) = [.dat d]) :
   Z base15 (.call 176 [.int k, .str s, .dat (.agg [.lit (.int .i64 a), .lit (.int .i64 b), .lit (.string t), d])] []) =
     some (.ret (.dat (.agg [.lit (.int .i64 k), .lit (.int .i64 0), .lit (.string s), .sl [.lit (.int .i64 a), .lit (.int .i64 b), .lit (.string t), d] 1 true])) []) := by
 refine Z_call (pf := F176) rfl rfl ?_
 simp [F176, h1, h2]
theorem two_Z (h1 : V.one (.dat d) = true) (h2 : V.cells (.dat d) = [.dat d]) (h3 : V.one (.dat d') = true) (h4 : V.cells (.dat d') = [.dat d']) :
   Z base15 (.call 178 [.int k, .str s, .dat (.agg [.lit (.int .i64 a), .lit (.int .i64 b), .lit (.string t), d]), .dat (.agg [.lit (.int .i64 a'), .lit (.int .i64 b'), .lit (.string t'), d'])] []) =
     some (.ret (.dat (.agg [.lit (.int .i64 k), .lit (.int .i64 0), .lit (.string s), .sl [.lit (.int .i64 a), .lit (.int .i64 b), .lit (.string t), d, .lit (.int .i64 a'), .lit (.int .i64 b'), .lit (.string t'), d'] 2 true])) []) := by
 refine Z_call (pf := F178) rfl rfl ?_
 simp [F178, h1, h2, h3, h4, List.range_succ]
end
def varG : List ByteArray := [⟨#[105]⟩, ⟨#[110]⟩, ⟨#[115, 117, 109]⟩, ⟨#[118, 51]⟩]
def varL : List ByteArray := varG ++ [⟨#[118]⟩]
def nameL : List ByteArray := [⟨#[115, 101, 108, 102]⟩, ⟨#[111, 116, 104, 101, 114]⟩, ⟨#[116, 105, 99, 107]⟩]
def storL : List ByteArray := [⟨#[120]⟩, ⟨#[121]⟩, ⟨#[118, 120]⟩, ⟨#[118, 121]⟩, ⟨#[97]⟩, ⟨#[98]⟩]
def fieldL : List ByteArray := storL ++ [⟨#[104, 105, 116]⟩, ⟨#[115, 116, 105, 108, 108]⟩]
def E.fine : E -> Prop
 | .int n => 0 <= n /\ n <= 2147483647
 | .bool n => n = 0 \/ n = 1
 | .var s => s ∈ varL
 | .name s => s ∈ nameL
 | .field _ s e => s ∈ fieldL /\ e.fine /\ e.ty = 1
 | .un _ neg e => e.fine /\ e.ty = if neg then 1 else 2
 | .bin _ o a b => a.fine /\ b.fine /\ a.ty = o.opd /\ b.ty = o.opd
def E.dp : E -> Nat
 | .field _ _ e => e.dp + 1
 | .un _ _ e => e.dp + 1
 | .bin _ _ a b => max a.dp b.dp + 1
 | _ => 0
def mxs : Nat -> Nat
 | 0 => 1
 | n + 1 => 2 * mxs n + 1
theorem mxs_pos (n : Nat) : 1 <= mxs n := by cases n <;> simp [mxs]
def GI (xs : List Int) (d i : Int) : Prop := ∃ (e : E) (i' : Int), (e.fine /\ e.ty = 1 /\ e.dp <= d.toNat /\ e.size <= mxs d.toNat) /\ (0 <= i' /\ i' <= 100) /\
 Z base15 (.call 177 [.ptr 0 0, .int d] (gst xs i)) = some (.ret e.node (gst xs i'))
def GB (xs : List Int) (d i : Int) : Prop := ∃ (e : E) (i' : Int), (e.fine /\ e.ty = 2 /\ e.dp <= d.toNat + 1 /\ e.size <= mxs (d.toNat + 1)) /\ (0 <= i' /\ i' <= 100) /\
 Z base15 (.call 179 [.ptr 0 0, .int d] (gst xs i)) = some (.ret e.node (gst xs i'))
theorem strL_at {l : List ByteArray} {p : Int} (h : 0 <= p /\ p < l.length) : ∃ s ∈ l, cutCells (strC l) p.toNat 1 = some [.lit (.string s)] :=
 ⟨_, List.getElem_mem (by omega : p.toNat < l.length), cut_strC l p.toNat (by omega)⟩
def nums : List Int := [0, 1, 2, 3, 7, 100, 1024, 2147483647]
def aops : List Bop := [.add, .sub, .mul, .div]
theorem aops_at {p : Int} (h : 0 <= p /\ p < 4) : ∃ o ∈ aops, cutCells (strC [⟨#[43]⟩, ⟨#[45]⟩, ⟨#[42]⟩, ⟨#[47]⟩]) p.toNat 1 = some [.lit (.string (Bop.str o))] := by
 obtain rfl | rfl | rfl | rfl : p = 0 \/ p = 1 \/ p = 2 \/ p = 3 := by omega
 · exact ⟨.add, by simp [aops], rfl⟩
 · exact ⟨.sub, by simp [aops], rfl⟩
 · exact ⟨.mul, by simp [aops], rfl⟩
 · exact ⟨.div, by simp [aops], rfl⟩
section
variable {xs : List Int} {i d : Int} (hx : ∀ x ∈ xs, I64 x) (hl : xs.length <= 100) (hi : 0 <= i /\ i <= 100)
include hx hl hi
def selI (xs : List Int) (d i : Int) : Int := if d <= 0 then (pickV xs i 12).tmod 6 else pickV xs i 12
theorem int_lit (h : selI xs d i = 0 \/ selI xs d i = 1) : GI xs d i := by
 have n1 := pick_Z (i := i) (m := 12) hx hi (by omega)
 have r1 := pickI_rng hi hl
 have n2 := pick_Z (i := pickI xs i) (m := 8) hx r1 (by omega)
 have r2 := pickI_rng r1 hl
 have p := pickV_rng (i := pickI xs i) (m := 8) hx (by omega)
 have hat := at_full (intsC nums) 8 true (pickV xs (pickI xs i) 8) p.1 (by omega)
 have hc := cut_intsC nums (pickV xs (pickI xs i) 8).toNat (by simp [nums]; omega)
 have hm : ∀ n ∈ nums, 0 <= n /\ n <= 2147483647 := by decide
 have hn := hm _ (List.getElem_mem (l := nums) (n := (pickV xs (pickI xs i) 8).toNat) (by simp [nums]; omega))
 generalize nums[(pickV xs (pickI xs i) 8).toNat]'_ = v at hc hn
 simp only [nums, intsC, List.map] at hat hc
 refine ⟨.int v, _, ⟨hn, rfl, Nat.zero_le _, mxs_pos _⟩, r2, ?_⟩
 refine Z_call (pf := F177) rfl rfl ?_
 unfold selI at h
 by_cases hd : d <= 0
 · rw [if_pos hd] at h
   rcases h with h | h <;> simp [F177, n1, n2, hd, h, hat, hc]
 · rw [if_neg hd] at h
   rcases h with h | h <;> simp [F177, n1, n2, hd, h, hat, hc]
theorem int_var (h : selI xs d i = 2 \/ selI xs d i = 3) : GI xs d i := by
 have n1 := pick_Z (i := i) (m := 12) hx hi (by omega)
 have r1 := pickI_rng hi hl
 have n2 := pick_Z (i := pickI xs i) (m := 4) hx r1 (by omega)
 have r2 := pickI_rng r1 hl
 have p := pickV_rng (i := pickI xs i) (m := 4) hx (by omega)
 have hat := at_full (strC varG) 4 true (pickV xs (pickI xs i) 4) p.1 (by omega)
 obtain ⟨s, hs, hc⟩ := strL_at (l := varG) (p := pickV xs (pickI xs i) 4) (by simpa [varG] using p)
 simp only [varG, strC, List.map] at hat hc
 refine ⟨.var s, _, ⟨List.mem_append_left _ hs, rfl, Nat.zero_le _, mxs_pos _⟩, r2, ?_⟩
 refine Z_call (pf := F177) rfl rfl ?_
 unfold selI at h
 by_cases hd : d <= 0
 · rw [if_pos hd] at h
   rcases h with h | h <;> simp [F177, n1, n2, hd, h, hat, hc]
 · rw [if_neg hd] at h
   rcases h with h | h <;> simp [F177, n1, n2, hd, h, hat, hc]
theorem int_name (h : selI xs d i = 4 \/ selI xs d i = 5) : GI xs d i := by
 have n1 := pick_Z (i := i) (m := 12) hx hi (by omega)
 have r1 := pickI_rng hi hl
 have n2 := pick_Z (i := pickI xs i) (m := 3) hx r1 (by omega)
 have r2 := pickI_rng r1 hl
 have p := pickV_rng (i := pickI xs i) (m := 3) hx (by omega)
 have hat := at_full (strC nameL) 3 true (pickV xs (pickI xs i) 3) p.1 (by omega)
 obtain ⟨s, hs, hc⟩ := strL_at (l := nameL) (p := pickV xs (pickI xs i) 3) (by simpa [nameL] using p)
 simp only [nameL, strC, List.map] at hat hc
 refine ⟨.name s, _, ⟨hs, rfl, Nat.zero_le _, mxs_pos _⟩, r2, ?_⟩
 refine Z_call (pf := F177) rfl rfl ?_
 unfold selI at h
 by_cases hd : d <= 0
 · rw [if_pos hd] at h
   rcases h with h | h <;> simp [F177, n1, n2, hd, h, hat, hc]
 · rw [if_neg hd] at h
   rcases h with h | h <;> simp [F177, n1, n2, hd, h, hat, hc]
theorem int_field (hd : ¬ d <= 0) (hd2 : d <= 1000) (ih : ∀ j, 0 <= j /\ j <= 100 -> GI xs (d - 1) j) (h : pickV xs i 12 = 6 \/ pickV xs i 12 = 7) : GI xs d i := by
 have n1 := pick_Z (i := i) (m := 12) hx hi (by omega)
 have r1 := pickI_rng hi hl
 have n2 := pick_Z (i := pickI xs i) (m := 8) hx r1 (by omega)
 have r2 := pickI_rng r1 hl
 have p := pickV_rng (i := pickI xs i) (m := 8) hx (by omega)
 have hat := at_full (strC fieldL) 8 true (pickV xs (pickI xs i) 8) p.1 (by omega)
 obtain ⟨s, hs, hc⟩ := strL_at (l := fieldL) (p := pickV xs (pickI xs i) 8) (by simpa [fieldL, storL] using p)
 simp only [fieldL, storL, strC, List.map, List.cons_append, List.nil_append] at hat hc
 obtain ⟨e, i', h1, h2, h3⟩ := ih _ r2
 have o := one_Z 11 s e.kind e.num e.str e.kids (by simp) (by simp)
 have w1 := wrap64 (d - 1) (by omega)
 have ed : d.toNat = (d - 1).toNat + 1 := by omega
 refine ⟨.field true s e, i', ⟨⟨hs, h1.1, h1.2.1⟩, by simp [h1.2.1], by rw [ed]; simp only [E.dp]; omega, by rw [ed]; simp only [mxs, size_field]; omega⟩, h2, ?_⟩
 refine Z_call (pf := F177) rfl rfl ?_
 rcases h with h | h <;> simp [F177, n1, n2, hd, h, hat, hc, h3, o, w1]
theorem int_neg (hd : ¬ d <= 0) (hd2 : d <= 1000) (ih : ∀ j, 0 <= j /\ j <= 100 -> GI xs (d - 1) j) (h : pickV xs i 12 = 8) : GI xs d i := by
 have n1 := pick_Z (i := i) (m := 12) hx hi (by omega)
 have r1 := pickI_rng hi hl
 obtain ⟨e, i', h1, h2, h3⟩ := ih _ r1
 have o := one_Z 13 ⟨#[45]⟩ e.kind e.num e.str e.kids (by simp) (by simp)
 have w1 := wrap64 (d - 1) (by omega)
 have ed : d.toNat = (d - 1).toNat + 1 := by omega
 refine ⟨.un true true e, i', ⟨⟨h1.1, h1.2.1⟩, by simp [h1.2.1], by rw [ed]; simp only [E.dp]; omega, by rw [ed]; simp only [mxs, size_un]; omega⟩, h2, ?_⟩
 refine Z_call (pf := F177) rfl rfl ?_
 simp [F177, n1, hd, h, h3, o, w1, ustr]
theorem int_bin (hd : ¬ d <= 0) (hd2 : d <= 1000) (ih : ∀ j, 0 <= j /\ j <= 100 -> GI xs (d - 1) j) (h : 9 <= pickV xs i 12) : GI xs d i := by
 have n1 := pick_Z (i := i) (m := 12) hx hi (by omega)
 have r1 := pickI_rng hi hl
 have n2 := pick_Z (i := pickI xs i) (m := 4) hx r1 (by omega)
 have r2 := pickI_rng r1 hl
 have p := pickV_rng (i := pickI xs i) (m := 4) hx (by omega)
 have hat := at_full (strC [⟨#[43]⟩, ⟨#[45]⟩, ⟨#[42]⟩, ⟨#[47]⟩]) 4 true (pickV xs (pickI xs i) 4) p.1 (by omega)
 obtain ⟨o, ho, hc⟩ := aops_at p
 simp only [strC, List.map] at hat hc
 obtain ⟨a, i1, h1, h2, h3⟩ := ih _ r2
 obtain ⟨b, i2, h4, h5, h6⟩ := ih _ h2
 have ot := two_Z 14 o.str a.kind a.num b.kind b.num a.str b.str a.kids b.kids (by simp) (by simp) (by simp) (by simp)
 have w1 := wrap64 (d - 1) (by omega)
 have ed : d.toNat = (d - 1).toNat + 1 := by omega
 have ho1 : o.opd = 1 /\ o.res = 1 := by
   simp only [aops, List.mem_cons, List.not_mem_nil, or_false] at ho
   rcases ho with rfl | rfl | rfl | rfl <;> exact ⟨rfl, rfl⟩
 refine ⟨.bin true o a b, i2, ⟨⟨h1.1, h4.1, by rw [ho1.1]; exact h1.2.1, by rw [ho1.1]; exact h4.2.1⟩, by simp [h1.2.1, h4.2.1, ho1.1, ho1.2], by rw [ed]; simp only [E.dp]; omega, by rw [ed]; simp only [mxs, size_bin]; omega⟩, h5, ?_⟩
 refine Z_call (pf := F177) rfl rfl ?_
 have k0 : ¬ pickV xs i 12 = 0 := by omega
 have k1 : ¬ pickV xs i 12 = 1 := by omega
 have k2 : ¬ pickV xs i 12 = 2 := by omega
 have k3 : ¬ pickV xs i 12 = 3 := by omega
 have k4 : ¬ pickV xs i 12 = 4 := by omega
 have k5 : ¬ pickV xs i 12 = 5 := by omega
 have k6 : ¬ pickV xs i 12 = 6 := by omega
 have k7 : ¬ pickV xs i 12 = 7 := by omega
 have k8 : ¬ pickV xs i 12 = 8 := by omega
 simp [F177, n1, n2, hd, k0, k1, k2, k3, k4, k5, k6, k7, k8, hat, hc, h3, h6, ot, w1]
end
end Go.Pm
end SG1
section SG2
namespace Go.Pm
open F
theorem int_Z {xs : List Int} (hx : ∀ x ∈ xs, I64 x) (hl : xs.length <= 100) : ∀ (n : Nat) (d i : Int), d <= n -> n <= 1000 -> (0 <= i /\ i <= 100) -> GI xs d i
 | n, d, i, hd, hn, hi => by
   have p := pickV_rng (i := i) (m := 12) hx (by omega)
   by_cases h0 : d <= 0
   · have q := tmod_rng p.1 (m := 6) (by omega)
     have e : selI xs d i = (pickV xs i 12).tmod 6 := if_pos h0
     by_cases h1 : selI xs d i < 2
     · exact int_lit hx hl hi (by omega)
     by_cases h2 : selI xs d i < 4
     · exact int_var hx hl hi (by omega)
     · exact int_name hx hl hi (by omega)
   · have e : selI xs d i = pickV xs i 12 := if_neg h0
     by_cases h1 : selI xs d i < 2
     · exact int_lit hx hl hi (by omega)
     by_cases h2 : selI xs d i < 4
     · exact int_var hx hl hi (by omega)
     by_cases h3 : selI xs d i < 6
     · exact int_name hx hl hi (by omega)
     cases n with
     | zero => omega
     | succ n =>
       have ih : ∀ j, 0 <= j /\ j <= 100 -> GI xs (d - 1) j := fun j hj => int_Z hx hl n (d - 1) j (by omega) (by omega) hj
       by_cases h4 : selI xs d i < 8
       · exact int_field hx hl hi h0 (by omega) ih (by omega)
       by_cases h5 : selI xs d i = 8
       · exact int_neg hx hl hi h0 (by omega) ih (by omega)
       · exact int_bin hx hl hi h0 (by omega) ih (by omega)
def cops : List Bop := [.lt, .le, .gt, .ge, .eq, .ne]
theorem cops_at {p : Int} (h : 0 <= p /\ p < 6) : ∃ o ∈ cops, cutCells (strC [⟨#[60]⟩, ⟨#[60, 61]⟩, ⟨#[62]⟩, ⟨#[62, 61]⟩, ⟨#[61, 61]⟩, ⟨#[33, 61]⟩]) p.toNat 1 = some [.lit (.string (Bop.str o))] := by
 obtain rfl | rfl | rfl | rfl | rfl | rfl : p = 0 \/ p = 1 \/ p = 2 \/ p = 3 \/ p = 4 \/ p = 5 := by omega
 · exact ⟨.lt, by simp [cops], rfl⟩
 · exact ⟨.le, by simp [cops], rfl⟩
 · exact ⟨.gt, by simp [cops], rfl⟩
 · exact ⟨.ge, by simp [cops], rfl⟩
 · exact ⟨.eq, by simp [cops], rfl⟩
 · exact ⟨.ne, by simp [cops], rfl⟩
def gops : List Bop := [.and, .or]
theorem gops_at {p : Int} (h : 0 <= p /\ p < 2) : ∃ o ∈ gops, cutCells (strC [⟨#[38, 38]⟩, ⟨#[124, 124]⟩]) p.toNat 1 = some [.lit (.string (Bop.str o))] := by
 obtain rfl | rfl : p = 0 \/ p = 1 := by omega
 · exact ⟨.and, by simp [gops], rfl⟩
 · exact ⟨.or, by simp [gops], rfl⟩
def selB (xs : List Int) (d i : Int) : Int := if d <= 0 then (pickV xs i 8).tmod 4 else pickV xs i 8
section
variable {xs : List Int} {i d : Int} (hx : ∀ x ∈ xs, I64 x) (hl : xs.length <= 100) (hi : 0 <= i /\ i <= 100)
include hx hl hi
theorem bool_lit (h : selB xs d i = 0) : GB xs d i := by
 have n1 := pick_Z (i := i) (m := 8) hx hi (by omega)
 have r1 := pickI_rng hi hl
 have n2 := pick_Z (i := pickI xs i) (m := 2) hx r1 (by omega)
 have r2 := pickI_rng r1 hl
 have p := pickV_rng (i := pickI xs i) (m := 2) hx (by omega)
 refine ⟨.bool (pickV xs (pickI xs i) 2), _, ⟨by show _ \/ _; omega, rfl, Nat.zero_le _, mxs_pos _⟩, r2, ?_⟩
 refine Z_call (pf := F179) rfl rfl ?_
 unfold selB at h
 by_cases hd : d <= 0
 · rw [if_pos hd] at h
   simp [F179, n1, n2, hd, h]
 · rw [if_neg hd] at h
   simp [F179, n1, n2, hd, h]
theorem bool_cmp (hd2 : d <= 1000) (hd3 : -1000 <= d) (ih : ∀ j, 0 <= j /\ j <= 100 -> GI xs (d - 1) j) (h : 1 <= selB xs d i /\ selB xs d i <= 4) : GB xs d i := by
 have n1 := pick_Z (i := i) (m := 8) hx hi (by omega)
 have r1 := pickI_rng hi hl
 have n2 := pick_Z (i := pickI xs i) (m := 6) hx r1 (by omega)
 have r2 := pickI_rng r1 hl
 have p := pickV_rng (i := pickI xs i) (m := 6) hx (by omega)
 have hat := at_full (strC [⟨#[60]⟩, ⟨#[60, 61]⟩, ⟨#[62]⟩, ⟨#[62, 61]⟩, ⟨#[61, 61]⟩, ⟨#[33, 61]⟩]) 6 true (pickV xs (pickI xs i) 6) p.1 (by omega)
 obtain ⟨o, ho, hc⟩ := cops_at p
 simp only [strC, List.map] at hat hc
 obtain ⟨a, i1, h1, h2, h3⟩ := ih _ r2
 obtain ⟨b, i2, h4, h5, h6⟩ := ih _ h2
 have ot := two_Z 14 o.str a.kind a.num b.kind b.num a.str b.str a.kids b.kids (by simp) (by simp) (by simp) (by simp)
 have w1 := wrap64 (d - 1) (by omega)
 have ed : (d - 1).toNat <= d.toNat := by omega
 have hm : mxs (d - 1).toNat <= mxs d.toNat := by
   by_cases h0 : d <= 0
   · rw [show (d - 1).toNat = 0 by omega]; exact mxs_pos _
   · rw [show d.toNat = (d - 1).toNat + 1 by omega]; simp only [mxs]; omega
 have ho1 : o.opd = 1 /\ o.res = 2 := by
   simp only [cops, List.mem_cons, List.not_mem_nil, or_false] at ho
   rcases ho with rfl | rfl | rfl | rfl | rfl | rfl <;> exact ⟨rfl, rfl⟩
 refine ⟨.bin true o a b, i2, ⟨⟨h1.1, h4.1, by rw [ho1.1]; exact h1.2.1, by rw [ho1.1]; exact h4.2.1⟩, by simp [h1.2.1, h4.2.1, ho1.1, ho1.2], by simp only [E.dp]; omega, by simp only [mxs, size_bin]; omega⟩, h5, ?_⟩
 refine Z_call (pf := F179) rfl rfl ?_
 unfold selB at h
 by_cases hd : d <= 0
 · rw [if_pos hd] at h
   obtain h' | h' | h' | h' : (pickV xs i 8).tmod 4 = 1 \/ (pickV xs i 8).tmod 4 = 2 \/ (pickV xs i 8).tmod 4 = 3 \/ (pickV xs i 8).tmod 4 = 4 := by omega
   all_goals simp [F179, n1, n2, hd, h', hat, hc, h3, h6, ot, w1]
 · rw [if_neg hd] at h
   obtain h' | h' | h' | h' : pickV xs i 8 = 1 \/ pickV xs i 8 = 2 \/ pickV xs i 8 = 3 \/ pickV xs i 8 = 4 := by omega
   all_goals simp [F179, n1, n2, hd, h', hat, hc, h3, h6, ot, w1]
theorem bool_not (hd : ¬ d <= 0) (hd2 : d <= 1000) (ih : ∀ j, 0 <= j /\ j <= 100 -> GB xs (d - 1) j) (h : pickV xs i 8 = 5) : GB xs d i := by
 have n1 := pick_Z (i := i) (m := 8) hx hi (by omega)
 have r1 := pickI_rng hi hl
 obtain ⟨e, i', h1, h2, h3⟩ := ih _ r1
 have o := one_Z 13 ⟨#[33]⟩ e.kind e.num e.str e.kids (by simp) (by simp)
 have w1 := wrap64 (d - 1) (by omega)
 have ed : d.toNat = (d - 1).toNat + 1 := by omega
 refine ⟨.un true false e, i', ⟨⟨h1.1, h1.2.1⟩, by simp [h1.2.1], by rw [ed]; simp only [E.dp]; omega, by rw [ed]; have := h1.2.2.2; simp only [mxs, size_un] at *; omega⟩, h2, ?_⟩
 refine Z_call (pf := F179) rfl rfl ?_
 simp [F179, n1, hd, h, h3, o, w1, ustr]
theorem bool_log (hd : ¬ d <= 0) (hd2 : d <= 1000) (ih : ∀ j, 0 <= j /\ j <= 100 -> GB xs (d - 1) j) (h : pickV xs i 8 = 6 \/ pickV xs i 8 = 7) : GB xs d i := by
 have n1 := pick_Z (i := i) (m := 8) hx hi (by omega)
 have r1 := pickI_rng hi hl
 have n2 := pick_Z (i := pickI xs i) (m := 2) hx r1 (by omega)
 have r2 := pickI_rng r1 hl
 have p := pickV_rng (i := pickI xs i) (m := 2) hx (by omega)
 have hat := at_full (strC [⟨#[38, 38]⟩, ⟨#[124, 124]⟩]) 2 true (pickV xs (pickI xs i) 2) p.1 (by omega)
 obtain ⟨o, ho, hc⟩ := gops_at p
 simp only [strC, List.map] at hat hc
 obtain ⟨a, i1, h1, h2, h3⟩ := ih _ r2
 obtain ⟨b, i2, h4, h5, h6⟩ := ih _ h2
 have ot := two_Z 14 o.str a.kind a.num b.kind b.num a.str b.str a.kids b.kids (by simp) (by simp) (by simp) (by simp)
 have w1 := wrap64 (d - 1) (by omega)
 have ed : d.toNat = (d - 1).toNat + 1 := by omega
 have ho1 : o.opd = 2 /\ o.res = 2 := by
   simp only [gops, List.mem_cons, List.not_mem_nil, or_false] at ho
   rcases ho with rfl | rfl <;> exact ⟨rfl, rfl⟩
 refine ⟨.bin true o a b, i2, ⟨⟨h1.1, h4.1, by rw [ho1.1]; exact h1.2.1, by rw [ho1.1]; exact h4.2.1⟩, by simp [h1.2.1, h4.2.1, ho1.1, ho1.2], by rw [ed]; simp only [E.dp]; omega, by rw [ed]; have := h1.2.2.2; have := h4.2.2.2; simp only [mxs, size_bin] at *; omega⟩, h5, ?_⟩
 refine Z_call (pf := F179) rfl rfl ?_
 rcases h with h | h <;> simp [F179, n1, n2, hd, h, hat, hc, h3, h6, ot, w1]
end
theorem bool_Z {xs : List Int} (hx : ∀ x ∈ xs, I64 x) (hl : xs.length <= 100) : ∀ (n : Nat) (d i : Int), d <= n -> -100 <= d -> n <= 1000 -> (0 <= i /\ i <= 100) -> GB xs d i
 | n, d, i, hd, hd', hn, hi => by
   have p := pickV_rng (i := i) (m := 8) hx (by omega)
   have ihI : ∀ j, 0 <= j /\ j <= 100 -> GI xs (d - 1) j := fun j hj => int_Z hx hl n (d - 1) j (by omega) (by omega) hj
   by_cases h0 : d <= 0
   · have q := tmod_rng p.1 (m := 4) (by omega)
     have e : selB xs d i = (pickV xs i 8).tmod 4 := if_pos h0
     by_cases h1 : selB xs d i = 0
     · exact bool_lit hx hl hi h1
     · exact bool_cmp hx hl hi (by omega) (by omega) ihI (by omega)
   · have e : selB xs d i = pickV xs i 8 := if_neg h0
     by_cases h1 : selB xs d i = 0
     · exact bool_lit hx hl hi h1
     by_cases h2 : selB xs d i <= 4
     · exact bool_cmp hx hl hi (by omega) (by omega) ihI (by omega)
     cases n with
     | zero => omega
     | succ n =>
       have ih : ∀ j, 0 <= j /\ j <= 100 -> GB xs (d - 1) j := fun j hj => bool_Z hx hl n (d - 1) j (by omega) (by omega) (by omega) hj
       by_cases h4 : pickV xs i 8 = 5
       · exact bool_not hx hl hi h0 (by omega) ih h4
       · exact bool_log hx hl hi h0 (by omega) ih (by omega)
end Go.Pm
end SG2
section SG3
namespace Go.Pm
open F
def Ss.fine : Ss -> Prop
 | .nil => True
 | .assign _ s e r => (s ∈ varL /\ e.fine /\ e.ty = 1) /\ r.fine
 | .store _ s a b r => (s ∈ storL /\ a.fine /\ a.ty = 1 /\ b.fine /\ b.ty = 1) /\ r.fine
 | .effect _ a b r => (a.fine /\ a.ty = 1 /\ b.fine /\ b.ty = 1) /\ r.fine
 | .stop r => r.fine
 | .cond false _ c (.block _ x (.block _ y .nil)) r => (c.fine /\ c.ty = 2) /\ x.fine /\ y.fine /\ r.fine
 | .cond true _ c (.block _ x .nil) r => (c.fine /\ c.ty = 2) /\ x.fine /\ r.fine
 | _ => False
def Ss.dp : Ss -> Nat
 | .nil => 0
 | .assign _ _ _ r => r.dp
 | .store _ _ _ _ r => r.dp
 | .effect _ _ _ r => r.dp
 | .stop r => r.dp
 | .cond _ _ _ b r => max (b.dp + 1) r.dp
 | .block _ b r => max b.dp r.dp
def Ss.edp : Ss -> Nat
 | .nil => 0
 | .assign _ _ e r => max e.dp r.edp
 | .store _ _ a b r => max (max a.dp b.dp) r.edp
 | .effect _ a b r => max (max a.dp b.dp) r.edp
 | .stop r => r.edp
 | .cond _ _ c b r => max (max c.dp b.edp) r.edp
 | .block _ b r => max b.edp r.edp
def ssz : Nat -> Nat
 | 0 => 20
 | n + 1 => 20 + 4 * ssz n
theorem ssz_pos (n : Nat) : 20 <= ssz n := by cases n <;> simp [ssz]
def GS (xs : List Int) (d i : Int) : Prop := ∃ (st : Ss) (k n : Int) (s : ByteArray) (f : Bool) (ks : Fo) (i' : Int), st.fo = .cons k n s f ks .nil /\
 (st.fine /\ st.dp <= d.toNat /\ st.edp <= 3 /\ st.fo.size <= ssz d.toNat) /\ (0 <= i' /\ i' <= 100) /\ Z base15 (.call 162 [.ptr 0 0, .int d] (gst xs i)) = some (.ret (nd k n s f ks) (gst xs i'))
def GK (xs : List Int) (d m i : Int) : Prop := ∃ (b : Ss) (i' : Int), (b.fine /\ b.dp <= d.toNat /\ b.edp <= 3 /\ b.fo.size <= m.toNat * ssz d.toNat) /\ (0 <= i' /\ i' <= 100) /\
 Z base15 (.call 137 [.ptr 0 0, .int d, .int m] (gst xs i)) = some (.ret (nd 7 0 ⟨#[]⟩ false b.fo) (gst xs i'))
def selS (xs : List Int) (d i : Int) : Int := if d <= 0 then (pickV xs i 10).tmod 7 else pickV xs i 10
section
variable {xs : List Int} {i d : Int} (hx : ∀ x ∈ xs, I64 x) (hl : xs.length <= 100) (hi : 0 <= i /\ i <= 100)
include hx hl hi
theorem st_assign (h : selS xs d i = 0 \/ selS xs d i = 1) : GS xs d i := by
 have n1 := pick_Z (i := i) (m := 10) hx hi (by omega)
 have r1 := pickI_rng hi hl
 have n2 := pick_Z (i := pickI xs i) (m := 4) hx r1 (by omega)
 have r2 := pickI_rng r1 hl
 have p := pickV_rng (i := pickI xs i) (m := 4) hx (by omega)
 have hat := at_full (strC varG) 4 true (pickV xs (pickI xs i) 4) p.1 (by omega)
 obtain ⟨s, hs, hc⟩ := strL_at (l := varG) (p := pickV xs (pickI xs i) 4) (by simpa [varG] using p)
 simp only [varG, strC, List.map] at hat hc
 obtain ⟨e, i', h1, h2, h3⟩ := int_Z hx hl 2 2 _ (by omega) (by omega) r2
 rw [show (2 : Int).toNat = 2 from rfl] at h1
 have o := one_Z 1 s e.kind e.num e.str e.kids (by simp) (by simp)
 have hz : mxs 2 = 7 := rfl
 have hp := ssz_pos d.toNat
 refine ⟨.assign true s e .nil, 1, 0, s, true, e.fo .nil, i', rfl, ⟨⟨⟨List.mem_append_left _ hs, h1.1, h1.2.1⟩, trivial⟩, Nat.zero_le _, by simp only [Ss.edp]; omega, by simp only [Ss.fo, fo_size_cons, fo_size, fo_size_nil]; omega⟩, h2, ?_⟩
 refine Z_call (pf := F162) rfl rfl ?_
 unfold selS at h
 by_cases hd : d <= 0
 · rw [if_pos hd] at h
   rcases h with h | h <;> simp [F162, n1, n2, hd, h, hat, hc, h3, o]
 · rw [if_neg hd] at h
   rcases h with h | h <;> simp [F162, n1, n2, hd, h, hat, hc, h3, o]
theorem st_store (h : selS xs d i = 2 \/ selS xs d i = 3 \/ selS xs d i = 4) : GS xs d i := by
 have n1 := pick_Z (i := i) (m := 10) hx hi (by omega)
 have r1 := pickI_rng hi hl
 have n2 := pick_Z (i := pickI xs i) (m := 6) hx r1 (by omega)
 have r2 := pickI_rng r1 hl
 have p := pickV_rng (i := pickI xs i) (m := 6) hx (by omega)
 have hat := at_full (strC storL) 6 true (pickV xs (pickI xs i) 6) p.1 (by omega)
 obtain ⟨s, hs, hc⟩ := strL_at (l := storL) (p := pickV xs (pickI xs i) 6) (by simpa [storL] using p)
 simp only [storL, strC, List.map] at hat hc
 obtain ⟨a, i1, h1, h2, h3⟩ := int_Z hx hl 1 1 _ (by omega) (by omega) r2
 obtain ⟨b, i2, h4, h5, h6⟩ := int_Z hx hl 2 2 _ (by omega) (by omega) h2
 rw [show (2 : Int).toNat = 2 from rfl] at h4
 rw [show (1 : Int).toNat = 1 from rfl] at h1
 have o := two_Z 2 s a.kind a.num b.kind b.num a.str b.str a.kids b.kids (by simp) (by simp) (by simp) (by simp)
 have hz : mxs 2 = 7 := rfl
 have hz1 : mxs 1 = 3 := rfl
 have hp := ssz_pos d.toNat
 refine ⟨.store true s a b .nil, 2, 0, s, true, a.fo (b.fo .nil), i2, rfl, ⟨⟨⟨hs, h1.1, h1.2.1, h4.1, h4.2.1⟩, trivial⟩, Nat.zero_le _, by simp only [Ss.edp]; omega, by simp only [Ss.fo, fo_size_cons, fo_size, fo_size_nil]; omega⟩, h5, ?_⟩
 refine Z_call (pf := F162) rfl rfl ?_
 unfold selS at h
 by_cases hd : d <= 0
 · rw [if_pos hd] at h
   rcases h with h | h | h <;> simp [F162, n1, n2, hd, h, hat, hc, h3, h6, o]
 · rw [if_neg hd] at h
   rcases h with h | h | h <;> simp [F162, n1, n2, hd, h, hat, hc, h3, h6, o]
theorem st_effect (h : selS xs d i = 5) : GS xs d i := by
 have n1 := pick_Z (i := i) (m := 10) hx hi (by omega)
 have r1 := pickI_rng hi hl
 obtain ⟨a, i1, h1, h2, h3⟩ := int_Z hx hl 1 0 _ (by omega) (by omega) r1
 obtain ⟨b, i2, h4, h5, h6⟩ := int_Z hx hl 1 1 _ (by omega) (by omega) h2
 rw [show (0 : Int).toNat = 0 from rfl] at h1
 rw [show (1 : Int).toNat = 1 from rfl] at h4
 have o := two_Z 5 ⟨#[]⟩ a.kind a.num b.kind b.num a.str b.str a.kids b.kids (by simp) (by simp) (by simp) (by simp)
 have hz : mxs 0 = 1 := rfl
 have hz1 : mxs 1 = 3 := rfl
 have hp := ssz_pos d.toNat
 refine ⟨.effect true a b .nil, 5, 0, _, true, a.fo (b.fo .nil), i2, rfl, ⟨⟨⟨h1.1, h1.2.1, h4.1, h4.2.1⟩, trivial⟩, Nat.zero_le _, by simp only [Ss.edp]; omega, by simp only [Ss.fo, fo_size_cons, fo_size, fo_size_nil]; omega⟩, h5, ?_⟩
 refine Z_call (pf := F162) rfl rfl ?_
 unfold selS at h
 by_cases hd : d <= 0
 · rw [if_pos hd] at h
   simp [F162, n1, hd, h, h3, h6, o]
 · rw [if_neg hd] at h
   simp [F162, n1, hd, h, h3, h6, o]
theorem st_six (h : selS xs d i = 6) : GS xs d i := by
 have n1 := pick_Z (i := i) (m := 10) hx hi (by omega)
 have r1 := pickI_rng hi hl
 have n2 := pick_Z (i := pickI xs i) (m := 3) hx r1 (by omega)
 have r2 := pickI_rng r1 hl
 have p := pickV_rng (i := pickI xs i) (m := 3) hx (by omega)
 have hp := ssz_pos d.toNat
 by_cases h0 : 0 < pickV xs (pickI xs i) 3
 · obtain ⟨e, i', h1, h2, h3⟩ := int_Z hx hl 1 1 _ (by omega) (by omega) r2
   rw [show (1 : Int).toNat = 1 from rfl] at h1
   have o := one_Z 1 ⟨#[110]⟩ e.kind e.num e.str e.kids (by simp) (by simp)
   have hz : mxs 1 = 3 := rfl
   refine ⟨.assign true ⟨#[110]⟩ e .nil, 1, 0, _, true, e.fo .nil, i', rfl, ⟨⟨⟨by simp [varL, varG], h1.1, h1.2.1⟩, trivial⟩, Nat.zero_le _, by simp only [Ss.edp]; omega, by simp only [Ss.fo, fo_size_cons, fo_size, fo_size_nil]; omega⟩, h2, ?_⟩
   refine Z_call (pf := F162) rfl rfl ?_
   unfold selS at h
   by_cases hd : d <= 0
   · rw [if_pos hd] at h
     simp [F162, n1, n2, hd, h, h0, h3, o]
   · rw [if_neg hd] at h
     simp [F162, n1, n2, hd, h, h0, h3, o]
 · refine ⟨.stop .nil, 6, 0, _, false, .nil, _, rfl, ⟨trivial, Nat.zero_le _, Nat.zero_le _, by simp only [Ss.fo, fo_size_cons, fo_size_nil]; omega⟩, r2, ?_⟩
   refine Z_call (pf := F162) rfl rfl ?_
   unfold selS at h
   by_cases hd : d <= 0
   · rw [if_pos hd] at h
     simp [F162, n1, n2, hd, h, h0]
   · rw [if_neg hd] at h
     simp [F162, n1, n2, hd, h, h0]
theorem st_while (hd : ¬ d <= 0) (hd2 : d <= 1000) (ih : ∀ j, 0 <= j /\ j <= 100 -> GK xs (d - 1) 2 j) (h : pickV xs i 10 = 7) : GS xs d i := by
 have n1 := pick_Z (i := i) (m := 10) hx hi (by omega)
 have r1 := pickI_rng hi hl
 obtain ⟨c, i1, h1, h2, h3⟩ := bool_Z hx hl 1 1 _ (by omega) (by omega) (by omega) r1
 obtain ⟨b, i2, h4, h5, h6⟩ := ih _ h2
 rw [show (1 : Int).toNat = 1 from rfl] at h1
 have ed : d.toNat = (d - 1).toNat + 1 := by omega
 rw [show (2 : Int).toNat = 2 from rfl] at h4
 have hz : mxs (1 + 1) = 7 := rfl
 have o := two_Z 4 ⟨#[]⟩ c.kind c.num 7 0 c.str ⟨#[]⟩ c.kids (kd false b.fo.len b.fo.cells) (by simp) (by simp) (by simp) (by simp)
 have w1 := wrap64 (d - 1) (by omega)
 refine ⟨.cond true true c (.block false b .nil) .nil, 4, 0, _, true, c.fo (.cons 7 0 ⟨#[]⟩ false b.fo .nil), i2, rfl, ⟨⟨⟨h1.1, h1.2.1⟩, h4.1, trivial⟩, by simp only [Ss.dp]; omega, by simp only [Ss.edp]; omega, by rw [ed]; simp only [Ss.fo, fo_size_cons, fo_size, fo_size_nil, ssz]; omega⟩, h5, ?_⟩
 refine Z_call (pf := F162) rfl rfl ?_
 simp [F162, n1, hd, h, h3, h6, o, w1]
theorem st_if (hd : ¬ d <= 0) (hd2 : d <= 1000) (ih : ∀ j, 0 <= j /\ j <= 100 -> GK xs (d - 1) 2 j) (h : 8 <= pickV xs i 10) : GS xs d i := by
 have n1 := pick_Z (i := i) (m := 10) hx hi (by omega)
 have r1 := pickI_rng hi hl
 obtain ⟨c, i1, h1, h2, h3⟩ := bool_Z hx hl 2 2 _ (by omega) (by omega) (by omega) r1
 obtain ⟨a, i2, h4, h5, h6⟩ := ih _ h2
 have n2 := pick_Z (i := i2) (m := 2) hx h5 (by omega)
 have r2 := pickI_rng h5 hl
 obtain ⟨b, i3, h7, h8, h9⟩ := ih _ r2
 rw [show (2 : Int).toNat = 2 from rfl] at h1 h4 h7
 have ed : d.toNat = (d - 1).toNat + 1 := by omega
 have hz : mxs (2 + 1) = 15 := rfl
 have w1 := wrap64 (d - 1) (by omega)
 have k0 : ¬ pickV xs i 10 = 0 := by omega
 have k1 : ¬ pickV xs i 10 = 1 := by omega
 have k2 : ¬ pickV xs i 10 = 2 := by omega
 have k3 : ¬ pickV xs i 10 = 3 := by omega
 have k4 : ¬ pickV xs i 10 = 4 := by omega
 have k5 : ¬ pickV xs i 10 = 5 := by omega
 have k6 : ¬ pickV xs i 10 = 6 := by omega
 have k7 : ¬ pickV xs i 10 = 7 := by omega
 by_cases h0 : pickV xs i2 2 = 1
 · refine ⟨.cond false true c (.block false a (.block false b .nil)) .nil, 3, 0, _, true, c.fo (.cons 7 0 ⟨#[]⟩ false a.fo (.cons 7 0 ⟨#[]⟩ false b.fo .nil)), i3, rfl, ⟨⟨⟨h1.1, h1.2.1⟩, h4.1, h7.1, trivial⟩, by simp only [Ss.dp]; omega, by simp only [Ss.edp]; omega, by rw [ed]; simp only [Ss.fo, fo_size_cons, fo_size, fo_size_nil, ssz]; omega⟩, h8, ?_⟩
   refine Z_call (pf := F162) rfl rfl ?_
   simp [F162, n1, n2, hd, h0, k0, k1, k2, k3, k4, k5, k6, k7, h3, h6, h9, w1, List.range_succ]
 · refine ⟨.cond false true c (.block false a (.block false .nil .nil)) .nil, 3, 0, _, true, c.fo (.cons 7 0 ⟨#[]⟩ false a.fo (.cons 7 0 ⟨#[]⟩ false .nil .nil)), _, rfl, ⟨⟨⟨h1.1, h1.2.1⟩, h4.1, trivial, trivial⟩, by simp only [Ss.dp]; omega, by simp only [Ss.edp]; omega, by rw [ed]; simp only [Ss.fo, fo_size_cons, fo_size, fo_size_nil, ssz]; omega⟩, r2, ?_⟩
   refine Z_call (pf := F162) rfl rfl ?_
   simp [F162, n1, n2, hd, h0, k0, k1, k2, k3, k4, k5, k6, k7, h3, h6, w1, List.range_succ]
end
end Go.Pm
end SG3
section SG4
namespace Go.Pm
open F
theorem app_fine {a b : Ss} (ha : a.fine) (hb : b.fine) : (a.app b).fine := by
 fun_induction Ss.fine a with
 | case1 => exact hb
 | case2 _ _ _ _ ih => exact ⟨ha.1, ih ha.2⟩
 | case3 _ _ _ _ _ ih => exact ⟨ha.1, ih ha.2⟩
 | case4 _ _ _ _ ih => exact ⟨ha.1, ih ha.2⟩
 | case5 _ ih => exact ih ha
 | case6 _ _ _ _ _ _ _ _ _ ih => exact ⟨ha.1, ha.2.1, ha.2.2.1, ih ha.2.2.2⟩
 | case7 _ _ _ _ _ _ ih => exact ⟨ha.1, ha.2.1, ih ha.2.2⟩
 | case8 => exact ha.elim
theorem app_dp (a b : Ss) : (a.app b).dp = max a.dp b.dp := by
 induction a <;> simp_all [Ss.app, Ss.dp, Nat.max_assoc]
theorem app_edp (a b : Ss) : (a.app b).edp = max a.edp b.edp := by
 induction a <;> simp_all [Ss.app, Ss.edp, Nat.max_assoc]
section
variable {xs : List Int} {i d c : Int}
abbrev z4O : Ob := .cells [.int 0, .int 0, .str ⟨#[]⟩, .dat (.lit (.slice none 0 0))]
abbrev B0 (xs : List Int) (i : Int) : S := [.cells [.dat (intsD xs), .int i], z4O, .cells [.int 7, .int 0, .str ⟨#[]⟩, .dat (.lit (.slice none 0 0))]]
abbrev B1 (xs : List Int) (i : Int) (pre : Fo) : S := [.cells [.dat (intsD xs), .int i], z4O, .cells [.int 7, .int 0, .str ⟨#[]⟩, .gsl pre.cells pre.len 4 3], .tip pre.cells.length]
abbrev bfr (d c : Int) : Fr := [(0, .ptr 0 0), (1, .int d), (6, .ptr 1 0), (7, .ptr 2 0), (8, .int c)]
theorem b_end0 : Z base15 (.loop 1 F137l0 (bfr d 0) (B0 xs i)) = some (.out (.exit 0) (bfr d 0 ++ [(15, .bool false)]) (B0 xs i)) := by
 rw [Z_loop_eq]
 simp [loopStep, run_F137l0, List.range_succ]
theorem b_end1 {pre : Fo} : Z base15 (.loop 1 F137l0 (bfr d 0) (B1 xs i pre)) = some (.out (.exit 0) (bfr d 0 ++ [(15, .bool false)]) (B1 xs i pre)) := by
 rw [Z_loop_eq]
 simp [loopStep, run_F137l0, List.range_succ]
theorem b_step0 {i' : Int} {k n : Int} {s : ByteArray} {f : Bool} {ks : Fo} (hc : 0 < c) (hc' : c < 100) (h : Z base15 (.call 162 [.ptr 0 0, .int d] (gst xs i)) = some (.ret (nd k n s f ks) (gst xs i'))) :
   Z base15 (.loop 1 F137l0 (bfr d c) (B0 xs i)) = Z base15 (.loop 1 F137l0 (bfr d (c - 1)) (B1 xs i' (.cons k n s f ks .nil))) := by
 have w1 := wrap64 (c - 1) (by omega)
 conv => lhs; rw [Z_loop_eq]
 simp [loopStep, run_F137l0, hc, h, w1, appendV, srcV, roomFor, bfr, B1, z4O, List.range_succ]
theorem b_step1 {i' : Int} {k n : Int} {s : ByteArray} {f : Bool} {ks pre : Fo} (hp : pre.len < 1000) (hc : 0 < c) (hc' : c < 100) (h : Z base15 (.call 162 [.ptr 0 0, .int d] (gst xs i)) = some (.ret (nd k n s f ks) (gst xs i'))) :
   Z base15 (.loop 1 F137l0 (bfr d c) (B1 xs i pre)) = Z base15 (.loop 1 F137l0 (bfr d (c - 1)) (B1 xs i' (pre.app (.cons k n s f ks .nil)))) := by
 have w1 := wrap64 (c - 1) (by omega)
 have r1 : roomFor (pre.len + 1) 56 = true := by simp [roomFor]; omega
 have hl := fo_cells_len pre
 have hl2 := fo_cells_app pre (.cons k n s f ks .nil)
 have hl3 := fo_len_app pre (.cons k n s f ks .nil)
 simp only [fo_cells_cons, fo_cells_nil, fo_len_cons, fo_len_nil] at hl2 hl3
 conv => lhs; rw [Z_loop_eq]
 simp [loopStep, run_F137l0, hc, h, w1, appendV, srcV, r1, hl, hl2, hl3, bfr, B1, z4O, List.range_succ]
theorem b_loop1 (hS : ∀ j, 0 <= j /\ j <= 100 -> GS xs d j) : ∀ (m : Nat) (j : Int) (pre : Fo), m <= 3 -> (0 <= j /\ j <= 100) -> pre.len + m < 1000 -> 0 < pre.len ->
   ∃ (b : Ss) (i' : Int), (b.fine /\ b.dp <= d.toNat /\ b.edp <= 3 /\ b.fo.size <= m * ssz d.toNat) /\ (0 <= i' /\ i' <= 100) /\ Z base15 (.loop 1 F137l0 (bfr d m) (B1 xs j pre)) = some (.out (.exit 0) (bfr d 0 ++ [(15, .bool false)]) (B1 xs i' (pre.app b.fo)))
 | 0, j, pre, _, h1, hp, hp0 => ⟨.nil, j, ⟨trivial, Nat.zero_le _, Nat.zero_le _, by simp [Ss.fo]⟩, h1, by rw [show pre.app Ss.nil.fo = pre from app_nil pre]; exact b_end1⟩
 | m + 1, j, pre, hm, h1, hp, hp0 => by
   obtain ⟨st, k, n, s, f, ks, i1, g1, g2, g3, g4⟩ := hS j h1
   obtain ⟨b, i2, k1, k2, k3⟩ := b_loop1 hS m i1 (pre.app (.cons k n s f ks .nil)) (by omega) g3 (by rw [fo_len_app]; simp; omega) (by rw [fo_len_app]; simp)
   have hstep := b_step1 (d := d) (c := (m + 1 : Nat)) (by omega : pre.len < 1000) (by omega) (by omega) g4
   rw [show ((m + 1 : Nat) : Int) - 1 = m by omega] at hstep
   refine ⟨st.app b, i2, ⟨app_fine g2.1 k1.1, by rw [app_dp]; omega, by rw [app_edp]; omega, by rw [ss_app, fo_size_app, Nat.succ_mul]; omega⟩, k2, ?_⟩
   rw [hstep, k3, ss_app, <- app_assoc, g1]
theorem block_Z (hx : ∀ x ∈ xs, I64 x) (hl : xs.length <= 100) (hi : 0 <= i /\ i <= 100) {m : Int} (hm : 0 <= m) (hm4 : m <= 3) (hS : ∀ j, 0 <= j /\ j <= 100 -> GS xs d j) : GK xs d m i := by
 have n1 := pick_Z (i := i) (m := m + 1) hx hi (by omega)
 have l1 := pickV_rng (i := i) (m := m + 1) hx (by omega)
 have r1 := pickI_rng hi hl
 have w1 := wrap64 (m + 1) (by omega)
 by_cases h0 : pickV xs i (m + 1) = 0
 · refine ⟨.nil, _, ⟨trivial, Nat.zero_le _, Nat.zero_le _, by simp [Ss.fo]⟩, r1, ?_⟩
   have h := b_end0 (xs := xs) (i := pickI xs i) (d := d)
   refine Z_call (pf := F137) rfl rfl ?_
   simp only [bfr, List.cons_append, List.nil_append] at h
   simp [F137, n1, w1, h0, h, Ss.fo, List.range_succ]
 · obtain ⟨q, hq⟩ : ∃ q : Nat, pickV xs i (m + 1) = ((q + 1 : Nat) : Int) := ⟨(pickV xs i (m + 1) - 1).toNat, by omega⟩
   obtain ⟨st, k, n, s, f, ks, i1, g1, g2, g3, g4⟩ := hS _ r1
   obtain ⟨b, i2, k1, k2, k3⟩ := b_loop1 hS q i1 (.cons k n s f ks .nil) (by omega) g3 (by simp; omega) (by simp)
   have hstep := b_step0 (d := d) (c := (q + 1 : Nat)) (by omega) (by omega) g4
   rw [show ((q + 1 : Nat) : Int) - 1 = q by omega, k3, <- g1, <- ss_app, <- hq] at hstep
   have hmul : (q + 1) * ssz d.toNat <= m.toNat * ssz d.toNat := Nat.mul_le_mul_right _ (by omega)
   rw [Nat.succ_mul] at hmul
   refine ⟨st.app b, i2, ⟨app_fine g2.1 k1.1, by rw [app_dp]; omega, by rw [app_edp]; omega, by rw [ss_app, fo_size_app]; omega⟩, k2, ?_⟩
   have hpos : (st.app b).fo.len ≠ 0 := by rw [ss_app, fo_len_app, g1]; simp
   obtain ⟨z, hz⟩ : ∃ z, (st.app b).fo.len = z + 1 := ⟨(st.app b).fo.len - 1, by omega⟩
   have hg := fo_cells_len (st.app b).fo
   refine Z_call (pf := F137) rfl rfl ?_
   simp only [bfr, List.cons_append, List.nil_append] at hstep
   generalize (st.app b).fo = fo at *
   simp [F137, n1, w1, hstep, hz, List.range_succ]
theorem st_Z (hx : ∀ x ∈ xs, I64 x) (hl : xs.length <= 100) : ∀ (n : Nat), n <= 50 -> (∀ j, 0 <= j /\ j <= 100 -> GS xs n j) /\ (∀ j, 0 <= j /\ j <= 100 -> ∀ m, 0 <= m -> m <= 3 -> GK xs n m j)
 | 0, _ => by
   have hs : ∀ j, 0 <= j /\ j <= 100 -> GS xs (0 : Nat) j := fun i hi => by
     have p := pickV_rng (i := i) (m := 10) hx (by omega)
     have q := tmod_rng p.1 (m := 7) (by omega)
     have e : selS xs (0 : Nat) i = (pickV xs i 10).tmod 7 := if_pos (by simp)
     by_cases h1 : selS xs (0 : Nat) i < 2
     · exact st_assign hx hl hi (by omega)
     by_cases h2 : selS xs (0 : Nat) i < 5
     · exact st_store hx hl hi (by omega)
     by_cases h3 : selS xs (0 : Nat) i = 5
     · exact st_effect hx hl hi h3
     · exact st_six hx hl hi (by omega)
   exact ⟨hs, fun j hj m h0 h3 => block_Z hx hl hj h0 h3 hs⟩
 | n + 1, hn => by
   have ih := (st_Z hx hl n (by omega)).2
   have hd : ¬ ((n + 1 : Nat) : Int) <= 0 := by omega
   have hs : ∀ j, 0 <= j /\ j <= 100 -> GS xs (n + 1 : Nat) j := fun i hi => by
     have p := pickV_rng (i := i) (m := 10) hx (by omega)
     have e : selS xs (n + 1 : Nat) i = pickV xs i 10 := if_neg hd
     have ih' : ∀ j, 0 <= j /\ j <= 100 -> GK xs (((n + 1 : Nat) : Int) - 1) 2 j := fun j hj => by
       rw [show ((n + 1 : Nat) : Int) - 1 = n by omega]; exact ih j hj 2 (by omega) (by omega)
     by_cases h1 : selS xs (n + 1 : Nat) i < 2
     · exact st_assign hx hl hi (by omega)
     by_cases h2 : selS xs (n + 1 : Nat) i < 5
     · exact st_store hx hl hi (by omega)
     by_cases h3 : selS xs (n + 1 : Nat) i = 5
     · exact st_effect hx hl hi h3
     by_cases h4 : selS xs (n + 1 : Nat) i = 6
     · exact st_six hx hl hi h4
     by_cases h5 : selS xs (n + 1 : Nat) i = 7
     · exact st_while hx hl hi hd (by omega) ih' (by omega)
     · exact st_if hx hl hi hd (by omega) ih' (by omega)
   exact ⟨hs, fun j hj m h0 h3 => block_Z hx hl hj h0 h3 hs⟩
end
end Go.Pm
end SG4
section SG5
namespace Go.Pm
open F
theorem ints0_Z (o : Option Addr) (m : Int) (hm : 0 <= m) : Z base15 (.call 23 [.dat (.lit (.slice o 0 0)), .int m] []) = some (.ret (.dat (intsD [])) []) := by
 refine Z_call (pf := F23) rfl rfl ?_
 have h : ¬ m < 0 := by omega
 simp [F23, V.len, minI, lits, h, sliceV, bound, appendV, srcV, intsD]
theorem intsC_take (xs : List Int) (k : Nat) : (intsC xs).take k = intsC (xs.take k) := by simp [intsC, List.map_take]
theorem ints1_Z (xs : List Int) (k : Nat) (hk : k <= 1000) : Z base15 (.call 23 [.dat (.sl (intsC xs) xs.length false), .int k] []) = some (.ret (.dat (intsD (xs.take k))) []) := by
 refine Z_call (pf := F23) rfl rfl ?_
 have hl : (intsC xs).length = xs.length := by simp [intsC]
 have key : ∃ m : Nat, (if k < xs.length then (k : Int) else (xs.length : Int)) = (m : Int) /\ m <= xs.length /\ m <= 1000 /\ xs.take k = xs.take m /\ (xs.take m).length = m := by
   by_cases h : k < xs.length
   · exact ⟨k, by simp [h], by omega, hk, rfl, by simp; omega⟩
   · exact ⟨xs.length, by simp [h], Nat.le_refl _, by omega, by rw [List.take_of_length_le (by omega), List.take_of_length_le (Nat.le_refl _)], by simp⟩
 obtain ⟨m, e1, e2, e3, e4, e5⟩ := key
 rw [e4]
 cases hm : xs.take m with
 | nil =>
   rw [hm] at e5
   simp at e5
   subst e5
   simp [F23, V.len, minI, lits, e1, sliceV, bound, appendV, srcV, intsD, hl]
 | cons y ys =>
   have hm' := e5
   rw [hm] at hm'
   simp only [List.length_cons] at hm'
   have hne : m ≠ 0 := by omega
   have hr : roomFor m 8 = true := by simp [roomFor]; omega
   have ht : (intsC xs).take m = intsC (y :: ys) := by rw [intsC_take, hm]
   have hlen : (intsC (y :: ys)).length = m := by simp [intsC]; omega
   simp [F23, V.len, minI, lits, e1, sliceV, bound, appendV, srcV, intsD, hl, e2, ht, hlen, hne, hr, hm']
theorem ints_Z {v : D} {xs : List Int} (h : RowV v xs) (k : Nat) (hk : k <= 1000) : Z base15 (.call 23 [.dat v, .int k] []) = some (.ret (.dat (intsD (xs.take k))) []) := by
 rcases h with ⟨o, rfl, rfl⟩ | rfl
 · simpa using ints0_Z o k (by omega)
 · exact ints1_Z xs k hk
def Hd.ss : Hd -> Ss
 | .none => .nil
 | .some _ b => b
structure Hd.fine (h : Hd) : Prop where
 fine : h.ss.fine
 size : h.ss.fo.size <= 2000
structure Hd.gen (h : Hd) : Prop extends h.fine where
 f : h.f = false
 dp : h.ss.dp <= 2
 edp : h.ss.edp <= 3
 gsize : h.ss.fo.size <= 1260
theorem hd_ks_ss (h : Hd) : h.ks = h.ss.fo := by cases h <;> rfl
theorem none_gen : Hd.none.gen := ⟨⟨trivial, Nat.zero_le _⟩, rfl, Nat.zero_le _, Nat.zero_le _, Nat.zero_le _⟩
abbrev z12 : Ob := .cells [.int 0, .int 0, .str ⟨#[]⟩, .dat (.lit (.slice none 0 0)), .int 0, .int 0, .str ⟨#[]⟩, .dat (.lit (.slice none 0 0)), .int 0, .int 0, .str ⟨#[]⟩, .dat (.lit (.slice none 0 0))]
abbrev tst (xs : List Int) (i : Int) (a b c : Nd) : S := [z12, .cells [.dat (intsD xs), .int i], rbox a b c]
abbrev tfr (h : Int) : Fr := [(2, .ptr 0 0), (3, .ptr 1 0), (4, .ptr 2 0), (5, .int h)]
section
variable {xs : List Int} {i : Int} {a b c : Nd}
theorem t_end : Z base15 (.loop 0 F123l0 (tfr 3) (tst xs i a b c)) = some (.out (.exit 0) (tfr 3 ++ [(11, .bool false)]) (tst xs i a b c)) := by
 rw [Z_loop_eq]
 simp [loopStep, run_F123l0, List.range_succ]
theorem t_step0 (hx : ∀ x ∈ xs, I64 x) (hl : xs.length <= 100) (hi : 0 <= i /\ i <= 100) : ∃ (g : Hd) (i' : Int), g.gen /\ (0 <= i' /\ i' <= 100) /\ Z base15 (.loop 0 F123l0 (tfr 0) (tst xs i Hd.none.nd b c)) = Z base15 (.loop 0 F123l0 (tfr 1) (tst xs i' g.nd b c)) := by
 have n1 := pick_Z (i := i) (m := 4) hx hi (by omega)
 have r1 := pickI_rng hi hl
 have w1 := wrap64 1 (by omega)
 by_cases h2 : 0 < pickV xs i 4
 · obtain ⟨q, i', k1, k2, k3⟩ := (st_Z hx hl 2 (by omega)).2 _ r1 3 (by omega) (by omega)
   have hs : ssz 2 = 420 := rfl
   rw [show ((2 : Nat) : Int).toNat = 2 from rfl, show (3 : Int).toNat = 3 from rfl, hs] at k1
   refine ⟨.some false q, i', ⟨⟨k1.1, by show q.fo.size <= 2000; omega⟩, rfl, k1.2.1, k1.2.2.1, k1.2.2.2⟩, k2, ?_⟩
   simp at k3
   conv => lhs; rw [Z_loop_eq]
   simp [loopStep, run_F123l0, n1, h2, k3, w1, Nd.d, Hd.k, Hd.f, Hd.ks, tfr, tst, rbox, List.range_succ]
 · refine ⟨.none, _, none_gen, r1, ?_⟩
   conv => lhs; rw [Z_loop_eq]
   simp [loopStep, run_F123l0, n1, h2, w1, Nd.d, Hd.k, Hd.f, Hd.ks, tfr, tst, rbox, List.range_succ]
theorem t_step1 (hx : ∀ x ∈ xs, I64 x) (hl : xs.length <= 100) (hi : 0 <= i /\ i <= 100) : ∃ (g : Hd) (i' : Int), g.gen /\ (0 <= i' /\ i' <= 100) /\ Z base15 (.loop 0 F123l0 (tfr 1) (tst xs i a Hd.none.nd c)) = Z base15 (.loop 0 F123l0 (tfr 2) (tst xs i' a g.nd c)) := by
 have n1 := pick_Z (i := i) (m := 4) hx hi (by omega)
 have r1 := pickI_rng hi hl
 have w1 := wrap64 2 (by omega)
 by_cases h2 : 0 < pickV xs i 4
 · obtain ⟨q, i', k1, k2, k3⟩ := (st_Z hx hl 2 (by omega)).2 _ r1 3 (by omega) (by omega)
   have hs : ssz 2 = 420 := rfl
   rw [show ((2 : Nat) : Int).toNat = 2 from rfl, show (3 : Int).toNat = 3 from rfl, hs] at k1
   refine ⟨.some false q, i', ⟨⟨k1.1, by show q.fo.size <= 2000; omega⟩, rfl, k1.2.1, k1.2.2.1, k1.2.2.2⟩, k2, ?_⟩
   simp at k3
   conv => lhs; rw [Z_loop_eq]
   simp [loopStep, run_F123l0, n1, h2, k3, w1, Nd.d, Hd.k, Hd.f, Hd.ks, tfr, tst, rbox, List.range_succ]
 · refine ⟨.none, _, none_gen, r1, ?_⟩
   conv => lhs; rw [Z_loop_eq]
   simp [loopStep, run_F123l0, n1, h2, w1, Nd.d, Hd.k, Hd.f, Hd.ks, tfr, tst, rbox, List.range_succ]
theorem t_step2 (hx : ∀ x ∈ xs, I64 x) (hl : xs.length <= 100) (hi : 0 <= i /\ i <= 100) : ∃ (g : Hd) (i' : Int), g.gen /\ (0 <= i' /\ i' <= 100) /\ Z base15 (.loop 0 F123l0 (tfr 2) (tst xs i a b Hd.none.nd)) = Z base15 (.loop 0 F123l0 (tfr 3) (tst xs i' a b g.nd)) := by
 have n1 := pick_Z (i := i) (m := 4) hx hi (by omega)
 have r1 := pickI_rng hi hl
 have w1 := wrap64 3 (by omega)
 by_cases h2 : 0 < pickV xs i 4
 · obtain ⟨q, i', k1, k2, k3⟩ := (st_Z hx hl 2 (by omega)).2 _ r1 3 (by omega) (by omega)
   have hs : ssz 2 = 420 := rfl
   rw [show ((2 : Nat) : Int).toNat = 2 from rfl, show (3 : Int).toNat = 3 from rfl, hs] at k1
   refine ⟨.some false q, i', ⟨⟨k1.1, by show q.fo.size <= 2000; omega⟩, rfl, k1.2.1, k1.2.2.1, k1.2.2.2⟩, k2, ?_⟩
   simp at k3
   conv => lhs; rw [Z_loop_eq]
   simp [loopStep, run_F123l0, n1, h2, k3, w1, Nd.d, Hd.k, Hd.f, Hd.ks, tfr, tst, rbox, List.range_succ]
 · refine ⟨.none, _, none_gen, r1, ?_⟩
   conv => lhs; rw [Z_loop_eq]
   simp [loopStep, run_F123l0, n1, h2, w1, Nd.d, Hd.k, Hd.f, Hd.ks, tfr, tst, rbox, List.range_succ]
end
theorem Program_Z {v : D} {xs : List Int} (h : RowV v xs) (hx : ∀ x ∈ xs, I64 x) : ∃ a b c : Hd, a.gen /\ b.gen /\ c.gen /\ Z base15 (.call 123 [.dat v] []) = some (.ret (.dat (ru a.nd b.nd c.nd)) []) := by
 have hx' : ∀ x ∈ xs.take 60, I64 x := fun x hm => hx x (List.mem_of_mem_take hm)
 have hl' : (xs.take 60).length <= 100 := by simp; omega
 have n0 := ints_Z h 60 (by omega)
 obtain ⟨a, i1, a1, a2, a4⟩ := t_step0 (i := 0) (b := Hd.none.nd) (c := Hd.none.nd) hx' hl' (by omega)
 obtain ⟨b, i2, b1, b2, b4⟩ := t_step1 (i := i1) (a := a.nd) (c := Hd.none.nd) hx' hl' a2
 obtain ⟨c, i3, c1, c2, c4⟩ := t_step2 (i := i2) (a := a.nd) (b := b.nd) hx' hl' b2
 have hl := a4.trans (b4.trans (c4.trans t_end))
 refine ⟨a, b, c, a1, b1, c1, ?_⟩
 refine Z_call (pf := F123) rfl rfl ?_
 simp only [tfr, tst, rbox, Nd.d, hd_k, hd_n, hd_s, hd_f, hd_ks, List.cons_append, List.nil_append, show Hd.k .none = 0 from rfl, show Hd.f .none = false from rfl, show Hd.ks .none = .nil from rfl, z12, fo_len_nil, fo_cells_nil, kd_0] at hl
 simp at n0 hl
 simp [F123, n0, hl, ru, Nd.d, List.range_succ]
end Go.Pm
end SG5
