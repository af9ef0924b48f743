/- Chapter 14: the generators. -/
import Derived.Test.YtebhnnjdljcicaaPmQ2
set_option linter.unusedSimpArgs false
set_option linter.unusedVariables false
namespace Go.Pm
open F
def around (n m : Int) : Int := (if n < 0 then -(n+1) else n).tmod m
theorem around_Z {n m : Int} (h1 : I64 n) (hm : 1 ≤ m) : Z prog (.call 17 [.int n, .int m] []) = some (.ret (.int (around n m)) []) := by
  refine Z_call (pf := F17) rfl ?_
  have hm0 : m ≠ 0 := by omega
  unfold I64 at h1
  by_cases hn : n < 0
  · simp (disch := omega) [F17, hn, hm0, around, wrap64]
  · simp [F17, hn, hm0, around]
theorem around_lt {n m : Int} (h1 : I64 n) (hm : 1 ≤ m) : 0 ≤ around n m ∧ around n m < m := by
  unfold around
  split
  · exact ⟨Int.tmod_nonneg _ (by omega), Int.tmod_lt_of_pos _ (by omega)⟩
  · exact ⟨Int.tmod_nonneg _ (by omega), Int.tmod_lt_of_pos _ (by omega)⟩
theorem append_ints (σ : S) (xs : List Int) (h : xs.length ≤ 1000) : appendV σ 1 8 (.dat (.lit (.slice none 0 0))) (.dat (intsD xs)) = some (match xs with | [] => (.dat (.lit (.slice none 0 0)), σ) | _ => (.gsl (intsC xs) xs.length 1 σ.length, σ ++ [.tip xs.length])) := by
  cases xs with
  | nil => simp [appendV, srcV, intsD]
  | cons x xs =>
    simp only [List.length_cons] at h
    simp [appendV, srcV, intsD, intsC, roomFor]
    omega
def nextV (xs : List Int) (i m : Int) : Int := if i + 1 > xs.length then 0 else (around (xs.getD i.toNat 0) 1000000007).tmod m
theorem next_Z {xs : List Int} {i m : Int} (hx : ∀ x ∈ xs, I64 x) (hi : 0 ≤ i) (hi' : i < 2^62) (hm : 1 ≤ m) :
    Z prog (.call 25 [.ptr 0 0, .int m] [.cells [.dat (intsD xs), .int i]]) = some (.ret (.int (nextV xs i m)) [.cells [.dat (intsD xs), .int (i + 1)]]) := by
  refine Z_call (pf := F25) rfl ?_
  have hm0 : m ≠ 0 := by omega
  have w1 := wrap64 (i + 1) (by omega)
  have w2 := wrap64 i (by omega)
  have w3 := wrap64 (i + 1 - 1) (by omega)
  by_cases h : i + 1 > (xs.length : Int)
  · simp [F25, w1, w2, w3, h, nextV]
  · have a1 := at_intsD xs i hi (by omega)
    have hlt : i.toNat < xs.length := by omega
    have a2 := cut_intsC xs i.toNat hlt
    have a3 := around_Z (n := xs[i.toNat]) (m := 1000000007) (hx _ (List.getElem_mem hlt)) (by omega)
    simp [F25, w1, w2, h, nextV, a1, a2, a3, hm0, hlt]
theorem nextV_lt {xs : List Int} {i m : Int} (hx : ∀ x ∈ xs, I64 x) (hm : 1 ≤ m) : 0 ≤ nextV xs i m ∧ nextV xs i m < m := by
  unfold nextV
  split
  · omega
  · have h0 : I64 (xs.getD i.toNat 0) := by
      rw [List.getD_eq_getElem?_getD]
      cases h : xs[i.toNat]? with
      | none => simp [I64]
      | some y => exact hx _ (List.mem_of_getElem? h)
    have := around_lt (m := 1000000007) h0 (by omega)
    exact ⟨Int.tmod_nonneg _ this.1, Int.tmod_lt_of_pos _ (by omega)⟩
def strC (ss : List ByteArray) : List D := ss.map fun s => .lit (.string s)
theorem cut_strC (ss : List ByteArray) (i : Nat) (h : i < ss.length) : cutCells (strC ss) i 1 = some [.lit (.string ss[i])] := by
  unfold cutCells strC
  rw [List.drop_eq_getElem_cons (by simpa using h)]
  simp
theorem pick_Z {xs : List Int} {i : Int} {ss : List ByteArray} {f : Bool} (hx : ∀ x ∈ xs, I64 x) (hi : 0 ≤ i) (hi' : i < 2^62) (hs : 1 ≤ ss.length) :
    ∃ s ∈ ss, Z prog (.call 34 [.ptr 0 0, .dat (.sl (strC ss) ss.length f)] [.cells [.dat (intsD xs), .int i]]) = some (.ret (.str s) [.cells [.dat (intsD xs), .int (i + 1)]]) := by
  have hl := nextV_lt (i := i) (m := (ss.length : Int)) hx (by omega)
  have hn := next_Z (m := (ss.length : Int)) hx hi hi' (by omega)
  have hlt : (nextV xs i ss.length).toNat < ss.length := by omega
  have hc := cut_strC ss _ hlt
  refine ⟨ss[(nextV xs i ss.length).toNat], List.getElem_mem hlt, ?_⟩
  refine Z_call (pf := F34) rfl ?_
  simp [F34, V.len, sliceAddr, hn, hc, hl.1, hl.2]
def nameS (k : Int) : ByteArray := ⟨#[118]⟩ ++ Utf8.encode (97 + k)
theorem name_size (k : Nat) (h : k < 20) : (Utf8.encode (97 + (k : Int))).size = 1 := by
  have : ∀ k : Fin 20, (Utf8.encode (97 + ((k : Nat) : Int))).size = 1 := by decide
  exact this ⟨k, h⟩
theorem nameS_size (k : Int) (h : 0 ≤ k ∧ k < 20) : (nameS k).size ≤ 100 := by
  have hs := name_size k.toNat (by omega)
  rw [show ((k.toNat : Nat) : Int) = k from by omega] at hs
  have hv : (⟨#[118]⟩ : ByteArray).size = 1 := rfl
  unfold nameS
  rw [ByteArray.size_append, hs, hv]
  omega
theorem name_Z {n : Int} (hn : I64 n) : Z prog (.call 22 [.int n] []) = some (.ret (.str (nameS (around n 20))) []) := by
  have hl := around_lt (m := 20) hn (by omega)
  have ha := around_Z (m := 20) hn (by omega)
  have hs := name_size (around n 20).toNat (by omega)
  rw [show (((around n 20).toNat : Nat) : Int) = around n 20 from by omega] at hs
  have w1 := wrap64 (97 + around n 20) (by omega)
  have w2 : IntKind.i32.wrap (97 + around n 20) = 97 + around n 20 := IntWalk.i32_in _ (by omega)
  refine Z_call (pf := F22) rfl ?_
  have hv : (⟨#[118]⟩ : ByteArray).size = 1 := rfl
  simp [F22, ha, w1, w2, hs, hv, nameS]
theorem ints0_Z (o : Option Addr) (m : Int) (hm : 0 ≤ m) : Z prog (.call 23 [.dat (.lit (.slice o 0 0)), .int m] []) = some (.ret (.dat (intsD [])) []) := by
  refine Z_call (pf := F23) rfl ?_
  have h : ¬ m < 0 := by omega
  simp [F23, V.len, minI, lits, h, sliceV, bound, appendV, srcV, intsD]
theorem intsC_take (xs : List Int) (k : Nat) : (intsC xs).take k = intsC (xs.take k) := by simp [intsC, List.map_take]
theorem ints1_Z (xs : List Int) (k : Nat) (hk : k ≤ 1000) : Z prog (.call 23 [.dat (.sl (intsC xs) xs.length false), .int k] []) = some (.ret (.dat (intsD (xs.take k))) []) := by
  refine Z_call (pf := F23) rfl ?_
  have hl : (intsC xs).length = xs.length := by simp [intsC]
  have key : ∃ m : Nat, (if k < xs.length then (k : Int) else (xs.length : Int)) = (m : Int) ∧ m ≤ xs.length ∧ m ≤ 1000 ∧ xs.take k = xs.take m ∧ (xs.take m).length = m := by
    by_cases h : k < xs.length
    · exact ⟨k, by simp [h], by omega, hk, rfl, by simp; omega⟩
    · exact ⟨xs.length, by simp [h], Nat.le_refl _, by omega, by rw [List.take_of_length_le (by omega), List.take_of_length_le (Nat.le_refl _)], by simp⟩
  obtain ⟨m, e1, e2, e3, e4, e5⟩ := key
  rw [e4]
  cases hm : xs.take m with
  | nil =>
    rw [hm] at e5
    simp at e5
    subst e5
    simp [F23, V.len, minI, lits, e1, sliceV, bound, appendV, srcV, intsD, hl]
  | cons y ys =>
    have hm' := e5
    rw [hm] at hm'
    simp only [List.length_cons] at hm'
    have hne : m ≠ 0 := by omega
    have hr : roomFor m 8 = true := by simp [roomFor]; omega
    have ht : (intsC xs).take m = intsC (y :: ys) := by rw [intsC_take, hm]
    have hlen : (intsC (y :: ys)).length = m := by simp [intsC]; omega
    simp [F23, V.len, minI, lits, e1, sliceV, bound, appendV, srcV, intsD, hl, e2, ht, hlen, hne, hr, hm']
end Go.Pm
