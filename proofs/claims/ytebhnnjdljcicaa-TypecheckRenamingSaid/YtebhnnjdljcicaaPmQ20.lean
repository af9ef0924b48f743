/- Chapter 14: rows of names that are alike; the law of programs. -/
import Derived.Test.YtebhnnjdljcicaaPmQ19
set_option linter.unusedSimpArgs false
set_option linter.unusedVariables false
namespace Go.Pm
open F
theorem at_strD (l : List ByteArray) (i : Nat) (h : i < l.length) : sliceAddr 1 (.dat (strD l)) (i : Int) = some (.dat (.imm (strC l) i)) := by
  cases l with
  | nil => simp at h
  | cons s l =>
    simp only [List.length_cons] at h
    have h' : (i : Int) < (l.length : Int) + 1 := by omega
    simp [strD, sliceAddr, h']
@[simp] theorem len_gsl (σ : S) (cs : List D) (n sz l : Nat) : V.len σ .sl (.gsl cs n sz l) = some n := rfl
theorem at_gsl (l : List ByteArray) (m i : Nat) (h : i < l.length) : sliceAddr 1 (.gsl (strC l) l.length 1 m) (i : Int) = some (.dat (.imm (strC l) i)) := by simp [sliceAddr, h]
def sameR (l : List ByteArray) : Option Res := some (.out (.exit 0) [(0, .dat (strD l)), (1, .dat (strD l)), (5, .int l.length), (14, .bool false)] [])
theorem same_loop {l : List ByteArray} (hl : l.length < 2^40) : ∀ (n i : Nat), i + n = l.length → Z prog (.loop 0 F14l0 [(0, .dat (strD l)), (1, .dat (strD l)), (5, .int i)] []) = sameR l
  | 0, i, hn => by
    obtain rfl : i = l.length := by omega
    rw [Z_loop_eq]
    simp [loopStep, run_F14l0, sameR]
  | n + 1, i, hn => by
    have ih := same_loop hl n (i + 1) (by omega)
    have hi : i < l.length := by omega
    have ha := at_strD l i hi
    have hc := cut_strC l i hi
    have w1 := wrap64 ((i : Int) + 1) (by omega)
    have he : eqS l[i] l[i] = true := by rw [eqS_iff]; exact decide_eq_true rfl
    rw [Z_loop_eq, ← ih]
    simp [loopStep, run_F14l0, hi, ha, hc, he, w1]
theorem Same_Z {l : List ByteArray} (hl : l.length < 2^40) : Z prog (.call 14 [.dat (strD l), .dat (strD l)] []) = some (.ret (.bool true) []) := by
  have hs := same_loop hl l.length 0 (by omega)
  refine Z_call (pf := F14) rfl ?_
  simp only [sameR] at hs
  simp at hs
  simp [F14, hs]
theorem rvars_len (a b c : Hd) (ha : a.ks.size < 2^25) (hb : b.ks.size < 2^25) (hc : c.ks.size < 2^25) : (rvars a.nd b.nd c.nd).length < 2^28 := by
  have la := nd_vars_len a.nd
  have lb := nd_vars_len b.nd
  have lc := nd_vars_len c.nd
  simp only [hd_ks] at la lb lc
  have := addAll_len (a.nd.vars ++ (b.nd.vars ++ c.nd.vars)) []
  simp only [List.length_append, List.length_nil] at this
  unfold rvars
  omega
theorem Programs_Z {v : D} {xs : List Int} (h : RowV v xs) (hx : ∀ x ∈ xs, I64 x) : Z prog (.call 1 [.dat v] []) = some (.ret (.bool true) []) := by
  obtain ⟨a, b, c, ha, hb, hc, h1⟩ := Tree_Z h hx
  have h2 := Check_Z (a := a) (b := b) (c := c) (by omega) (by omega) (by omega)
  have h3 := rCheck_Z (a := a) (b := b) (c := c) (by omega) (by omega) (by omega)
  have h4 := Variables_Z (a := a.nd) (b := b.nd) (c := c.nd) (by simp only [hd_ks]; omega) (by simp only [hd_ks]; omega) (by simp only [hd_ks]; omega)
  have h5 := rVariables_Z (a := a.nd) (b := b.nd) (c := c.nd) (by simp only [hd_ks]; omega) (by simp only [hd_ks]; omega) (by simp only [hd_ks]; omega)
  have hl := rvars_len a b c (by omega) (by omega) (by omega)
  have h6 := Same_Z (l := rvars a.nd b.nd c.nd) (by omega)
  refine Z_call (pf := F1) rfl ?_
  simp only [ru, Nd.d, hd_k, hd_n, hd_s, hd_f, hd_ks] at h1 h2 h3 h4 h5
  simp [F1, h1, h2, h3, h4, h5, h6, lives_Z]
end Go.Pm
