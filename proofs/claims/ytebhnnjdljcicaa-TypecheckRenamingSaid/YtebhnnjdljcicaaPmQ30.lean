/- Chapter 14: the law of renaming. -/
import Derived.Test.YtebhnnjdljcicaaPmQ29
set_option linter.unusedSimpArgs false
set_option linter.unusedVariables false
namespace Go.Pm
open F
theorem hn0k : Hd.k .none = 0 := rfl
theorem hn0f : Hd.f .none = false := rfl
theorem hn0s : Hd.ks .none = .nil := rfl
section
variable {d : ByteArray} {a b c p q : Hd} {l : List ByteArray}
abbrev rbx (a b c : Hd) : Ob := .cells [.int a.k, .int 0, .str ⟨#[]⟩, .dat (kd a.f a.ks.len a.ks.cells), .int b.k, .int 0, .str ⟨#[]⟩, .dat (kd b.f b.ks.len b.ks.cells), .int c.k, .int 0, .str ⟨#[]⟩, .dat (kd c.f c.ks.len c.ks.cells)]
abbrev n0fr (d : ByteArray) (h : Int) : Fr := [(5, .ptr 0 0), (6, .str d), (7, .ptr 1 0), (8, .int h)]
theorem rq_step0 (hd : d.size ≤ 100) (hz : a.ks.size < 2^28) (ho : a.ok) : Z prog (.loop 0 F5l0 (n0fr d 0) [rbx a b c, rbx Hd.none Hd.none Hd.none]) = Z prog (.loop 0 F5l0 (n0fr d 1) [rbx a b c, rbx (a.ren d) Hd.none Hd.none]) := by
  have h1 := Renamed_Z hd a hz ho
  have w1 := wrap64 1 (by omega)
  simp only [Nd.v, nd, hd_k, hd_n, hd_s, hd_f, hd_ks] at h1
  conv => lhs; rw [Z_loop_eq]
  simp [loopStep, run_F5l0, h1, w1, rbx, hn0k, hn0f, hn0s]
  try exact Z_loop_cong (by simp [rbx, hn0k, hn0f, hn0s])
theorem rq_step1 (hd : d.size ≤ 100) (hz : b.ks.size < 2^28) (ho : b.ok) : Z prog (.loop 0 F5l0 (n0fr d 1) [rbx a b c, rbx p Hd.none Hd.none]) = Z prog (.loop 0 F5l0 (n0fr d 2) [rbx a b c, rbx p (b.ren d) Hd.none]) := by
  have h1 := Renamed_Z hd b hz ho
  have w1 := wrap64 2 (by omega)
  simp only [Nd.v, nd, hd_k, hd_n, hd_s, hd_f, hd_ks] at h1
  conv => lhs; rw [Z_loop_eq]
  simp [loopStep, run_F5l0, h1, w1, rbx, hn0k, hn0f, hn0s]
  try exact Z_loop_cong (by simp [rbx, hn0k, hn0f, hn0s])
theorem rq_step2 (hd : d.size ≤ 100) (hz : c.ks.size < 2^28) (ho : c.ok) : Z prog (.loop 0 F5l0 (n0fr d 2) [rbx a b c, rbx p q Hd.none]) = Z prog (.loop 0 F5l0 (n0fr d 3) [rbx a b c, rbx p q (c.ren d)]) := by
  have h1 := Renamed_Z hd c hz ho
  have w1 := wrap64 3 (by omega)
  simp only [Nd.v, nd, hd_k, hd_n, hd_s, hd_f, hd_ks] at h1
  conv => lhs; rw [Z_loop_eq]
  simp [loopStep, run_F5l0, h1, w1, rbx, hn0k, hn0f, hn0s]
  try exact Z_loop_cong (by simp [rbx, hn0k, hn0f, hn0s])
theorem rq_loop (hd : d.size ≤ 100) (ha : a.ks.size < 2^28 ∧ a.ok) (hb : b.ks.size < 2^28 ∧ b.ok) (hc : c.ks.size < 2^28 ∧ c.ok) : Z prog (.loop 0 F5l0 (n0fr d 0) [rbx a b c, rbx .none .none .none]) =
    some (.out (.exit 0) (n0fr d 3 ++ [(18, .bool false)]) [rbx a b c, rbx (a.ren d) (b.ren d) (c.ren d)]) := by
  rw [rq_step0 hd ha.1 ha.2]
  refine (rq_step1 (p := a.ren d) hd hb.1 hb.2).trans ((rq_step2 (p := a.ren d) (q := b.ren d) hd hc.1 hc.2).trans ?_)
  rw [Z_loop_eq]
  simp [loopStep, run_F5l0, rbx]
abbrev n1fr (d : ByteArray) (l : List ByteArray) (i : Nat) : Fr := [(6, .str d), (9, .dat (strD l)), (10, .dat (strD (l.map (· ++ d)))), (11, .int i)]
theorem rn_cmp (hd : d.size ≤ 100) (hs : Sm l) (hl : l.length < 2^30) : ∀ (n i : Nat), i + n = l.length → Z prog (.loop 0 F5l1 (n1fr d l i) []) = some (.out (.exit 2) (n1fr d l l.length ++ [(49, .bool false)]) [])
  | 0, i, hn => by
    obtain rfl : i = l.length := by omega
    rw [Z_loop_eq]
    simp [loopStep, run_F5l1]
  | n + 1, i, hn => by
    have ih := rn_cmp hd hs hl n (i + 1) (by omega)
    have hi : i < l.length := by omega
    have hi' : i < (l.map (· ++ d)).length := by simpa using hi
    have ha := at_strD l i hi
    have hc := cut_strC l i hi
    have ha' := at_strD (l.map (· ++ d)) i hi'
    have hc' := cut_strC (l.map (· ++ d)) i hi'
    have w1 := wrap64 ((i : Int) + 1) (by omega)
    have hsz := hs l[i] (List.getElem_mem hi)
    have hz : ¬ (9223372036854775807 < ((l[i].size : Nat) : Int) + d.size) := by omega
    rw [List.getElem_map] at hc'
    have he : eqS (l[i] ++ d) (l[i] ++ d) = true := by rw [eqS_iff]; exact decide_eq_true rfl
    rw [Z_loop_eq, ← ih]
    simp [loopStep, run_F5l1, hi, ha, hc, ha', hc', he, w1, hz, show IntKind.i64.max = 9223372036854775807 from by decide]
    exact Z_loop_cong (by simp [n1fr])
end
theorem Renaming_Z {v : D} {xs : List Int} {n : Int} (h : RowV v xs) (hx : ∀ x ∈ xs, I64 x) (hn : I64 n) : Z prog (.call 5 [.dat v, .int n] []) = some (.ret (.bool true) []) := by
  obtain ⟨a, b, c, ha, hb, hc, h1⟩ := Tree_Z h hx
  have hz := around_Z (n := n) (m := 10) hn (by omega)
  have hl := around_lt (n := n) (m := 10) hn (by omega)
  obtain ⟨d, hd, h2⟩ := Decimal_Z (around n 10) hl
  have h3 := rq_loop (d := d) (a := a) (b := b) (c := c) hd ⟨by omega, ha.2⟩ ⟨by omega, hb.2⟩ ⟨by omega, hc.2⟩
  have za : (a.ren d).ks.size < 2^25 := by rw [hd_ren_ks, ren_size]; omega
  have zb : (b.ren d).ks.size < 2^25 := by rw [hd_ren_ks, ren_size]; omega
  have zc : (c.ren d).ks.size < 2^25 := by rw [hd_ren_ks, ren_size]; omega
  have c1 := Check_Z (a := a) (b := b) (c := c) (by omega) (by omega) (by omega)
  have c2 := Check_Z (a := a.ren d) (b := b.ren d) (c := c.ren d) za zb zc
  rw [chk_ren] at c2
  have v1 := Variables_Z (a := a.nd) (b := b.nd) (c := c.nd) (by simp only [hd_ks]; omega) (by simp only [hd_ks]; omega) (by simp only [hd_ks]; omega)
  have v2 := Variables_Z (a := (a.ren d).nd) (b := (b.ren d).nd) (c := (c.ren d).nd) za zb zc
  rw [rvars_ren] at v2
  have hln := rvars_len a b c (by omega) (by omega) (by omega)
  have hsm := rvars_sm a b c ha.2 hb.2 hc.2
  have hcmp := rn_cmp hd hsm (by omega) (rvars a.nd b.nd c.nd).length 0 (by omega)
  refine Z_call (pf := F5) rfl ?_
  simp only [ru, Nd.d, hd_k, hd_n, hd_s, hd_f, hd_ks] at h1 c1 c2 v1 v2
  generalize rvars a.nd b.nd c.nd = l at *
  generalize chk a b c = ck at *
  have hcmp' := fun σ => (Z_loop_cong (k := 0) (b := F5l1) (fr := n1fr d l 0) (σ := σ) (σ' := []) (by simp)).trans hcmp
  simp only [n0fr, rbx, List.cons_append, List.nil_append, hn0k, hn0f, hn0s] at h3
  simp only [n1fr, List.cons_append, List.nil_append, show ((0 : Nat) : Int) = 0 from rfl] at hcmp'
  simp at h3
  simp [F5, h1, hz, h2, h3, c1, c2, v1, v2, hcmp', lives_Z]
end Go.Pm
