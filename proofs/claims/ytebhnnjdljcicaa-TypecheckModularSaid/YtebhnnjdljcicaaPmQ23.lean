/- Chapter 14: the law of the limit. -/
import Derived.Test.YtebhnnjdljcicaaPmQ22
set_option linter.unusedSimpArgs false
set_option linter.unusedVariables false
namespace Go.Pm
open F
section
variable {turn : Int} {k : Nat} {pre : Fo} {l : List ByteArray}
theorem l_end1 : Z prog (.loop 0 F6l0 (lfr turn k (.gsl (strC l) l.length 1 1) k) (ls1 pre l)) = some (.out (.exit 0) (lfr turn k (.gsl (strC l) l.length 1 1) k ++ [(17, .bool false)]) (ls1 pre l)) := by
  rw [Z_loop_eq]
  simp [loopStep, run_F6l0]
theorem l_end0 : Z prog (.loop 0 F6l0 (lfr turn 0 (.dat (.lit (.slice none 0 0))) 0) [.cells [.int 7, .int 0, .str ⟨#[]⟩, .dat (.lit (.slice none 0 0))]]) = some (.out (.exit 0) (lfr turn 0 (.dat (.lit (.slice none 0 0))) 0 ++ [(17, .bool false)]) [.cells [.int 7, .int 0, .str ⟨#[]⟩, .dat (.lit (.slice none 0 0))]]) := by
  rw [Z_loop_eq]
  simp [loopStep, run_F6l0]
abbrev lB (k turn : Int) (n : Nat) : Fo := (lbs (limN k turn) 0 n).fo
abbrev lN (k turn : Int) (n : Nat) : List ByteArray := lns (limN k turn) 0 n
theorem lim_chain (ht : I64 turn) (hk : k ≤ 20) : ∀ (m i : Nat), i + m = k → 0 < i → Z prog (.loop 0 F6l0 (lfr turn k (.gsl (strC (lN k turn i)) (lN k turn i).length 1 1) i) (ls1 (lB k turn i) (lN k turn i))) =
    Z prog (.loop 0 F6l0 (lfr turn k (.gsl (strC (lN k turn k)) (lN k turn k).length 1 1) k) (ls1 (lB k turn k) (lN k turn k)))
  | 0, i, h, h0 => by
    obtain rfl : i = k := by omega
    rfl
  | m + 1, i, h, h0 => by
    have hs := l_step (pre := lB k turn i) (l := lN k turn i) ht hk (by omega : i < k) h0 (by rw [lbs_len]; omega) (by rw [lns_len]; omega)
    have e1 := lbs_snoc (limN k turn) i 0
    have e2 := lns_snoc (limN k turn) i 0
    rw [Nat.zero_add] at e1 e2
    rw [← e1, ← e2] at hs
    rw [hs]
    exact lim_chain ht hk m (i + 1) (by omega) (by omega)
theorem lim_loop (ht : I64 turn) (hk : k ≤ 20) (h0 : 0 < k) : Z prog (.loop 0 F6l0 (lfr turn k (.dat (.lit (.slice none 0 0))) 0) [.cells [.int 7, .int 0, .str ⟨#[]⟩, .dat (.lit (.slice none 0 0))]]) =
    some (.out (.exit 0) (lfr turn k (.gsl (strC (lN k turn k)) (lN k turn k).length 1 1) k ++ [(17, .bool false)]) (ls1 (lB k turn k) (lN k turn k))) := by
  have h1 := l_step0 ht hk h0
  have h2 := lim_chain ht hk (k - 1) 1 (by omega) (by omega)
  rw [← l_end1, ← h2]
  exact h1
theorem lim_vars (ht : I64 turn) (hk : k ≤ 20) : rvars (Hd.some false (lbs (limN k turn) 0 k)).nd Hd.none.nd (Hd.some false (lbs (limN k turn) 0 k)).nd = lN k turn k := by
  have e : (Hd.some false (lbs (limN k turn) 0 k)).nd.vars = lN k turn k := by
    simp only [Nd.vars, hd_k, hd_s, hd_ks, Hd.k, Hd.ks, lbs_vars]
    simp
  have e0 : Hd.none.nd.vars = [] := by simp [Nd.vars, Hd.k, Hd.ks, Fo.vars]
  unfold rvars
  rw [e, e0, List.nil_append, addAll_app, addAll_lns _ k (fun i j hi hj h => limN_inj k turn ht hk i j hi hj h) k (by omega)]
  exact addAll_old _ _ fun x hx => hx
theorem lim_chk (ht : I64 turn) (hk : k ≤ 20) : chk (Hd.some false (lbs (limN k turn) 0 k)) Hd.none (Hd.some false (lbs (limN k turn) 0 k)) = if 16 < k then 2 else 0 := by
  unfold chk
  rw [lim_vars ht hk, lns_len]
  simp [Hd.well, lbs_well]
end
theorem Limit_Z {many turn : Int} (hm : I64 many) (ht : I64 turn) : Z prog (.call 6 [.int many, .int turn] []) = some (.ret (.bool true) []) := by
  have l1 := around_lt (n := many) (m := 21) hm (by omega)
  have z1 := around_Z (n := many) (m := 21) hm (by omega)
  obtain ⟨k, hk⟩ : ∃ k : Nat, around many 21 = k := ⟨(around many 21).toNat, by omega⟩
  rw [hk] at z1 l1
  have hk20 : k ≤ 20 := by omega
  have hsz : (Hd.some false (lbs (limN k turn) 0 k)).ks.size < 2^25 := by simp only [Hd.ks, lbs_size]; omega
  have hc := Check_Z (a := Hd.some false (lbs (limN k turn) 0 k)) (b := .none) (c := Hd.some false (lbs (limN k turn) 0 k)) hsz (by simp [Hd.ks]) hsz
  have hv := Variables_Z (a := (Hd.some false (lbs (limN k turn) 0 k)).nd) (b := Hd.none.nd) (c := (Hd.some false (lbs (limN k turn) 0 k)).nd) hsz (by simp [Hd.ks]) hsz
  rw [lim_chk ht hk20] at hc
  rw [lim_vars ht hk20] at hv
  have hs := Same_Z (l := lN k turn k) (by rw [lns_len]; omega)
  refine Z_call (pf := F6) rfl ?_
  by_cases h0 : k = 0
  · subst h0
    have hl := l_end0 (turn := turn)
    simp only [lfr, List.cons_append, List.nil_append] at hl
    simp [lbs, Hd.k, Hd.f, Hd.ks, Ss.fo, Nd.d, ru] at hc
    simp [lbs, Hd.k, Hd.f, Hd.ks, Ss.fo, Nd.d, ru, lns, strD] at hv
    simp [lns, strD] at hs
    simp at z1
    simp [F6, z1, hl, hc, hv, hs, lives_Z]
  · have hl := lim_loop ht hk20 (by omega : 0 < k)
    have hp : (lB k turn k).len = k := lbs_len _ _ _
    have hne : lN k turn k ≠ [] := fun h => h0 (by have := lns_len (limN k turn) k 0; rw [show lns (limN k turn) 0 k = [] from h] at this; exact this.symm)
    have hln : (lN k turn k).length = k := lns_len _ _ _
    obtain ⟨q, hq⟩ : ∃ q, k = q + 1 := ⟨k - 1, by omega⟩
    rw [strD_ne hne] at hv hs
    rw [hln] at hv hs
    simp only [Hd.nd, Hd.k, Hd.f, Hd.ks, ru, Nd.d] at hc hv
    rw [show (lbs (limN k turn) 0 k).fo = lB k turn k from rfl] at hc hv
    rw [show kd false (lB k turn k).len (lB k turn k).cells = .sl (lB k turn k).cells k false by rw [hp, hq, kd_s]] at hc hv
    simp only [lfr, ls1, hln, hp, List.cons_append, List.nil_append] at hl
    generalize lN k turn k = ns at *
    generalize lB k turn k = pre at *
    by_cases h16 : 16 < k
    · have h16' : (16 : Int) < k := by omega
      have h16'' : ¬ (k : Int) ≤ 16 := by omega
      have h16''' : ¬ k ≤ 16 := by omega
      simp [h16] at hc
      simp at hv
      simp [F6, z1, hl, hc, hv, hs, lives_Z, h16, h16', h16'', h16''']
    · have h16' : ¬ (16 : Int) < k := by omega
      have h16'' : (k : Int) ≤ 16 := by omega
      have h16''' : k ≤ 16 := by omega
      simp [h16] at hc
      simp at hv
      simp [F6, z1, hl, hc, hv, hs, lives_Z, h16, h16', h16'', h16''']
end Go.Pm
