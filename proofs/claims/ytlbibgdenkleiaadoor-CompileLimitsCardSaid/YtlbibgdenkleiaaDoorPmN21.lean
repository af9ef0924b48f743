/- Chapter 15: the law of limits: the block it builds. Chapter 15: the law of limits. -/
import Derived.Test.YtlbibgdenkleiaaDoorPmDk
import Derived.Test.YtlbibgdenkleiaaDoorPmN9
import Derived.Test.YtlbibgdenkleiaaDoorPmW2
set_option linter.unusedSimpArgs false
set_option linter.unusedVariables false
section SN21
namespace Go.Pm
open F Gr
set_option maxHeartbeats 1000000
def nstE (n : Int) : Nat → E
  | 0 => .int n
  | i + 1 => .bin true .add (.int i) (nstE n i)
theorem nst_fine {n : Int} (h : 0 ≤ n ∧ n ≤ 2147483647) : ∀ i : Nat, i ≤ 1000 → (nstE n i).fine ∧ (nstE n i).ty = 1 ∧ (nstE n i).size = 2 * i + 1 ∧ ∀ r : Fo, ((nstE n i).fo r).vars = r.vars
  | 0, _ => ⟨h, rfl, rfl, fun r => by simp [nstE, E.fo, Fo.vars]⟩
  | i + 1, hi => by
    obtain ⟨h1, h2, h3, h4⟩ := nst_fine h i (by omega)
    refine ⟨⟨(by show (0 : Int) ≤ (i : Int) ∧ (i : Int) ≤ 2147483647; omega), h1, rfl, h2⟩, by simp [nstE, h2, Bop.opd, Bop.res], by simp [nstE, h3]; omega, fun r => ?_⟩
    simp [nstE, E.fo, Fo.vars, h4]
theorem SlE.cast {C : Int → Cd} {n n' : Nat} {k k' M M' : Int} (h : SlE C n k M) (h1 : n = n') (h2 : k = k') (h3 : M = M') : SlE C n' k' M' := by subst h1; subst h2; subst h3; exact h
theorem pp_vals : pushI 1 = 1 ∧ popI 1 = 0 ∧ pushI 9 = 1 ∧ popI 9 = 2 ∧ pushI 3 = 0 ∧ popI 3 = 1 := by decide
theorem nst_sl (vs : List ByteArray) (n : Int) : ∀ i : Nat, SlE (codeE vs (nstE n i)) (2 * i + 1) 1 (i + 1)
  | 0 => (sl_one (o := 1) (x := n) (by omega)).cast rfl (by decide) (by decide)
  | i + 1 => by
    have h := sl_sq (sl_sq (sl_one (o := 1) (x := i) (by omega)) (nst_sl vs n i)) (sl_one (o := 9) (x := 0) (by omega))
    obtain ⟨p1, p2, p3, p4, _⟩ := pp_vals
    exact h.cast (by omega) (by omega) (by omega)
abbrev nsFr (n i : Int) : Fr := [(0, .int n), (2, .ptr 0 0), (3, .ptr 1 0), (4, .int i)]
abbrev z4P : Ob := .cells [.int 0, .int 0, .str ⟨#[]⟩, .dat (.lit (.slice none 0 0))]
abbrev ebx (e : E) : Ob := .cells [.int e.kind, .int e.num, .str e.str, .dat e.kids]
theorem ns_loop (n : Nat) (hn : n < 1000) : ∀ (m i : Nat), i + m = n → Z prog15 (.loop 0 F130l0 (nsFr n i) [z4P, ebx (nstE n i)]) = some (.out (.exit 0) (nsFr n n ++ [(9, .bool false)]) [z4P, ebx (nstE n n)])
  | 0, i, h => by
    obtain rfl : i = n := by omega
    rw [Z_loop_eq]
    simp [loopStep, run_F130l0, List.range_succ]
  | m + 1, i, h => by
    have w1 := wrap64 ((i : Int) + 1) (by omega)
    have hi : (i : Int) < n := by omega
    rw [← ns_loop n hn m (i + 1) (by omega)]
    conv => lhs; rw [Z_loop_eq]
    simp [loopStep, run_F130l0, hi, w1, nsFr, z4P, ebx, nstE, List.range_succ, Bop.str]
theorem nested_Z (n : Nat) (hn : n < 1000) : Z prog15 (.call 130 [.int n] []) = some (.ret (nstE n n).node []) := by
  have h := ns_loop n hn n 0 (by omega)
  simp only [nsFr, z4P, ebx, nstE, kind_int, num_int, str_int, kids_int, show ((0 : Nat) : Int) = 0 from rfl] at h
  refine Z_call (pf := F130) rfl rfl ?_
  simp [F130, h, List.range_succ]
theorem fo_vars_app (a b : Fo) : (a.app b).vars = a.vars ++ b.vars := by
  induction a with
  | nil => rfl
  | cons k n s f ks r _ ih => simp [Fo.vars, ih]
def asgS : Nat → Ss
  | 0 => .nil
  | k + 1 => (asgS k).app (.assign true ⟨#[118]⟩ (.int k) .nil)
theorem asg_fine : ∀ k : Nat, k ≤ 1000 → (asgS k).fine ∧ (asgS k).fo.size = 2 * k ∧ (asgS k).fo.len = k ∧ (∀ s ∈ (asgS k).fo.vars, s = ⟨#[118]⟩)
  | 0, _ => ⟨trivial, rfl, rfl, by simp [asgS, Ss.fo, Fo.vars]⟩
  | k + 1, h => by
    obtain ⟨h1, h2, h3, h4⟩ := asg_fine k (by omega)
    refine ⟨app_fine h1 ⟨⟨by simp [varL, varG], ⟨by omega, by omega⟩, rfl⟩, trivial⟩, ?_, ?_, ?_⟩
    · rw [asgS, ss_app, fo_size_app, h2]; simp [Ss.fo, fo_size]; omega
    · rw [asgS, ss_app, fo_len_app, h3]; simp [Ss.fo]
    · intro s hs
      rw [asgS, ss_app, fo_vars_app, List.mem_append] at hs
      rcases hs with hs | hs
      · exact h4 s hs
      · simpa [Ss.fo, Fo.vars, E.fo] using hs
def limS (k d : Nat) : Ss := (asgS k).app (.assign true ⟨#[118]⟩ (nstE (d : Int) d) .nil)
def limH (k d : Nat) : Hd := .some false (limS k d)
theorem lim_fine {k d : Nat} (hk : k ≤ 230) (hd : d ≤ 30) : (limH k d).fine := by
  obtain ⟨h1, h2, h3, h4⟩ := asg_fine k (by omega)
  obtain ⟨g1, g2, g3, g4⟩ := nst_fine (n := d) (by omega) d (by omega)
  refine ⟨app_fine h1 ⟨⟨by simp [varL, varG], g1, g2⟩, trivial⟩, ?_⟩
  show (limS k d).fo.size ≤ 2000
  rw [limS, ss_app, fo_size_app, h2]
  simp [Ss.fo, fo_size, g3]
  omega
theorem codeS_app (vs : List ByteArray) (a b : Ss) (ha : a.fine) : codeS vs (a.app b) = sq (codeS vs a) (codeS vs b) := by
  have sqa : ∀ A B C : Int → Cd, sq A (sq B C) = sq (sq A B) C := fun A B C => funext fun p => by
    simp only [sq, List.append_assoc, List.length_append]
    rw [show p + ((A p).length : Int) + (B (p + (A p).length)).length = p + ((((A p).length + (B (p + (A p).length)).length : Nat)) : Int) by omega]
  fun_induction Ss.fine a with
  | case1 => exact funext fun p => by simp [Ss.app, codeS, sq]
  | case2 _ _ _ _ ih => simp only [Ss.app, codeS, ih ha.2, sqa]
  | case3 _ _ _ _ _ ih => simp only [Ss.app, codeS, ih ha.2, sqa]
  | case4 _ _ _ _ ih => simp only [Ss.app, codeS, ih ha.2, sqa]
  | case5 _ ih => simp only [Ss.app, codeS, ih ha, sqa]
  | case6 _ _ _ _ _ _ _ _ _ ih => simp only [Ss.app, codeS, ih ha.2.2.2, sqa]
  | case7 _ _ _ _ _ _ ih => simp only [Ss.app, codeS, ih ha.2.2, sqa]
  | case8 => exact ha.elim
theorem sq_nil (A : Int → Cd) : sq A (fun _ => []) = A := funext fun p => by simp [sq]
theorem asg_sl (vs : List ByteArray) {e : E} {n : Nat} {M : Int} (h : SlE (codeE vs e) n 1 M) (h1 : 1 ≤ M) : SlE (codeS vs (.assign true ⟨#[118]⟩ e .nil)) (n + 1) 0 M := by
  have := sl_sq h (sl_one (o := 3) (x := ixI vs ⟨#[118]⟩) (by omega))
  obtain ⟨_, _, _, _, p5, p6⟩ := pp_vals
  simp only [codeS, sq_nil]
  exact this.cast rfl (by omega) (by omega)
theorem asgS_sl (vs : List ByteArray) : ∀ k : Nat, k ≤ 999 → ∀ {B : Int → Cd} {n : Nat} {M : Int}, SlE B n 0 M → 1 ≤ M → SlE (sq (codeS vs (asgS k)) B) (2 * k + n) 0 M
  | 0, _, B, n, M, h, _ => by
    rw [show sq (codeS vs (asgS 0)) B = B from funext fun p => by simp [asgS, codeS, sq]]
    exact h.cast (by omega) rfl rfl
  | k + 1, hk, B, n, M, h, h1 => by
    have e0 : SlE (codeE vs (.int k)) 1 1 1 := (sl_one (o := 1) (x := (k : Int)) (by omega)).cast rfl (by decide) (by decide)
    have e1 := asg_sl vs e0 (by omega)
    have := asgS_sl vs k (by omega) (sl_sq e1 h) (by obtain ⟨p1, p2, _⟩ := pp_vals; omega)
    rw [asgS, codeS_app vs _ _ (asg_fine k (by omega)).1]
    have sqa : ∀ A B C : Int → Cd, sq A (sq B C) = sq (sq A B) C := fun A B C => funext fun p => by
      simp only [sq, List.append_assoc, List.length_append]
      rw [show p + ((A p).length : Int) + (B (p + (A p).length)).length = p + ((((A p).length + (B (p + (A p).length)).length : Nat)) : Int) by omega]
    rw [sqa] at this
    obtain ⟨p1, p2, _⟩ := pp_vals
    exact this.cast (by omega) (by omega) (by omega)
theorem lim_sl (vs : List ByteArray) {k d : Nat} (hk : k ≤ 230) : SlE (codeS vs (limS k d)) (2 * k + (2 * d + 2)) 0 (d + 1) := by
  rw [limS, codeS_app vs _ _ (asg_fine k (by omega)).1]
  exact asgS_sl vs k (by omega) ((asg_sl vs (nst_sl vs d d) (by omega)).cast (by omega) rfl rfl) (by omega)
end Go.Pm
end SN21
section SN22
namespace Go.Pm
open F Gr
set_option maxHeartbeats 2000000
inductive LSt : S → Fo → Prop
  | nil : LSt [.cells [.int 7, .int 0, .str ⟨#[]⟩, .dat (.lit (.slice none 0 0))]] .nil
  | gr (pre : Fo) (h : 0 < pre.len) : LSt [.cells [.int 7, .int 0, .str ⟨#[]⟩, .gsl pre.cells pre.len 4 1], .tip pre.cells.length] pre
abbrev lFr (k d i : Int) : Fr := [(5, .int k), (6, .int d), (7, .ptr 0 0), (8, .int i)]
theorem room56 {n : Nat} (h : n < 2^40) : roomFor n 56 = true := by simp only [roomFor, decide_eq_true_eq]; omega
theorem l_end {k d : Int} {σ : S} {pre : Fo} (h : LSt σ pre) : Z prog15 (.loop 0 F119l0 (lFr k d k) σ) = some (.out (.exit 0) (lFr k d k ++ [(21, .bool false)]) σ) := by
  rw [Z_loop_eq]
  cases h <;> simp [loopStep, run_F119l0, List.range_succ]
theorem l_step {k d i : Int} (hi : i < k) (h0 : 0 ≤ i) (hk : k < 1000) {σ : S} {pre : Fo} (h : LSt σ pre) (hp : pre.len < 2000) : ∃ σ', LSt σ' (pre.app (Ss.assign true ⟨#[118]⟩ (.int i) .nil).fo) ∧ Z prog15 (.loop 0 F119l0 (lFr k d i) σ) = Z prog15 (.loop 0 F119l0 (lFr k d (i + 1)) σ') := by
  have w1 := wrap64 (i + 1) (by omega)
  have r1 := room56 (n := pre.len + 1) (by omega)
  have r0 := room56 (n := 1) (by omega)
  have hl := fo_cells_len pre
  have hl2 := fo_cells_app pre (Ss.assign true ⟨#[118]⟩ (.int i) .nil).fo
  have hl3 := fo_len_app pre (Ss.assign true ⟨#[118]⟩ (.int i) .nil).fo
  simp only [Ss.fo, E.fo, fo_cells_cons, fo_cells_nil, fo_len_cons, fo_len_nil, kd_s, kd_0, Nat.zero_add] at hl2 hl3
  have hne : (pre.app (Ss.assign true ⟨#[118]⟩ (.int i) .nil).fo).len = pre.len + 1 := by rw [fo_len_app]; rfl
  refine ⟨_, .gr _ (by omega), ?_⟩
  conv => lhs; rw [Z_loop_eq]
  cases h with
  | nil => simp [loopStep, run_F119l0, hi, w1, r0, appendV, srcV, Ss.fo, E.fo, lFr, List.range_succ]
  | gr _ g => simp [loopStep, run_F119l0, hi, w1, r1, appendV, srcV, Ss.fo, E.fo, lFr, hl, hl2, hl3, List.range_succ]
theorem l_loop {d : Int} (k : Nat) (hk : k < 1000) : ∀ (m i : Nat), i + m = k → ∀ {σ : S}, LSt σ (asgS i).fo → ∃ σ', LSt σ' (asgS k).fo ∧ Z prog15 (.loop 0 F119l0 (lFr k d i) σ) = some (.out (.exit 0) (lFr k d k ++ [(21, .bool false)]) σ')
  | 0, i, h, σ, hs => by
    obtain rfl : i = k := by omega
    exact ⟨σ, hs, l_end hs⟩
  | m + 1, i, h, σ, hs => by
    obtain ⟨σ1, h1, z1⟩ := l_step (k := k) (d := d) (i := i) (by omega) (by omega) (by omega) hs (by rw [(asg_fine i (by omega)).2.2.1]; omega)
    rw [show (asgS i).fo.app (Ss.assign true ⟨#[118]⟩ (.int i) .nil).fo = (asgS (i + 1)).fo by rw [asgS, ss_app]] at h1
    obtain ⟨σ2, h2, z2⟩ := l_loop k hk m (i + 1) (by omega) h1
    rw [show ((i + 1 : Nat) : Int) = i + 1 by omega] at z2
    exact ⟨σ2, h2, z1.trans z2⟩
theorem lim_comp {k d : Nat} (hk : k ≤ 230) (hd : d ≤ 30) : ∃ C : Cd, C.length = 2 * k + 2 * d + 3 ∧ Z prog15 (.call 131 [.dat (ru Hd.none.nd (limH k d).nd Hd.none.nd)] []) = some (.ret (compV C (-1) 0 (-1) 0 (d + 1) 0) []) ∧
    ((d : Int) + 1 ≤ 16 → C.length ≤ 400 → verifyV C (-1) 0 (-1) = 0 ∧ Z prog15 (.call 128 [pgD (codeD C) (-1) 0 (-1), .int 1] []) = some (.ret (.int (d + 1)) [])) := by
  have ff := lim_fine hk hd
  have fn : Hd.none.fine := ⟨trivial, Nat.zero_le _⟩
  have ec : progC (rvars Hd.none.nd (limH k d).nd Hd.none.nd) .none (limH k d) .none = snC (codeS (rvars Hd.none.nd (limH k d).nd Hd.none.nd) (limS k d)) (21, 0) 0 := by
    simp [progC, sq, hdC, limH]
  have sl := lim_sl (rvars Hd.none.nd (limH k d).nd Hd.none.nd) (k := k) (d := d) hk
  have dep := sl_dep sl (by omega)
  rw [← ec] at dep
  have dn : ∀ C : Cd, DepIs C (-1) 0 := fun C => ⟨fun _ => rfl, fun h => by omega⟩
  have z := compile_Z fn ff fn (m0 := 0) (m1 := d + 1) (m2 := 0) (dn _) dep (dn _)
  have hlen : (progC (rvars Hd.none.nd (limH k d).nd Hd.none.nd) .none (limH k d) .none).length = 2 * k + 2 * d + 3 := by
    rw [ec, snC]
    obtain ⟨D, s⟩ := sl
    rw [List.length_append, s.ln 0]
    simp; omega
  obtain ⟨ia, ib, ic⟩ := rvars_in (a := Hd.none) (b := limH k d) (c := Hd.none)
  have l5 := rvars_len4 (a := Hd.none) (b := limH k d) (c := Hd.none) trivial ff.fine trivial
  obtain ⟨n, D, g, p0, p1, p2⟩ := prog_good (vs := rvars Hd.none.nd (limH k d).nd Hd.none.nd) (by omega) fn.fine ff.fine fn.fine ia ib ic
  refine ⟨_, hlen, up15 z, fun h16 h400 => ?_⟩
  have hn : (progC (rvars Hd.none.nd (limH k d).nd Hd.none.nd) .none (limH k d) .none).length = n := g.ln 0
  have hv : verifyV (progC (rvars Hd.none.nd (limH k d).nd Hd.none.nd) .none (limH k d) .none) (-1) 0 (-1) = 0 := verifyV_good g (by rw [← hn]; exact h400) p0 p1 p2 (dn _) dep (dn _) (by omega) h16 (by omega)
  refine ⟨hv, ?_⟩
  obtain ⟨v, q1, q2⟩ := depth_same (c := (progC (rvars Hd.none.nd (limH k d).nd Hd.none.nd) .none (limH k d) .none)) (codeD_is _) (by omega) hv 1
  obtain ⟨m, r1, r2⟩ := depth_ex (c := (progC (rvars Hd.none.nd (limH k d).nd Hd.none.nd) .none (limH k d) .none)) (codeD_is _) (by omega) g.okC (h := 1) (by omega) (by omega) (e0 := -1) (e1 := 0) (e2 := -1) (by simp only [entA, Int.reduceEq, if_false, if_true]; omega)
  simp only [entA, Int.reduceEq, if_false, if_true] at r1
  have em : m = d + 1 := r1.unique (D := D) (fun _ => g.cf (e := 0) (by rw [← hn]; omega) (by
    rcases p1 with p | p
    · exact absurd p (by simp [ent1, entV, limH, hdC])
    · exact p.2.2)) dep
  have e2 : v = m := by
    have := q2.symm.trans r2
    simpa using this
  rw [← em, ← e2]
  exact up15 q1
theorem compileLimits_Z {many deep : Int} (h1 : I64 many) (h2 : I64 deep) : Z prog15 (.call 119 [.int many, .int deep] []) = some (.ret (.bool true) []) := by
  have z1 := around15D h1 (m := 231) (by omega)
  have z2 := around15D h2 (m := 9) (by omega)
  have b1 := around_lt h1 (m := 231) (by omega)
  have b2 := around_lt h2 (m := 9) (by omega)
  obtain ⟨k, hk⟩ : ∃ k : Nat, around many 231 = k := ⟨(around many 231).toNat, by omega⟩
  obtain ⟨q, hq⟩ : ∃ q : Nat, around deep 9 = q := ⟨(around deep 9).toNat, by omega⟩
  rw [hk] at z1 b1
  rw [hq] at z2 b2
  obtain ⟨σ, hs, hl⟩ := l_loop (d := 12 + q) k (by omega) k 0 (by omega) .nil
  obtain ⟨C, hC, hz, hgood⟩ := lim_comp (k := k) (d := 11 + q) (by omega) (by omega)
  have zn := nested_Z (11 + q) (by omega)
  rw [show (((11 + q : Nat)) : Int) = 11 + (q : Int) by omega] at zn hz hgood
  have ea : (11 : Int) + q + 1 = 12 + q := by omega
  rw [ea] at hz hgood
  have w1 := wrap64 (12 + (q : Int)) (by omega)
  have w2 : IntKind.i64.wrap (12 + (q : Int) - 1) = 11 + q := by rw [wrap64 _ (by omega)]; omega
  have w2' : IntKind.i64.wrap (11 + (q : Int)) = 11 + q := wrap64 _ (by omega)
  have w3 := wrap64 (2 * (k : Int)) (by omega)
  have w4 := wrap64 (2 * (12 + (q : Int))) (by omega)
  have w5 := wrap64 (2 * (k : Int) + 2 * (12 + (q : Int))) (by omega)
  have w6 := wrap64 (2 * (k : Int) + 2 * (12 + (q : Int)) + 1) (by omega)
  have hlen : (asgS k).fo.len = k := (asg_fine k (by omega)).2.2.1
  have r1 := room56 (n := k + 1) (by omega)
  have r0 := room56 (n := 1) (by omega)
  generalize hS : limS k (11 + q) = L at *
  have hLc : L.fo.cells = (asgS k).fo.cells ++ (Ss.assign true ⟨#[118]⟩ (nstE (11 + (q : Int)) (11 + q)) .nil).fo.cells := by
    rw [← hS, limS, ss_app, fo_cells_app]; rfl
  have hLl : L.fo.len = k + 1 := by rw [← hS, limS, ss_app, fo_len_app, hlen]; rfl
  have hcl := fo_cells_len (asgS k).fo
  simp only [Ss.fo, fo_cells_cons, fo_cells_nil, len_fo, cells_fo, fo_len_nil, kd_s, Nat.zero_add] at hLc
  simp only [lFr, show ((0 : Nat) : Int) = 0 from rfl] at hl
  have hLd : ∀ σ : S, V.len σ .sl (.dat (codeD C)) = some (C.length : Int) := (codeD_is C).len
  have ho := (codeD_is C).one
  have hcc := (codeD_is C).cells
  have hv := verify15D (e0 := -1) (e1 := 0) (e2 := -1) (codeD_is C) (by omega)
  have hCi : (C.length : Int) = 2 * k + 2 * (12 + q) + 1 := by omega
  rw [hCi] at hLd
  unfold compV at hz
  simp only [limH, hS] at hz
  generalize codeD C = X at *
  simp only [ru, Nd.d, hd_k, hd_n, hd_s, hd_f, hd_ks, Hd.k, Hd.f, Hd.ks, pgD, fo_len_nil, fo_cells_nil, kd_0, hLl, kd_s, hLc] at hz hgood hv
  refine Z_call (pf := F119) rfl rfl ?_
  generalize (asgS k).fo = pre at *
  cases hs with
  | nil =>
    have hk0 : k = 0 := by simpa using hlen.symm
    subst hk0
    simp only [fo_cells_nil, List.nil_append] at hLc hz hgood
    rw [show ((0 : Nat) : Int) = 0 from rfl] at *
    rw [show 2 * (0 : Int) + 2 * (12 + q) = 2 * (12 + (q : Int)) by omega] at *
    have w3 : IntKind.i64.wrap 0 = 0 := rfl
    simp only [Nat.zero_add] at hz hgood hv
    by_cases h4 : 400 < C.length
    · rw [if_pos h4] at hz
      have h4' : (400 : Int) < 2 * (12 + (q : Int)) + 1 := by omega
      simp [F119, z1, z2, w1, w2, w2', w3, w4, w5, w6, hl, zn, hz, h4', lives15D, len_nil, appendV, srcV, r0, calm, alone, List.range_succ]
    rw [if_neg h4] at hz
    have h4' : ¬ (400 : Int) < 2 * (12 + (q : Int)) + 1 := by omega
    by_cases h5 : (16 : Int) < 0 ∨ (16 : Int) < 12 + q ∨ (16 : Int) < 0
    · rw [if_pos h5] at hz
      have h5' : (16 : Int) < 12 + q := by omega
      simp [F119, z1, z2, w1, w2, w2', w3, w4, w5, w6, hl, zn, hz, h4', h5', lives15D, len_nil, appendV, srcV, r0, calm, alone, List.range_succ]
    · rw [if_neg h5] at hz
      have h5' : ¬ (16 : Int) < 12 + q := by omega
      obtain ⟨g1, g2⟩ := hgood (by omega) (by omega)
      rw [g1] at hv
      simp [F119, z1, z2, w1, w2, w2', w3, w4, w5, w6, hl, zn, hz, h4', h5', hLd, ho, hcc, g2, hv, lives15D, len_nil, appendV, srcV, r0, calm, alone, List.range_succ]
  | gr _ g =>
    by_cases h4 : 400 < C.length
    · rw [if_pos h4] at hz
      have h4' : (400 : Int) < 2 * k + 2 * (12 + q) + 1 := by omega
      simp [F119, z1, z2, w1, w2, w2', w3, w4, w5, w6, hl, zn, hz, h4', lives15D, len_nil, appendV, srcV, r1, hcl, hlen, calm, alone, List.range_succ]
    rw [if_neg h4] at hz
    have h4' : ¬ (400 : Int) < 2 * k + 2 * (12 + q) + 1 := by omega
    by_cases h5 : (16 : Int) < 0 ∨ (16 : Int) < 12 + q ∨ (16 : Int) < 0
    · rw [if_pos h5] at hz
      have h5' : (16 : Int) < 12 + q := by omega
      simp [F119, z1, z2, w1, w2, w2', w3, w4, w5, w6, hl, zn, hz, h4', h5', lives15D, len_nil, appendV, srcV, r1, hcl, hlen, calm, alone, List.range_succ]
    · rw [if_neg h5] at hz
      have h5' : ¬ (16 : Int) < 12 + q := by omega
      obtain ⟨g1, g2⟩ := hgood (by omega) (by omega)
      rw [g1] at hv
      simp [F119, z1, z2, w1, w2, w2', w3, w4, w5, w6, hl, zn, hz, h4', h5', hLd, ho, hcc, g2, hv, lives15D, len_nil, appendV, srcV, r1, hcl, hlen, calm, alone, List.range_succ]
end Go.Pm
end SN22
