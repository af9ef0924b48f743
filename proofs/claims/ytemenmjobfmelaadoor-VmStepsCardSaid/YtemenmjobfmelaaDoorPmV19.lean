/- Chapter 16: a setup. Chapter 16: the cells at the beginning. Chapter 16: the cells at the beginning. Chapter 16: cells that are drawn. -/
import Derived.Test.YtemenmjobfmelaaDoorPmV13
set_option linter.unusedSimpArgs false
set_option linter.unusedVariables false
section SV19
set_option linter.unusedSimpArgs false
set_option linter.unusedVariables false
namespace Go.Pm
open F
theorem doors_cut (i : Nat) (h : i < 3) : ∃ ds nd, cutCells [D.sl [] 0 true, .sl [.lit (.int .i64 0), .lit (.int .i64 1)] 1 true, .sl [.lit (.int .i64 0), .lit (.int .i64 2), .lit (.int .i64 1), .lit (.int .i64 2)] 2 true] i 1 = some [.sl ds nd true] := by
  match i, h with
  | 0, _ => exact ⟨_, _, rfl⟩
  | 1, _ => exact ⟨_, _, rfl⟩
  | 2, _ => exact ⟨_, _, rfl⟩
theorem doors_at (i : Int) (h0 : 0 ≤ i) (h1 : i < 3) (cs : List D) : sliceAddr 1 (.dat (.sl cs 3 true)) i = some (.dat (.imm cs i.toNat)) := by
  simp [sliceAddr, h0, h1]
set_option maxHeartbeats 2000000 in
theorem setup_Z {d : D} {xs : List Int} (hd : IsRow d xs) (hx : ∀ x ∈ xs, I64 x) : ∃ (s : Su) (bs : List Bo), s.ok ∧ s.bs = boC bs ∧ bs.length = s.nb ∧ Z prog16 (.call 45 [.dat d] []) = some (.ret s.d []) := by
  obtain ⟨K, hK, hk, h1⟩ := kall hd hx
  have gm : ∀ j, j < 24 → 0 ≤ getN K j ∧ getN K j < 1000000 := fun j hj => hk _ (getN_mem (by omega))
  have g0 := gm 0 (by omega)
  have g1 := gm 1 (by omega)
  have g2 := gm 2 (by omega)
  have g3 := gm 3 (by omega)
  have c0 := cut1_intsC K 0 (by omega)
  have c1 := cut1_intsC K 1 (by omega)
  have c2 := cut1_intsC K 2 (by omega)
  have c3 := cut1_intsC K 3 (by omega)
  have s0 := gslK_at K 24 1 1 0 (by omega) (by omega)
  have s1 := gslK_at K 24 1 1 1 (by omega) (by omega)
  have s2 := gslK_at K 24 1 1 2 (by omega) (by omega)
  have s3 := gslK_at K 24 1 1 3 (by omega) (by omega)
  rw [show (0 : Int).toNat = 0 from rfl] at s0
  rw [show (1 : Int).toNat = 1 from rfl] at s1
  rw [show (2 : Int).toNat = 2 from rfl] at s2
  rw [show (3 : Int).toNat = 3 from rfl] at s3
  have p0 := tmod_rng g0.1 (m := 3) (by omega)
  have p3 := tmod_rng g3.1 (m := 3) (by omega)
  have q3 := tdiv_rng g3.1 (m := 3) (by omega)
  have r3 := tmod_rng q3.1 (m := 3) (by omega)
  obtain ⟨ds, nd, hds⟩ := doors_cut ((getN K 3).tmod 3).toNat (by omega)
  have hda := doors_at ((getN K 3).tmod 3) p3.1 p3.2
  have w0 := wrap64 (1 + (getN K 0).tmod 3) (by omega)
  obtain ⟨bs, n, e1, e2, e3⟩ := ball ⟨1 + (getN K 0).tmod 3, ds, nd, wr (4000 + wr ((getN K 1).tmod 9 * 1000)), wr (wr (-(wr ((getN K 2).tdiv 36)).tmod 3) * 40), wr ((wr ((getN K 1).tdiv 9)).tmod 5 * 100), wr ((getN K 2).tmod 4 * 100), wr ((wr ((getN K 2).tdiv 4)).tmod 3 * 512), wr (1 + (wr ((getN K 2).tdiv 12)).tmod 3)⟩ hK hk (by simp only; omega) (by simp only; omega)
  unfold many at e1
  simp only at e1
  refine ⟨⟨(1 + (getN K 0).tmod 3).toNat, n, boC bs, ds, nd, wr (4000 + wr ((getN K 1).tmod 9 * 1000)), wr (wr (-(wr ((getN K 2).tdiv 36)).tmod 3) * 40), wr ((wr ((getN K 1).tdiv 9)).tmod 5 * 100), wr ((getN K 2).tmod 4 * 100), wr ((wr ((getN K 2).tdiv 4)).tmod 3 * 512), wr (1 + (wr ((getN K 2).tdiv 12)).tmod 3)⟩, bs, ⟨by simp only; omega, by simp only; omega, by simp only; omega, by simp only; omega⟩, rfl, e2, ?_⟩
  refine Z_call (pf := F45) rfl rfl ?_
  have hp : ((1 + (getN K 0).tmod 3).toNat : Int) = 1 + (getN K 0).tmod 3 := by omega
  simp only [Su.d, Su.c, hp]
  simp only [kFr, zero16] at h1
  simp only [sFr, zero16, Sc.ob, roomsD, iD] at e3
  generalize boC bs = B at *
  generalize getN K 0 = k0 at *
  generalize getN K 1 = k1 at *
  generalize getN K 2 = k2 at *
  generalize getN K 3 = k3 at *
  simp [F45, h1, List.range_succ, calm, alone, s0, s1, s2, s3, c0, c1, c2, c3, w0, hds, hda, e3, iD, roomsD]
end Go.Pm
end SV19
section SV20
set_option linter.unusedSimpArgs false
set_option linter.unusedVariables false
namespace Go.Pm
open F
/-- The first 48 cells are 0. -/
def Low (w : List Int) : Prop := ∀ j, j < 48 → getN w j = 0
theorem low_set {w : List Int} (h : Low w) (i : Int) (v : Int) (hi : 48 ≤ i) : Low (setI w i v) := by
  intro j hj
  have := h j hj
  simp only [getN, setI, List.getD_eq_getElem?_getD] at this ⊢
  rw [List.getElem?_set_ne (by omega)]
  exact this
def suOb (s : Su) : Ob := .cells (s.c.map .dat)
def iFr (N : Nat) (i : Int) : Fr := [(1, .ptr 0 0), (3, .msl 1 0 N N 1), (4, .int i)]
theorem boC_drop (bs : List Bo) (i : Nat) : (boC bs).drop (i * 9) = boC (bs.drop i) := by
  induction i generalizing bs with
  | zero => simp
  | succ i ih =>
    cases bs with
    | nil => simp [boC]
    | cons b bs =>
      rw [show (i + 1) * 9 = 9 + i * 9 by omega, ← List.drop_drop]
      have : (boC (b :: bs)).drop 9 = boC bs := rfl
      rw [this, ih bs]
      rfl
theorem cut_bo (bs : List Bo) (i : Nat) (h : i < bs.length) : cutCells (boC bs) (i * 9) 9 = some bs[i].c := by
  unfold cutCells
  rw [boC_drop, List.drop_eq_getElem_cons h]
  have : boC (bs[i] :: bs.drop (i + 1)) = bs[i].c ++ boC (bs.drop (i + 1)) := rfl
  rw [this]
  rfl
theorem istep (s : Su) (hs : s.ok) (bs : List Bo) (hb : s.bs = boC bs) (hl : bs.length = s.nb) (w : List Int) (hw : w.length = s.n) (hlow : Low w) (i : Nat) (hi : i < s.nb) :
    ∃ w', w'.length = s.n ∧ Low w' ∧ Z prog16 (.loop 0 F55l0 (iFr s.n i) [suOb s, .cells (ints w)]) = Z prog16 (.loop 0 F55l0 (iFr s.n (i + 1 : Nat)) [suOb s, .cells (ints w')]) := by
  have hp := hs.p3; have hq := hs.b5
  have hN : s.n = 48 + 4 * s.p + 8 * s.nb := rfl
  have hbody := rbody_Z s hs i
  have hB : bodyI s i = 48 + 4 * s.p + 8 * i := by unfold bodyI; rw [if_neg (by omega)]
  rw [hB] at hbody
  have hcut := cut_bo bs i (by omega)
  generalize bs[i] = b at hcut
  generalize hA : (48 + 4 * (s.p : Int) + 8 * i) = A at *
  have hA0 : 48 ≤ A := by omega
  have hA1 : A + 8 ≤ s.n := by omega
  have hsz : s.n < 1000 := by omega
  have t0 := set_ints w (A).toNat b.x (by first | omega | (simp; omega))
  have y0 : (A).toNat + 1 ≤ w.length := by omega
  have z0 : A < s.n := by omega
  have v0 : 0 ≤ A := by omega
  have t1 := set_ints (w.set (A).toNat b.x) ((A + 1)).toNat b.y (by first | omega | (simp; omega))
  have x1 := wrap64 (A + 1) (by omega)
  have y1 : ((A + 1)).toNat + 1 ≤ w.length := by omega
  have z1 : (A + 1) < s.n := by omega
  have v1 : 0 ≤ (A + 1) := by omega
  have t2 := set_ints ((w.set (A).toNat b.x).set ((A + 1)).toNat b.y) ((A + 2)).toNat b.vx (by first | omega | (simp; omega))
  have x2 := wrap64 (A + 2) (by omega)
  have y2 : ((A + 2)).toNat + 1 ≤ w.length := by omega
  have z2 : (A + 2) < s.n := by omega
  have v2 : 0 ≤ (A + 2) := by omega
  have t3 := set_ints (((w.set (A).toNat b.x).set ((A + 1)).toNat b.y).set ((A + 2)).toNat b.vx) ((A + 3)).toNat b.vy (by first | omega | (simp; omega))
  have x3 := wrap64 (A + 3) (by omega)
  have y3 : ((A + 3)).toNat + 1 ≤ w.length := by omega
  have z3 : (A + 3) < s.n := by omega
  have v3 : 0 ≤ (A + 3) := by omega
  have t4 := set_ints ((((w.set (A).toNat b.x).set ((A + 1)).toNat b.y).set ((A + 2)).toNat b.vx).set ((A + 3)).toNat b.vy) ((A + 4)).toNat b.a (by first | omega | (simp; omega))
  have x4 := wrap64 (A + 4) (by omega)
  have y4 : ((A + 4)).toNat + 1 ≤ w.length := by omega
  have z4 : (A + 4) < s.n := by omega
  have v4 : 0 ≤ (A + 4) := by omega
  have t5 := set_ints (((((w.set (A).toNat b.x).set ((A + 1)).toNat b.y).set ((A + 2)).toNat b.vx).set ((A + 3)).toNat b.vy).set ((A + 4)).toNat b.a) ((A + 5)).toNat b.b (by first | omega | (simp; omega))
  have x5 := wrap64 (A + 5) (by omega)
  have y5 : ((A + 5)).toNat + 1 ≤ w.length := by omega
  have z5 : (A + 5) < s.n := by omega
  have v5 : 0 ≤ (A + 5) := by omega
  refine ⟨((((((w.set (A).toNat b.x).set ((A + 1)).toNat b.y).set ((A + 2)).toNat b.vx).set ((A + 3)).toNat b.vy).set ((A + 4)).toNat b.a).set ((A + 5)).toNat b.b), by simp [hw], ?_, ?_⟩
  · have := low_set (low_set (low_set (low_set (low_set (low_set hlow A b.x hA0) (A + 1) b.y (by omega)) (A + 2) b.vx (by omega)) (A + 3) b.vy (by omega)) (A + 4) b.a (by omega)) (A + 5) b.b (by omega)
    exact this
  have w1 := wrap64 ((i : Int) + 1) (by omega)
  have hi' : (i : Int) < s.nb := by omega
  rw [← hb] at hcut
  simp only [Su.d, Su.c] at hbody
  rw [Z_loop_eq]
  simp [loopStep, run_F55l0, iFr, suOb, Su.c, List.range_succ, hbody, hcut, Bo.c, hi, hi', sliceAddr, w1, V.len, t0, t1, t2, t3, t4, t5, x1, x2, x3, x4, x5, y0, y1, y2, y3, y4, y5, z0, z1, z2, z3, z4, z5, v0, v1, v2, v3, v4, v5]
  simp only [Z_loop_eq]
  congr 1
  simp [List.range_succ, V.cells]
theorem ilast (s : Su) (w : List Int) (N : Nat) : Z prog16 (.loop 0 F55l0 (iFr N s.nb) [suOb s, .cells (ints w)]) = some (.out (.exit 0) (iFr N s.nb ++ [(14, .bool false)]) [suOb s, .cells (ints w)]) := by
  rw [Z_loop_eq]
  simp [loopStep, run_F55l0, iFr, suOb, Su.c, List.range_succ, V.len]
theorem iloop (s : Su) (hs : s.ok) (bs : List Bo) (hb : s.bs = boC bs) (hl : bs.length = s.nb) (m : Nat) : ∀ (w : List Int) (i : Nat), i + m = s.nb → w.length = s.n → Low w →
    ∃ w', w'.length = s.n ∧ Low w' ∧ Z prog16 (.loop 0 F55l0 (iFr s.n i) [suOb s, .cells (ints w)]) = some (.out (.exit 0) (iFr s.n s.nb ++ [(14, .bool false)]) [suOb s, .cells (ints w')]) := by
  induction m with
  | zero =>
    intro w i hi hw hlow
    have : i = s.nb := by omega
    subst this
    exact ⟨w, hw, hlow, ilast s w s.n⟩
  | succ m ih =>
    intro w i hi hw hlow
    obtain ⟨w1, a1, a2, a3⟩ := istep s hs bs hb hl w hw hlow i (by omega)
    obtain ⟨w2, b1, b2, b3⟩ := ih w1 (i + 1) (by omega) a1 a2
    exact ⟨w2, b1, b2, by rw [a3]; exact b3⟩
end Go.Pm
end SV20
section SV21
set_option linter.unusedSimpArgs false
set_option linter.unusedVariables false
namespace Go.Pm
open F
theorem low_zero (n : Nat) : Low (List.replicate n 0) := by
  intro j _
  simp only [getN, List.getD_eq_getElem?_getD, List.getElem?_replicate]
  split <;> rfl
theorem initial_Z (s : Su) (hs : s.ok) (bs : List Bo) (hb : s.bs = boC bs) (hl : bs.length = s.nb) : ∃ w, w.length = s.n ∧ Low w ∧ Z prog16 (.call 55 [s.d] []) = some (.ret (.dat (.sl (intsC w) s.n false)) []) := by
  obtain ⟨w, h1, h2, h3⟩ := iloop s hs bs hb hl s.nb (List.replicate s.n 0) 0 (by omega) (by simp) (low_zero _)
  refine ⟨w, h1, h2, ?_⟩
  refine Z_call (pf := F55) rfl rfl ?_
  have hp := hs.p3; have hq := hs.b5
  have hN : s.n < 1000 := by unfold Su.n; omega
  have hz := size_Z s hs
  have k1 : (s.n : Int) ≤ 1099511627776 ∧ 8 * (s.n : Int) ≤ 281474976710656 := by omega
  have k2 : 8 * s.n ≤ 281474976710656 := by omega
  have k3 := take_all_intsC w s.n (by omega)
  rw [show ((0 : Nat) : Int) = 0 from rfl] at h3
  simp only [iFr, suOb, Su.c, List.map] at h3
  simp only [Su.d, Su.c] at hz ⊢
  simp [F55, repl_ints, k1, k2, k3, hz, h1, h3, List.range_succ]
end Go.Pm
end SV21
section SV22
set_option linter.unusedSimpArgs false
set_option linter.unusedVariables false
namespace Go.Pm
open F
theorem Z_loop_cong {k : Nat} {b : PC} {fr fr' : Fr} {σ σ' : S} (h : gcF k fr σ = gcF k fr' σ') : Z prog16 (.loop k b fr σ) = Z prog16 (.loop k b fr' σ') := by
  rw [Z_loop_eq, Z_loop_eq, h]
def tb7 : List D := [.lit (.int .i64 2147483647), .lit (.int .i64 (-2147483647)), .lit (.int .i64 65536), .lit (.int .i64 46341), .lit (.int .i64 (-46341)), .lit (.int .i64 1048577), .lit (.int .i64 16385)]
def tb5 : List D := [.lit (.int .i64 0), .lit (.int .i64 1), .lit (.int .i64 39), .lit (.int .i64 40), .lit (.int .i64 41)]
theorem tb7_cut (i : Nat) (h : i < 7) : ∃ v, I64 v ∧ cutCells tb7 i 1 = some [.lit (.int .i64 v)] := by
  match i, h with
  | 0, _ => exact ⟨_, by unfold I64; omega, rfl⟩
  | 1, _ => exact ⟨_, by unfold I64; omega, rfl⟩
  | 2, _ => exact ⟨_, by unfold I64; omega, rfl⟩
  | 3, _ => exact ⟨_, by unfold I64; omega, rfl⟩
  | 4, _ => exact ⟨_, by unfold I64; omega, rfl⟩
  | 5, _ => exact ⟨_, by unfold I64; omega, rfl⟩
  | 6, _ => exact ⟨_, by unfold I64; omega, rfl⟩
theorem tb5_cut (i : Nat) (h : i < 5) : ∃ v, cutCells tb5 i 1 = some [.lit (.int .i64 v)] := by
  match i, h with
  | 0, _ => exact ⟨_, rfl⟩
  | 1, _ => exact ⟨_, rfl⟩
  | 2, _ => exact ⟨_, rfl⟩
  | 3, _ => exact ⟨_, rfl⟩
  | 4, _ => exact ⟨_, rfl⟩
def cFr (d : D) (N : Nat) (i : Int) : Fr := [(1, .dat d), (5, .own 0 N 1), (6, .int i)]
theorem at_full (cs : List D) (n : Nat) (f : Bool) (i : Int) (h0 : 0 ≤ i) (h1 : i < n) : sliceAddr 1 (.dat (.sl cs n f)) i = some (.dat (.imm cs i.toNat)) := by
  simp [sliceAddr, h0, h1]
theorem at_own (l N : Nat) (i : Int) (h0 : 0 ≤ i) (h1 : i < N) : sliceAddr 1 (.own l N 1) i = some (.eptr l N i.toNat) := by
  simp [sliceAddr, h0, h1]
theorem len_own (σ : S) (l N : Nat) : V.len σ .sl (.own l N 1) = some N := rfl
theorem cstep {d : D} {xs : List Int} (hd : IsRow d xs) (hx : ∀ x ∈ xs, I64 x) (N : Nat) (hN0 : 48 ≤ N) (hN1 : N < 1000) (w : List Int) (hw : w.length = N) (i : Nat) (h1 : i + 1 < xs.length) (h2 : i < 40) :
    ∃ w', w'.length = N ∧ Z prog16 (.loop 0 F47l0 (cFr d N i) [.vec (ints w)]) = Z prog16 (.loop 0 F47l0 (cFr d N (i + 2 : Nat)) [.vec (ints w')]) := by
  have m0 := hx _ (getN_mem (xs := xs) (i := i) (by omega))
  have m1 := hx _ (getN_mem (xs := xs) (i := i + 1) (by omega))
  have a0 := around_Z m0 (m := N) (by omega)
  have a1 := around_Z m1 (m := 100000) (by omega)
  have b0 := around_lt m0 (m := N) (by omega)
  have b1 := around_lt m1 (m := 100000) (by omega)
  have c0 := cut1_intsC xs i (by omega)
  have c1 := cut1_intsC xs (i + 1) (by omega)
  have e0 := hd.at_ i (by omega) (by omega)
  have e1 := hd.at_ ((i : Int) + 1) (by omega) (by omega)
  rw [show ((i : Int)).toNat = i by omega] at e0
  rw [show ((i : Int) + 1).toNat = i + 1 by omega] at e1
  generalize around (getN xs i) N = at' at a0 b0
  generalize around (getN xs (i + 1)) 100000 = n at a1 b1
  generalize getN xs i = x0 at *
  generalize getN xs (i + 1) = x1 at *
  have r1 := tmod_rng b1.1 (m := 41) (by omega)
  have q7 := tdiv_rng b1.1 (m := 7) (by omega)
  have r7 := tmod_rng q7.1 (m := 7) (by omega)
  have r5 := tmod_rng b1.1 (m := 5) (by omega)
  have w1 := wrap64 ((i : Int) + 1) (by omega)
  have w2 := wrap64 ((i : Int) + 2) (by omega)
  have w3 := wrap64 (n.tmod 41 - 20) (by omega)
  have w4 := wrap64 (n.tdiv 7) (by omega)
  obtain ⟨v7, i7, hv7⟩ := tb7_cut ((n.tdiv 7).tmod 7).toNat (by omega)
  obtain ⟨v5, hv5⟩ := tb5_cut (n.tmod 5).toNat (by omega)
  have f7 := at_full tb7 7 true _ r7.1 r7.2
  have f5 := at_full tb5 5 true _ r5.1 r5.2
  have fo := at_own 0 N at' b0.1 b0.2
  have l1 : (i : Int) + 1 < xs.length := by omega
  have l2 : (i : Int) < 40 := by omega
  have hat : at'.toNat + 1 ≤ N := by omega
  have fin : ∀ v, (ints w).take at'.toNat ++ (V.int v :: (ints w).drop (at'.toNat + 1)) = ints (w.set at'.toNat v) := fun v => set_ints w at'.toNat v (by omega)
  have g : ∀ v, I64 v → ∃ u, Z prog16 (.call 17 [.int v, .int 24] []) = some (.ret (.int u) []) := fun v hv => ⟨_, around_Z hv (by omega)⟩
  obtain ⟨u1, hu1⟩ := g (n.tmod 41 - 20) (by unfold I64; omega)
  obtain ⟨u7, hu7⟩ := g v7 i7
  have key : ∃ v, Z prog16 (.loop 0 F47l0 (cFr d N i) [.vec (ints w)]) = Z prog16 (.loop 0 F47l0 (cFr d N (i + 2 : Nat)) [.vec (ints (w.set at'.toNat v))]) := by
    rw [Z_loop_eq]
    simp only [tb7, tb5] at f7 f5 hv7 hv5
    have b00 := b0.1
    have b01 := b0.2
    rcases (by omega : at' = 11 ∨ at' = 6 ∨ at' = 7 ∨ at' = 8 ∨ (¬ at' = 11 ∧ ¬ at' = 6 ∧ ¬ at' = 7 ∧ ¬ at' = 8)) with rfl | rfl | rfl | rfl | ⟨k11, k6, k70, k8⟩
    · simp only [Int.reduceToNat, Nat.reduceAdd] at fo hat fin
      by_cases k7 : n.tmod 7 = 0
      · refine ⟨v5, ?_⟩
        simp [loopStep, run_F47l0, cFr, List.range_succ, hd.len, len_own, l1, l2, e0, e1, c0, c1, a0, a1, w1, w2, w3, w4, k7, f7, f5, hv7, hv5, fo, hat, fin, hw]
      · refine ⟨v5, ?_⟩
        simp [loopStep, run_F47l0, cFr, List.range_succ, hd.len, len_own, l1, l2, e0, e1, c0, c1, a0, a1, w1, w2, w3, w4, k7, f7, f5, hv7, hv5, fo, hat, fin, hw]
    · simp only [Int.reduceToNat, Nat.reduceAdd] at fo hat fin
      by_cases k7 : n.tmod 7 = 0
      · refine ⟨u7, ?_⟩
        simp [loopStep, run_F47l0, cFr, List.range_succ, hd.len, len_own, l1, l2, e0, e1, c0, c1, a0, a1, w1, w2, w3, w4, k7, f7, f5, hv7, hv5, fo, hat, fin, hw, hu7]
      · refine ⟨u1, ?_⟩
        simp [loopStep, run_F47l0, cFr, List.range_succ, hd.len, len_own, l1, l2, e0, e1, c0, c1, a0, a1, w1, w2, w3, w4, k7, f7, f5, hv7, hv5, fo, hat, fin, hw, hu1]
    · simp only [Int.reduceToNat, Nat.reduceAdd] at fo hat fin
      by_cases k7 : n.tmod 7 = 0
      · refine ⟨u7, ?_⟩
        simp [loopStep, run_F47l0, cFr, List.range_succ, hd.len, len_own, l1, l2, e0, e1, c0, c1, a0, a1, w1, w2, w3, w4, k7, f7, f5, hv7, hv5, fo, hat, fin, hw, hu7]
      · refine ⟨u1, ?_⟩
        simp [loopStep, run_F47l0, cFr, List.range_succ, hd.len, len_own, l1, l2, e0, e1, c0, c1, a0, a1, w1, w2, w3, w4, k7, f7, f5, hv7, hv5, fo, hat, fin, hw, hu1]
    · simp only [Int.reduceToNat, Nat.reduceAdd] at fo hat fin
      by_cases k7 : n.tmod 7 = 0
      · refine ⟨u7, ?_⟩
        simp [loopStep, run_F47l0, cFr, List.range_succ, hd.len, len_own, l1, l2, e0, e1, c0, c1, a0, a1, w1, w2, w3, w4, k7, f7, f5, hv7, hv5, fo, hat, fin, hw, hu7]
      · refine ⟨u1, ?_⟩
        simp [loopStep, run_F47l0, cFr, List.range_succ, hd.len, len_own, l1, l2, e0, e1, c0, c1, a0, a1, w1, w2, w3, w4, k7, f7, f5, hv7, hv5, fo, hat, fin, hw, hu1]
    · by_cases k7 : n.tmod 7 = 0
      · refine ⟨v7, ?_⟩
        simp [loopStep, run_F47l0, cFr, List.range_succ, hd.len, len_own, l1, l2, e0, e1, c0, c1, a0, a1, w1, w2, w3, w4, k7, f7, f5, hv7, hv5, fo, hat, fin, hw, k11, k6, k70, k8]
      · refine ⟨n.tmod 41 - 20, ?_⟩
        simp [loopStep, run_F47l0, cFr, List.range_succ, hd.len, len_own, l1, l2, e0, e1, c0, c1, a0, a1, w1, w2, w3, w4, k7, f7, f5, hv7, hv5, fo, hat, fin, hw, k11, k6, k70, k8]
  obtain ⟨v, e⟩ := key
  exact ⟨w.set at'.toNat v, by simp [hw], e⟩
theorem clast {d : D} {xs : List Int} (hd : IsRow d xs) (N : Nat) (w : List Int) (i : Nat) (h : ¬ (i + 1 < xs.length ∧ i < 40)) (hi : i < 2^60) :
    Z prog16 (.loop 0 F47l0 (cFr d N i) [.vec (ints w)]) = some (.out (.exit 0) (cFr d N i ++ [(22, .bool false)]) [.vec (ints w)]) := by
  have w1 := wrap64 ((i : Int) + 1) (by omega)
  rw [Z_loop_eq]
  by_cases h1 : (i : Int) + 1 < xs.length
  · have h2 : ¬ (i : Int) < 40 := by omega
    simp [loopStep, run_F47l0, cFr, List.range_succ, hd.len, len_own, w1, h1, h2]
  · simp [loopStep, run_F47l0, cFr, List.range_succ, hd.len, len_own, w1, h1]
theorem cloop {d : D} {xs : List Int} (hd : IsRow d xs) (hx : ∀ x ∈ xs, I64 x) (N : Nat) (hN0 : 48 ≤ N) (hN1 : N < 1000) (m : Nat) : ∀ (w : List Int) (i : Nat), w.length = N → 42 ≤ i + m → i < 50 →
    ∃ w' i', w'.length = N ∧ Z prog16 (.loop 0 F47l0 (cFr d N i) [.vec (ints w)]) = some (.out (.exit 0) (cFr d N (i' : Nat) ++ [(22, .bool false)]) [.vec (ints w')]) := by
  induction m with
  | zero => intro w i hw hi hi2; exact ⟨w, i, hw, clast hd N w i (by omega) (by omega)⟩
  | succ m ih =>
    intro w i hw hi hi2
    by_cases h : i + 1 < xs.length ∧ i < 40
    · obtain ⟨w', a1, a2⟩ := cstep hd hx N hN0 hN1 w hw i h.1 h.2
      obtain ⟨w2, i2, b1, b2⟩ := ih w' (i + 2) a1 (by omega) (by omega)
      exact ⟨w2, i2, b1, by rw [a2]; exact b2⟩
    · exact ⟨w, i, hw, clast hd N w i h (by omega)⟩
theorem cells_Z (s : Su) (hs : s.ok) (bs : List Bo) (hb : s.bs = boC bs) (hbl : bs.length = s.nb) {d : D} {xs : List Int} (hd : IsRow d xs) (hx : ∀ x ∈ xs, I64 x) :
    ∃ w, w.length = s.n ∧ Z prog16 (.call 47 [s.d, .dat d] []) = some (.ret (.dat (.sl (intsC w) s.n false)) []) := by
  have hp := hs.p3; have hq := hs.b5
  have hN : 48 ≤ s.n ∧ s.n < 1000 := by unfold Su.n; omega
  obtain ⟨w0, a1, a2, a3⟩ := initial_Z s hs bs hb hbl
  obtain ⟨w, i', b1, b2⟩ := cloop hd hx s.n hN.1 hN.2 42 w0 0 a1 (by omega) (by omega)
  refine ⟨w, b1, ?_⟩
  refine Z_call (pf := F47) rfl rfl ?_
  have hr : roomFor s.n 8 = true := by simp [roomFor]; omega
  have hn0 : ¬ s.n = 0 := by omega
  rw [show ((0 : Nat) : Int) = 0 from rfl] at b2
  have e1 : (intsC w0).map V.dat = ints w0 := by simp [intsC, ints]
  have b3 := (Z_loop_cong (k := 0) (b := F47l0) (fr := [(1, .dat d), (5, .own 1 s.n 1), (6, .int 0)]) (σ := [suOb s, .vec (ints w0)]) (by simp [cFr, suOb, Su.c, List.range_succ])).trans b2
  simp only [cFr, suOb, Su.c, List.map] at b3
  simp only [Su.d, Su.c] at a3 ⊢
  simp [F47, a3, e1, a1, hr, hn0, b3, b1, List.range_succ]
end Go.Pm
end SV22
