/- Chapter 14: the law of statements. -/
import Derived.Test.YtebhnnjdljcicaaPmQ20
set_option linter.unusedSimpArgs false
set_option linter.unusedVariables false
namespace Go.Pm
open F
theorem wf_i64 {n : Int} (h : (Lit.int .i64 n).wf = true) : I64 n := by
  simp only [Lit.wf, Bool.and_eq_true, decide_eq_true_eq] at h
  have e1 : IntKind.i64.min = -9223372036854775808 := by decide
  have e2 : IntKind.i64.max = 9223372036854775807 := by decide
  unfold I64
  omega
theorem Single_Z (k n : Int) (s : ByteArray) (f : Bool) (ks : Fo) : Z prog (.call 18 [nd k n s f ks] []) = some (.ret (.dat (ru Hd.none.nd ⟨7, 0, ⟨#[]⟩, true, .cons k n s f ks .nil⟩ Hd.none.nd)) []) := by
  refine Z_call (pf := F18) rfl ?_
  simp [F18, ru, Nd.d, Hd.k, Hd.f, Hd.ks]
theorem single_chk (st : Ss) (hs : st.fo.size < 2^25) {k n : Int} {s : ByteArray} {f : Bool} {ks : Fo} (h : st.fo = .cons k n s f ks .nil) :
    ∃ c : Int, Z prog (.call 12 [.dat (ru Hd.none.nd ⟨7, 0, ⟨#[]⟩, true, .cons k n s f ks .nil⟩ Hd.none.nd)] []) = some (.ret (.int c) []) ∧ (c ≠ 13 ↔ st.well = true) := by
  have hc := Check_Z (a := .none) (b := .some true st) (c := .none) (by simp [Hd.ks]) (by simpa [Hd.ks] using hs) (by simp [Hd.ks])
  refine ⟨chk .none (.some true st) .none, ?_, ?_⟩
  · rw [show (Hd.some true st).nd = ⟨7, 0, ⟨#[]⟩, true, .cons k n s f ks .nil⟩ by simp [Hd.nd, Hd.k, Hd.f, Hd.ks, h]] at hc
    exact hc
  · simp only [chk, Hd.well, Bool.and_true, Bool.true_and]
    cases st.well with
    | false => simp
    | true =>
      simp only [if_true]
      split <;> simp
section
variable {cs ws r : List D} {i : Nat} {k n : Int} {s : ByteArray} {f w : Bool} {ks : Fo}
abbrev s2fr (cs ws : List D) (i : Int) : Fr := [(14, .dat (.sl cs 6 true)), (16, .dat (.sl ws 6 true)), (17, .int i)]
theorem s2_step (hi : i < 6) (hc : cs.drop (i * 4) = .lit (.int .i64 k) :: .lit (.int .i64 n) :: .lit (.string s) :: kd f ks.len ks.cells :: r) (hw : cutCells ws i 1 = some [.lit (.bool w)])
    (st : Ss) (hs : st.fo.size < 2^25) (h : st.fo = .cons k n s f ks .nil) (hwell : st.well = w) :
    Z prog (.loop 0 F2l0 (s2fr cs ws i) []) = Z prog (.loop 0 F2l0 (s2fr cs ws (i + 1 : Nat)) []) := by
  obtain ⟨c, h1, h2⟩ := single_chk st hs h
  have h0 := Single_Z k n s f ks
  have h4 := cut4 hc
  have w1 := wrap64 ((i : Int) + 1) (by omega)
  have hi6 : (i : Int) < 6 := by omega
  conv => lhs; rw [Z_loop_eq]
  simp [nd, ru, Nd.d, Hd.k, Hd.f, Hd.ks] at h0 h1
  rw [hwell] at h2
  cases w with
  | true =>
    have hne : c ≠ 13 := h2.2 rfl
    simp [loopStep, run_F2l0, hi, hi6, sliceAddr, h4, h0, h1, hw, hne, w1]
  | false =>
    have he : c = 13 := Classical.byContradiction fun hn => by simpa using h2.1 hn
    simp [loopStep, run_F2l0, hi, hi6, sliceAddr, h4, h0, h1, hw, he, w1]
theorem s2_gc (cs ws : List D) (o : S) : Z prog (.loop 0 F2l0 (s2fr cs ws 0) o) = Z prog (.loop 0 F2l0 (s2fr cs ws 0) []) := Z_loop_cong (by simp)
theorem s2_end : Z prog (.loop 0 F2l0 (s2fr cs ws 6) []) = some (.out (.exit 0) (s2fr cs ws 6 ++ [(81, .bool false)]) []) := by
  rw [Z_loop_eq]
  simp [loopStep, run_F2l0]
end
theorem Statements_Z {v u : D} {xs ys : List Int} {n : Int} (h : RowV v xs) (hx : ∀ x ∈ xs, I64 x) (h' : RowV u ys) (hy : ∀ x ∈ ys, I64 x) (hn : I64 n) : Z prog (.call 2 [.dat v, .dat u, .int n] []) = some (.ret (.bool true) []) := by
  obtain ⟨a, ha, h1⟩ := Expr_Z h hx
  obtain ⟨b, hb, h2⟩ := Expr_Z h' hy
  have ta := TypeOf_Z a
  have tb := TypeOf_Z b
  have p6 := around_Z (n := n) (m := 6) hn (by omega)
  have l6 := around_lt (n := n) (m := 6) hn (by omega)
  have p2 := around_Z (n := n) (m := 2) hn (by omega)
  have l2 := around_lt (n := n) (m := 2) hn (by omega)
  have q6 : ∃ s, cutCells [D.lit (.string ⟨#[120]⟩), .lit (.string ⟨#[121]⟩), .lit (.string ⟨#[118, 120]⟩), .lit (.string ⟨#[118, 121]⟩), .lit (.string ⟨#[97]⟩), .lit (.string ⟨#[98]⟩)] (around n 6).toNat 1 = some [.lit (.string s)] ∧ (eqS s hitS || eqS s stillS) = false := by
    have hk : ∀ k : Fin 6, ∃ s, cutCells [D.lit (.string ⟨#[120]⟩), .lit (.string ⟨#[121]⟩), .lit (.string ⟨#[118, 120]⟩), .lit (.string ⟨#[118, 121]⟩), .lit (.string ⟨#[97]⟩), .lit (.string ⟨#[98]⟩)] k.val 1 = some [D.lit (.string s)] ∧ (eqS s hitS || eqS s stillS) = false := by
      intro k
      match k with
      | ⟨0, _⟩ => exact ⟨_, rfl, by kernel_rfl⟩
      | ⟨1, _⟩ => exact ⟨_, rfl, by kernel_rfl⟩
      | ⟨2, _⟩ => exact ⟨_, rfl, by kernel_rfl⟩
      | ⟨3, _⟩ => exact ⟨_, rfl, by kernel_rfl⟩
      | ⟨4, _⟩ => exact ⟨_, rfl, by kernel_rfl⟩
      | ⟨5, _⟩ => exact ⟨_, rfl, by kernel_rfl⟩
    exact hk ⟨(around n 6).toNat, by omega⟩
  have q2 : ∃ s, cutCells [D.lit (.string ⟨#[104, 105, 116]⟩), .lit (.string ⟨#[115, 116, 105, 108, 108]⟩)] (around n 2).toNat 1 = some [.lit (.string s)] ∧ (eqS s hitS || eqS s stillS) = true := by
    have hk : ∀ k : Fin 2, ∃ s, cutCells [D.lit (.string ⟨#[104, 105, 116]⟩), .lit (.string ⟨#[115, 116, 105, 108, 108]⟩)] k.val 1 = some [D.lit (.string s)] ∧ (eqS s hitS || eqS s stillS) = true := by
      intro k
      match k with
      | ⟨0, _⟩ => exact ⟨_, rfl, by kernel_rfl⟩
      | ⟨1, _⟩ => exact ⟨_, rfl, by kernel_rfl⟩
    exact hk ⟨(around n 2).toNat, by omega⟩
  obtain ⟨s, c6, e6⟩ := q6
  obtain ⟨t, c2, e2⟩ := q2
  have sa : ∀ r, (a.fo r).size = a.size + r.size := fo_size a
  have sb : ∀ r, (b.fo r).size = b.size + r.size := fo_size b
  have key : ∀ cs ws, cs = ((Fo.cons 3 0 ⟨#[]⟩ true (a.fo (.cons 7 0 ⟨#[]⟩ false .nil (.cons 7 0 ⟨#[]⟩ false .nil .nil))) (.cons 4 0 ⟨#[]⟩ true (a.fo (.cons 7 0 ⟨#[]⟩ false .nil .nil)) (.cons 1 0 ⟨#[118, 97]⟩ true (a.fo .nil) (.cons 5 0 ⟨#[]⟩ true (a.fo (b.fo .nil)) (.cons 2 0 s true (a.fo (b.fo .nil)) (.cons 2 0 t true (a.fo (b.fo .nil)) .nil)))))).cells) →
      ws = [.lit (.bool (decide (a.ty = 2))), .lit (.bool (decide (a.ty = 2))), .lit (.bool (decide (a.ty = 1))), .lit (.bool (decide (a.ty = 1) && decide (b.ty = 1))), .lit (.bool (decide (a.ty = 1) && decide (b.ty = 1))), .lit (.bool false)] →
      Z prog (.loop 0 F2l0 (s2fr cs ws 0) []) = some (.out (.exit 0) (s2fr cs ws 6 ++ [(81, .bool false)]) []) := by
    intro cs ws hcs hws
    subst hcs hws
    refine (s2_step (i := 0) (by omega) rfl rfl (.cond false true a (.block false .nil (.block false .nil .nil)) .nil) (by simp [Ss.fo, sa]; omega) rfl (by simp [Ss.well])).trans ?_
    refine (s2_step (i := 1) (by omega) rfl rfl (.cond true true a (.block false .nil .nil) .nil) (by simp [Ss.fo, sa]; omega) rfl (by simp [Ss.well])).trans ?_
    refine (s2_step (i := 2) (by omega) rfl rfl (.assign true ⟨#[118, 97]⟩ a .nil) (by simp [Ss.fo, sa]; omega) rfl (by simp [Ss.well])).trans ?_
    refine (s2_step (i := 3) (by omega) rfl rfl (.effect true a b .nil) (by simp [Ss.fo, sa, sb]; omega) rfl (by simp [Ss.well])).trans ?_
    refine (s2_step (i := 4) (by omega) rfl rfl (.store true s a b .nil) (by simp [Ss.fo, sa, sb]; omega) rfl (by simp only [Ss.well, e6]; simp)).trans ?_
    refine (s2_step (i := 5) (by omega) rfl rfl (.store true t a b .nil) (by simp [Ss.fo, sa, sb]; omega) rfl (by simp only [Ss.well, e2]; simp)).trans ?_
    exact s2_end
  have hk0 := key _ _ rfl rfl
  have hk := (s2_gc _ _ [boxO a.kind a.num a.str a.kids, boxO b.kind b.num b.str b.kids, boxO 7 0 ⟨#[]⟩ (.lit (.slice none 0 0))]).trans hk0
  simp only [boxO] at hk
  refine Z_call (pf := F2) rfl ?_
  simp only [s2fr, List.cons_append, List.nil_append] at hk
  simp at hk
  by_cases t1 : a.ty = 1
  · have t2 : ¬ a.ty = 2 := by omega
    simp only [t1, decide_true, Bool.true_and] at hk ta
    by_cases t3 : b.ty = 1
    · simp [t3] at hk tb
      simp [F2, h1, h2, ta, tb, p6, p2, l6, l2, c6, c2, hk, lives_Z, sliceAddr]
    · simp [t3] at hk
      simp [F2, h1, h2, ta, tb, t3, p6, p2, l6, l2, c6, c2, hk, lives_Z, sliceAddr]
  · by_cases t2 : a.ty = 2
    · simp [t2] at hk ta
      simp [F2, h1, h2, ta, tb, p6, p2, l6, l2, c6, c2, hk, lives_Z, sliceAddr]
    · simp [t1, t2] at hk
      simp [F2, h1, h2, ta, tb, t1, t2, p6, p2, l6, l2, c6, c2, hk, lives_Z, sliceAddr]
end Go.Pm
