/- Chapter 14: the law of substitution. -/
import Derived.Test.YtebhnnjdljcicaaPmQ21
set_option linter.unusedSimpArgs false
set_option linter.unusedVariables false
namespace Go.Pm
open F
/-- The expression with the at-th part of type t replaced, and how many parts of that type were met. -/
def repE (t : Int) (u : E) : E → Int → E × Int
  | .field f s e, at_ => if (E.field f s e).ty = t ∧ at_ = 0 then (u, 1) else
      let m : Int := if (E.field f s e).ty = t then 1 else 0
      (.field false s (repE t u e (at_ - m)).1, m + (repE t u e (at_ - m)).2)
  | .un f neg e, at_ => if (E.un f neg e).ty = t ∧ at_ = 0 then (u, 1) else
      let m : Int := if (E.un f neg e).ty = t then 1 else 0
      (.un false neg (repE t u e (at_ - m)).1, m + (repE t u e (at_ - m)).2)
  | .bin f o a b, at_ => if (E.bin f o a b).ty = t ∧ at_ = 0 then (u, 1) else
      let m : Int := if (E.bin f o a b).ty = t then 1 else 0
      let a' := repE t u a (at_ - m)
      let b' := repE t u b (at_ - (m + a'.2))
      (.bin false o a'.1 b'.1, m + a'.2 + b'.2)
  | e, at_ => if e.ty = t ∧ at_ = 0 then (u, 1) else (e, if e.ty = t then 1 else 0)
theorem rep_ty (t : Int) (u : E) (hu : u.ty = t) : ∀ (e : E) (at_ : Int), (repE t u e at_).1.ty = e.ty
  | .int n, at_ => by unfold repE; split <;> simp_all
  | .bool n, at_ => by unfold repE; split <;> simp_all
  | .var s, at_ => by unfold repE; split <;> simp_all
  | .name s, at_ => by unfold repE; split <;> simp_all
  | .field f s e, at_ => by
    unfold repE
    split
    · rename_i h; rw [hu]; exact h.1.symm
    · simp only [ty_field, rep_ty t u hu e]
  | .un f neg e, at_ => by
    unfold repE
    split
    · rename_i h; rw [hu]; exact h.1.symm
    · simp only [ty_un, rep_ty t u hu e]
  | .bin f o a b, at_ => by
    unfold repE
    split
    · rename_i h; rw [hu]; exact h.1.symm
    · simp only [ty_bin, rep_ty t u hu a, rep_ty t u hu b]
theorem rep_cnt (t : Int) (u : E) : ∀ (e : E) (at_ : Int), 0 ≤ (repE t u e at_).2 ∧ (repE t u e at_).2 ≤ e.size
  | .int n, at_ => by unfold repE; simp only [size_int]; split <;> (try split) <;> simp
  | .bool n, at_ => by unfold repE; simp only [size_bool]; split <;> (try split) <;> simp
  | .var s, at_ => by unfold repE; simp only [size_var]; split <;> (try split) <;> simp
  | .name s, at_ => by unfold repE; simp only [size_name]; split <;> (try split) <;> simp
  | .field f s e, at_ => by
    unfold repE
    simp only [size_field]
    split
    · simp; omega
    · have := rep_cnt t u e
      simp only
      split
      · have := this (at_ - 1); omega
      · have := this (at_ - 0); omega
  | .un f neg e, at_ => by
    unfold repE
    simp only [size_un]
    split
    · simp; omega
    · have := rep_cnt t u e
      simp only
      split
      · have := this (at_ - 1); omega
      · have := this (at_ - 0); omega
  | .bin f o a b, at_ => by
    unfold repE
    simp only [size_bin]
    split
    · simp; omega
    · have h1 := rep_cnt t u a
      have h2 := rep_cnt t u b
      simp only
      split
      · have h1 := h1 (at_ - 1)
        have h2 := h2 (at_ - (1 + (repE t u a (at_ - 1)).2))
        omega
      · have h1 := h1 (at_ - 0)
        have h2 := h2 (at_ - (0 + (repE t u a (at_ - 0)).2))
        omega
section
variable {t at_ : Int} {u : E}
attribute [local simp] loopStep Z_loop_eq V.len sliceAddr
abbrev RepC (t : Int) (u e : E) (at_ : Int) : Prop := Z prog (.call 19 [e.node, .int t, .int at_, u.node] []) = some (.ret (.tup [(repE t u e at_).1.node, .int (repE t u e at_).2]) [])
theorem rp_int (n : Int) : RepC t u (.int n) at_ := by
  have h1 := rTypeOf_Z (.int n)
  refine Z_call (pf := F19) rfl ?_
  simp [E.node] at h1
  by_cases ht : (1 : Int) = t
  · subst ht
    by_cases h0 : at_ = 0
    · simp [F19, h1, h0, repE]
    · simp [F19, run_F19l0, h1, h0, repE]
  · simp [F19, run_F19l0, h1, ht, repE]
theorem rp_bool (n : Int) : RepC t u (.bool n) at_ := by
  have h1 := rTypeOf_Z (.bool n)
  refine Z_call (pf := F19) rfl ?_
  simp [E.node] at h1
  by_cases ht : (2 : Int) = t
  · subst ht
    by_cases h0 : at_ = 0
    · simp [F19, h1, h0, repE]
    · simp [F19, run_F19l0, h1, h0, repE]
  · simp [F19, run_F19l0, h1, ht, repE]
theorem rp_var (s : ByteArray) : RepC t u (.var s) at_ := by
  have h1 := rTypeOf_Z (.var s)
  refine Z_call (pf := F19) rfl ?_
  simp [E.node] at h1
  by_cases ht : (1 : Int) = t
  · subst ht
    by_cases h0 : at_ = 0
    · simp [F19, h1, h0, repE]
    · simp [F19, run_F19l0, h1, h0, repE]
  · simp [F19, run_F19l0, h1, ht, repE]
theorem rp_name (s : ByteArray) : RepC t u (.name s) at_ := by
  have h1 := rTypeOf_Z (.name s)
  refine Z_call (pf := F19) rfl ?_
  simp [E.node] at h1
  by_cases ht : (1 : Int) = t
  · subst ht
    by_cases h0 : at_ = 0
    · simp [F19, h1, h0, repE]
    · simp [F19, run_F19l0, h1, h0, repE]
  · simp [F19, run_F19l0, h1, ht, repE]
theorem rp_one {k : Int} {s : ByteArray} {f : Bool} {e : E} {ty : Int} (hk : k = 11 ∨ k = 13) (hb : -1000000000000 ≤ at_ ∧ at_ ≤ 2^62)
    (h1 : Z prog (.call 9 [.dat (.agg [.lit (.int .i64 k), .lit (.int .i64 0), .lit (.string s), .sl [.lit (.int .i64 e.kind), .lit (.int .i64 e.num), .lit (.string e.str), e.kids] 1 f])] []) = some (.ret (.int ty) []))
    (hz : e.size ≤ 1000) (ih : ∀ a, at_ - 1001 ≤ a ∧ a ≤ at_ → RepC t u e a) :
    Z prog (.call 19 [.dat (.agg [.lit (.int .i64 k), .lit (.int .i64 0), .lit (.string s), .sl [.lit (.int .i64 e.kind), .lit (.int .i64 e.num), .lit (.string e.str), e.kids] 1 f]), .int t, .int at_, u.node] []) =
      if ty = t ∧ at_ = 0 then some (.ret (.tup [u.node, .int 1]) []) else
      let m : Int := if ty = t then 1 else 0
      some (.ret (.tup [.dat (.agg [.lit (.int .i64 k), .lit (.int .i64 0), .lit (.string s), .sl [.lit (.int .i64 (repE t u e (at_ - m)).1.kind), .lit (.int .i64 (repE t u e (at_ - m)).1.num), .lit (.string (repE t u e (at_ - m)).1.str), (repE t u e (at_ - m)).1.kids] 1 false]), .int (m + (repE t u e (at_ - m)).2)]) []) := by
  by_cases ht : ty = t
  · subst ht
    by_cases h0 : at_ = 0
    · rw [if_pos ⟨rfl, h0⟩]
      refine Z_call (pf := F19) rfl ?_
      simp [F19, h1, h0]
    · rw [if_neg (fun h => h0 h.2)]
      have hr := ih (at_ - 1) (by omega)
      have hc := rep_cnt ty u e (at_ - 1)
      have w0 := wrap64 (at_ - 1) (by omega)
      have w1 := wrap64 (1 + (repE ty u e (at_ - 1)).2) (by omega)
      have w2 := wrap64 1 (by omega)
      simp only [RepC] at hr
      refine Z_call (pf := F19) rfl ?_
      simp only [↓reduceIte]
      generalize repE ty u e (at_ - 1) = q at *
      simp [F19, run_F19l0, h1, h0, hr, w0, w1, w2, appendV, srcV, roomFor]
  · rw [if_neg (fun h => ht h.1)]
    have hr := ih (at_ - 0) (by omega)
    have hc := rep_cnt t u e (at_ - 0)
    have w0 := wrap64 at_ (by omega)
    have w1 := wrap64 ((repE t u e (at_ - 0)).2) (by omega)
    have w2 := wrap64 1 (by omega)
    rw [Int.sub_zero] at hr hc w1
    simp only [RepC] at hr
    refine Z_call (pf := F19) rfl ?_
    simp only [if_neg ht, Int.sub_zero, Int.zero_add]
    generalize repE t u e at_ = q at *
    simp [F19, run_F19l0, h1, ht, hr, w0, w1, w2, appendV, srcV, roomFor]
theorem rp_two {s : ByteArray} {f : Bool} {a b : E} {ty : Int} (hb : -1000000000000 ≤ at_ ∧ at_ ≤ 2^62)
    (h1 : Z prog (.call 9 [.dat (.agg [.lit (.int .i64 14), .lit (.int .i64 0), .lit (.string s), .sl [.lit (.int .i64 a.kind), .lit (.int .i64 a.num), .lit (.string a.str), a.kids, .lit (.int .i64 b.kind), .lit (.int .i64 b.num), .lit (.string b.str), b.kids] 2 f])] []) = some (.ret (.int ty) []))
    (hz : a.size ≤ 1000) (hz' : b.size ≤ 1000) (iha : ∀ x, at_ - 1001 ≤ x ∧ x ≤ at_ → RepC t u a x) (ihb : ∀ x, at_ - 1001 ≤ x ∧ x ≤ at_ → RepC t u b x) :
    Z prog (.call 19 [.dat (.agg [.lit (.int .i64 14), .lit (.int .i64 0), .lit (.string s), .sl [.lit (.int .i64 a.kind), .lit (.int .i64 a.num), .lit (.string a.str), a.kids, .lit (.int .i64 b.kind), .lit (.int .i64 b.num), .lit (.string b.str), b.kids] 2 f]), .int t, .int at_, u.node] []) =
      if ty = t ∧ at_ = 0 then some (.ret (.tup [u.node, .int 1]) []) else
      let m : Int := if ty = t then 1 else 0
      let a' := repE t u a (at_ - m)
      let b' := repE t u b (at_ - (m + a'.2))
      some (.ret (.tup [.dat (.agg [.lit (.int .i64 14), .lit (.int .i64 0), .lit (.string s), .sl [.lit (.int .i64 a'.1.kind), .lit (.int .i64 a'.1.num), .lit (.string a'.1.str), a'.1.kids, .lit (.int .i64 b'.1.kind), .lit (.int .i64 b'.1.num), .lit (.string b'.1.str), b'.1.kids] 2 false]), .int (m + a'.2 + b'.2)]) []) := by
  by_cases ht : ty = t
  · subst ht
    by_cases h0 : at_ = 0
    · rw [if_pos ⟨rfl, h0⟩]
      refine Z_call (pf := F19) rfl ?_
      simp [F19, h1, h0]
    · rw [if_neg (fun h => h0 h.2)]
      have hr := iha (at_ - 1) (by omega)
      have hc := rep_cnt ty u a (at_ - 1)
      have w0 := wrap64 (at_ - 1) (by omega)
      have w1 := wrap64 (1 + (repE ty u a (at_ - 1)).2) (by omega)
      have w2 := wrap64 1 (by omega)
      have w3 := wrap64 (at_ - (1 + (repE ty u a (at_ - 1)).2)) (by omega)
      have hr' := ihb (at_ - (1 + (repE ty u a (at_ - 1)).2)) (by omega)
      have hc' := rep_cnt ty u b (at_ - (1 + (repE ty u a (at_ - 1)).2))
      have w4 := wrap64 (1 + (repE ty u a (at_ - 1)).2 + (repE ty u b (at_ - (1 + (repE ty u a (at_ - 1)).2))).2) (by omega)
      have w5 := wrap64 2 (by omega)
      simp only [RepC] at hr hr'
      refine Z_call (pf := F19) rfl ?_
      simp only [↓reduceIte]
      generalize repE ty u b (at_ - (1 + (repE ty u a (at_ - 1)).2)) = p at *
      generalize repE ty u a (at_ - 1) = q at *
      simp [F19, run_F19l0, h1, h0, hr, hr', w0, w1, w2, w3, w4, w5, appendV, srcV, roomFor]
  · rw [if_neg (fun h => ht h.1)]
    have hr := iha (at_ - 0) (by omega)
    have hc := rep_cnt t u a (at_ - 0)
    have w0 := wrap64 at_ (by omega)
    rw [Int.sub_zero] at hr hc
    have w1 := wrap64 ((repE t u a at_).2) (by omega)
    have w2 := wrap64 1 (by omega)
    have w3 := wrap64 (at_ - (repE t u a at_).2) (by omega)
    have hr' := ihb (at_ - (repE t u a at_).2) (by omega)
    have hc' := rep_cnt t u b (at_ - (repE t u a at_).2)
    have w4 := wrap64 ((repE t u a at_).2 + (repE t u b (at_ - (repE t u a at_).2)).2) (by omega)
    have w5 := wrap64 2 (by omega)
    simp only [RepC] at hr hr'
    refine Z_call (pf := F19) rfl ?_
    simp only [if_neg ht, Int.sub_zero, Int.zero_add]
    generalize repE t u b (at_ - (repE t u a at_).2) = p at *
    generalize repE t u a at_ = q at *
    simp [F19, run_F19l0, h1, ht, hr, hr', w0, w1, w2, w3, w4, w5, appendV, srcV, roomFor]
theorem rep_Z (t : Int) (u : E) (e : E) : e.size ≤ 1000 → ∀ (at_ : Int), -(2000 * (1001 - (e.size : Int))) ≤ at_ → at_ ≤ 4611686018427387904 → RepC t u e at_ := by
  induction e with
  | int n => exact fun _ at_ _ _ => rp_int n
  | bool n => exact fun _ at_ _ _ => rp_bool n
  | var s => exact fun _ at_ _ _ => rp_var s
  | name s => exact fun _ at_ _ _ => rp_name s
  | field f s e ih =>
    intro hz at_ hb hb'
    simp only [size_field] at hz hb
    have h1 := rTypeOf_Z (.field f s e)
    have h := rp_one (t := t) (u := u) (k := 11) (s := s) (f := f) (e := e) (at_ := at_) (.inl rfl) (by omega) h1 (by omega) fun a ha => ih (by omega) a (by omega) (by omega)
    unfold RepC repE
    rw [show (E.field f s e).node = .dat (.agg [.lit (.int .i64 11), .lit (.int .i64 0), .lit (.string s), .sl [.lit (.int .i64 e.kind), .lit (.int .i64 e.num), .lit (.string e.str), e.kids] 1 f]) from rfl, h]
    split <;> rfl
  | un f neg e ih =>
    intro hz at_ hb hb'
    simp only [size_un] at hz hb
    have h1 := rTypeOf_Z (.un f neg e)
    have h := rp_one (t := t) (u := u) (k := 13) (s := ustr neg) (f := f) (e := e) (at_ := at_) (.inr rfl) (by omega) h1 (by omega) fun a ha => ih (by omega) a (by omega) (by omega)
    unfold RepC repE
    rw [show (E.un f neg e).node = .dat (.agg [.lit (.int .i64 13), .lit (.int .i64 0), .lit (.string (ustr neg)), .sl [.lit (.int .i64 e.kind), .lit (.int .i64 e.num), .lit (.string e.str), e.kids] 1 f]) from rfl, h]
    split <;> rfl
  | bin f o a b iha ihb =>
    intro hz at_ hb hb'
    simp only [size_bin] at hz hb
    have h1 := rTypeOf_Z (.bin f o a b)
    have h := rp_two (t := t) (u := u) (s := o.str) (f := f) (a := a) (b := b) (at_ := at_) (by omega) h1 (by omega) (by omega) (fun x hx => iha (by omega) x (by omega) (by omega)) fun x hx => ihb (by omega) x (by omega) (by omega)
    unfold RepC repE
    rw [show (E.bin f o a b).node = .dat (.agg [.lit (.int .i64 14), .lit (.int .i64 0), .lit (.string o.str), .sl [.lit (.int .i64 a.kind), .lit (.int .i64 a.num), .lit (.string a.str), a.kids, .lit (.int .i64 b.kind), .lit (.int .i64 b.num), .lit (.string b.str), b.kids] 2 f]) from rfl, h]
    split <;> rfl
end
theorem ty_pos (e : E) : 0 ≤ e.ty ∧ e.ty ≤ 2 := by
  cases e with
  | bin f o a b => simp only [ty_bin]; split <;> (cases o <;> simp [Bop.res])
  | field f s e => simp only [ty_field]; split <;> simp
  | un f neg e => simp only [ty_un]; cases neg <;> simp <;> split <;> simp
  | _ => simp
theorem Substitution_Z {v w : D} {xs ys : List Int} {n : Int} (h : RowV v xs) (hx : ∀ x ∈ xs, I64 x) (h' : RowV w ys) (hy : ∀ x ∈ ys, I64 x) (hn : I64 n) : Z prog (.call 3 [.dat v, .dat w, .int n] []) = some (.ret (.bool true) []) := by
  obtain ⟨a, ha, h1⟩ := Expr_Z h hx
  obtain ⟨u, hu, h2⟩ := Expr_Z h' hy
  have ta := TypeOf_Z a
  have tu := TypeOf_Z u
  have r1 := rep_Z u.ty u a (by omega) (-1) (by omega) (by omega)
  have c1 := rep_cnt u.ty u a (-1)
  by_cases h0 : u.ty = 0
  · refine Z_call (pf := F3) rfl ?_
    rw [h0] at tu
    simp [F3, h1, h2, tu, lives_Z]
  · by_cases hm : (repE u.ty u a (-1)).2 = 0
    · refine Z_call (pf := F3) rfl ?_
      simp only [RepC] at r1
      simp [F3, h1, h2, tu, h0, r1, hm, lives_Z]
    · have hz := around_Z (n := n) (m := (repE u.ty u a (-1)).2) hn (by omega)
      have hl := around_lt (n := n) (m := (repE u.ty u a (-1)).2) hn (by omega)
      have r2 := rep_Z u.ty u a (by omega) (around n (repE u.ty u a (-1)).2) (by omega) (by omega)
      have t2 := TypeOf_Z (repE u.ty u a (around n (repE u.ty u a (-1)).2)).1
      rw [rep_ty u.ty u rfl] at t2
      simp only [RepC] at r1 r2
      refine Z_call (pf := F3) rfl ?_
      generalize repE u.ty u a (around n (repE u.ty u a (-1)).2) = q at *
      generalize repE u.ty u a (-1) = p at *
      simp [F3, h1, h2, tu, ta, t2, h0, r1, r2, hm, hz, lives_Z]
end Go.Pm
