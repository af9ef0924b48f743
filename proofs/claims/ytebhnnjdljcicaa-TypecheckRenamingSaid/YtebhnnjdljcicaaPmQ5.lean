/- Chapter 14: generated expressions; the law of types. -/
import Derived.Test.YtebhnnjdljcicaaPmQ4
import Derived.Test.YtebhnnjdljcicaaPmW
namespace Go.Pm
open F
theorem ints_Z {v : D} {xs : List Int} (h : RowV v xs) (k : Nat) (hk : k ≤ 1000) : Z prog (.call 23 [.dat v, .int k] []) = some (.ret (.dat (intsD (xs.take k))) []) := by
  rcases h with ⟨o, rfl, rfl⟩ | rfl
  · simpa using ints0_Z o k (by omega)
  · exact ints1_Z xs k hk
theorem Expr_Z {v : D} {xs : List Int} (h : RowV v xs) (hx : ∀ x ∈ xs, I64 x) : ∃ e : E, e.size ≤ 200 ∧ Z prog (.call 7 [.dat v] []) = some (.ret e.node []) := by
  have hx' : ∀ x ∈ xs.take 40, I64 x := fun x hm => hx x (List.mem_of_mem_take hm)
  have n0 := ints_Z h 40 (by omega)
  have n1 := next_Z (i := 0) (m := 2) hx' (by omega) (by omega) (by omega)
  have hl := nextV_lt (i := 0) (m := 2) hx' (by omega)
  have hc : cst 4 = 124 := by decide
  obtain ⟨e, i', h1, h2, h3⟩ := expr_Z hx' 4 (1 + nextV (xs.take 40) 0 2) 1 (by omega) (by omega) (by omega) (by rw [hc]; decide)
  rw [hc] at h2
  refine ⟨e, by omega, ?_⟩
  refine Z_call (pf := F7) rfl ?_
  have w1 := wrap64 (1 + nextV (xs.take 40) 0 2) (by omega)
  simp only [src] at h3
  simp at n0 n1 h3
  simp [F7, n0, n1, h3, w1]
theorem lives_Z : Z prog (.call 10 [] []) = some (.ret (.bool true) []) := Z_of (n := 60) (by kernel_rfl)
theorem typeOf_assign (e : E) (s : ByteArray) (f : Bool) : Z prog (.call 8 [.dat (.agg [.lit (.int .i64 1), .lit (.int .i64 0), .lit (.string s), .sl [.lit (.int .i64 e.kind), .lit (.int .i64 e.num), .lit (.string e.str), e.kids] 1 f])] []) = some (.ret (.int 0) []) := by
  have h : Z prog (.call 27 [.agg [.mp 0], .dat (.agg [.lit (.int .i64 1), .lit (.int .i64 0), .lit (.string s), .sl [.lit (.int .i64 e.kind), .lit (.int .i64 e.num), .lit (.string e.str), e.kids] 1 f])] [.map tblE]) = some (.ret (.int 0) [.map tblE]) := by
    refine Z_call (pf := F27) rfl ?_
    simp [F27, kids1_Z]
  refine Z_call (pf := F8) rfl ?_
  simp [F8, newChecker_Z, h]
theorem Types_Z {v : D} {xs : List Int} (h : RowV v xs) (hx : ∀ x ∈ xs, I64 x) : Z prog (.call 0 [.dat v] []) = some (.ret (.bool true) []) := by
  obtain ⟨e, -, h1⟩ := Expr_Z h hx
  refine Z_call (pf := F0) rfl ?_
  simp [F0, h1, TypeOf_Z, rTypeOf_Z, typeOf_assign, lives_Z]
end Go.Pm
