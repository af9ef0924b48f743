/- What a law is given, as abstract values; what it may leave behind. -/
import Derived.Test.YtebhnnjdljcicaaPmS
import Derived.DataReads
import Derived.Below
set_option linter.unusedSimpArgs false
set_option linter.unusedVariables false
namespace Go.Pm
/-- A slice of whole numbers that a law is given. -/
def RowV (v : D) (xs : List Int) : Prop :=
  (∃ o, v = .lit (.slice o 0 0) ∧ xs = []) ∨ v = .sl (intsC xs) xs.length false
theorem RowV.one {v : D} {xs : List Int} (h : RowV v xs) : V.one (.dat v) = true := by rcases h with ⟨o, rfl, rfl⟩ | rfl <;> rfl
theorem RowV.cells {v : D} {xs : List Int} (h : RowV v xs) : V.cells (.dat v) = [.dat v] := by rcases h with ⟨o, rfl, rfl⟩ | rfl <;> rfl
theorem reps_ints (F : Nat → Nat) (w : World) : ∀ xs : List Int, RepDs F w (intsC xs) (xs.map (.int .i64))
  | [] => rfl
  | x :: xs => ⟨_, _, rfl, ⟨rfl, rfl⟩, reps_ints F w xs⟩
theorem row_rep (fid : Fid) {w : World} {a : Option Addr} {len cap : Nat} {zs : List Int}
    (h : (a = none ∧ len = 0 ∧ cap = 0 ∧ zs = []) ∨ ∃ x, a = some x ∧ len ≤ cap ∧ cap ≤ maxLen ∧ zs.length = cap ∧ (∀ i, i < zs.length → w.cell? (x.add i) = some (.int .i64 (zs.getD i 0))) ∧ ∀ n ∈ zs, (Lit.int .i64 n).wf = true) :
    ∃ d, RowV d (zs.take len) ∧ (∀ x ∈ zs.take len, I64 x) ∧ Rep fid (start w) (.dat d) (.slice a len cap) := by
  rcases h with ⟨rfl, rfl, rfl, rfl⟩ | ⟨x, rfl, h1, h2, h3, h4, h5⟩
  · exact ⟨.lit (.slice none 0 0), .inl ⟨_, rfl, rfl⟩, by simp, rfl, rfl⟩
  by_cases hc : cap = 0
  · subst hc
    have : len = 0 := by omega
    subst this
    exact ⟨.lit (.slice (some x) 0 0), .inl ⟨_, rfl, by simp⟩, by simp, rfl, rfl⟩
  have hl : (zs.take len).length = len := by rw [List.length_take]; omega
  have hs : x.spot = none := World.cell?_spot (v := .int .i64 (zs.getD 0 0)) (by simpa [Addr.add] using h4 0 (by omega))
  obtain ⟨b, o, sp⟩ := x
  simp only at hs
  subst hs
  have hcell : ∀ i, i < zs.length → w.cell? ⟨b, o + i, none⟩ = some (.int .i64 (zs.getD i 0)) := fun i hi => by
    have := h4 i hi
    by_cases h0 : i = 0
    · subst h0; simpa [Addr.add] using this
    · simpa [Addr.add, h0] using this
  refine ⟨.sl (intsC (zs.take len)) len false, .inr (by rw [hl]), fun n hn => ?_, b, o, cap, (zs.take len).map (.int .i64), rfl, h1, by simp, reps_ints _ _ _, ?_, ?_, ?_⟩
  · have := h5 n (List.mem_of_mem_take hn)
    simp only [Lit.wf, Bool.and_eq_true, decide_eq_true_eq] at this
    have e1 : IntKind.i64.min = -9223372036854775808 := by decide
    have e2 : IntKind.i64.max = 9223372036854775807 := by decide
    unfold I64
    omega
  · intro i v hv
    rw [List.getElem?_map, List.getElem?_take] at hv
    split at hv
    · rename_i hi
      rw [List.getElem?_eq_getElem (by omega)] at hv
      simp only [Option.map_some, Option.some.injEq] at hv
      subst hv
      rw [show (start w).w = w from rfl, hcell i (by omega)]
      simp [List.getD_eq_getElem?_getD, show i < zs.length by omega]
    · simp at hv
  · intro hp
    simp only [List.length_map, hl] at hp ⊢
    have := hcell (len - 1) (by omega)
    unfold World.cell? at this
    simp only [start, allF]
    split at this
    · rename_i c _ _ hb
      rw [hb]
      simp only [Option.isSome_none, Bool.false_eq_true, if_false] at this
      have hlt : o + (len - 1) < c.size := by
        rcases Nat.lt_or_ge (o + (len - 1)) c.size with h' | h'
        · exact h'
        · rw [Array.getElem?_eq_none h'] at this; cases this
      simp only
      omega
    · cases this
  · intro v hv
    obtain ⟨n, _, rfl⟩ := List.mem_map.1 hv
    rfl
theorem int_rep (fid : Fid) (w : World) (n : Int) : Rep fid (start w) (.int n) (.int .i64 n) := ⟨rfl, rfl⟩
theorem reps1 {fid : Fid} {Γ : Ctx} {a : V} {x : Value} (h : Rep fid Γ a x) : Reps fid Γ [a] [x] := ⟨_, _, rfl, h, rfl⟩
theorem reps_cons {fid : Fid} {Γ : Ctx} {a : V} {x : Value} {as : List V} {xs : List Value} (h : Rep fid Γ a x) (k : Reps fid Γ as xs) : Reps fid Γ (a :: as) (x :: xs) := ⟨_, _, rfl, h, k⟩
end Go.Pm
