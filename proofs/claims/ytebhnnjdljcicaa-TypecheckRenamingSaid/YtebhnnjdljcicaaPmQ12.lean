/- Chapter 14: the code's walk over a tree, and what each round does. -/
import Derived.Test.YtebhnnjdljcicaaPmQ11
set_option linter.unusedSimpArgs false
set_option linter.unusedVariables false
namespace Go.Pm
open F
def mapM : Nat → List ByteArray → List (Value × V)
  | _, [] => []
  | i, s :: l => (.string s, .int i) :: mapM (i + 1) l
theorem find_mapM (s : ByteArray) : ∀ (l : List ByteArray) (i : Nat), (s ∉ l → findE .s (.string s) (mapM i l) = some none) ∧ (s ∈ l → ∃ j : Nat, findE .s (.string s) (mapM i l) = some (some (.int j)))
  | [], i => by simp [mapM, findE]
  | x :: l, i => by
    have ih := find_mapM s l (i + 1)
    by_cases h : s = x
    · subst h
      exact ⟨fun hn => absurd (List.mem_cons_self ..) hn, fun _ => ⟨i, by simp [mapM, findE, sameKey]⟩⟩
    · have hb : (s == x) = false := by rw [bytes_beq]; exact decide_eq_false h
      refine ⟨fun hn => ?_, fun hm => ?_⟩
      · have := ih.1 (fun hm => hn (List.mem_cons_of_mem _ hm))
        simp [mapM, findE, sameKey, hb, this]
      · obtain ⟨j, hj⟩ := ih.2 ((List.mem_cons.1 hm).resolve_left h)
        exact ⟨j, by simp [mapM, findE, sameKey, hb, hj]⟩
theorem set_mapM (s : ByteArray) : ∀ (l : List ByteArray) (i : Nat), s ∉ l → setE .s (.string s) (.int (i + l.length : Nat)) (mapM i l) = some (mapM i (l ++ [s]))
  | [], i, _ => by simp [mapM, setE]
  | x :: l, i, hn => by
    have h : s ≠ x := fun h => hn (h ▸ List.mem_cons_self ..)
    have hb : (s == x) = false := by rw [bytes_beq]; exact decide_eq_false h
    have ih := set_mapM s l (i + 1) (fun hm => hn (List.mem_cons_of_mem _ hm))
    rw [show i + 1 + l.length = i + (l.length + 1) by omega] at ih
    simp only [List.length_cons, List.cons_append, mapM, setE, sameKey, hb, ih]
theorem locs_mapM : ∀ (l : List ByteArray) (i : Nat), locsE (mapM i l) = []
  | [], i => rfl
  | x :: l, i => by simp [mapM, locs_mapM l]
theorem ren_mapM (r : Nat → Nat) : ∀ (l : List ByteArray) (i : Nat), renE r (mapM i l) = mapM i l
  | [], i => rfl
  | x :: l, i => by simp [mapM, ren_mapM r l]
attribute [local simp] locs_mapM ren_mapM
abbrev lpO (r : D) (i : Int) : Ob := .loop ⟨[(3, .ptr 1 0), (4, .ptr 2 0), (12, .dat r), (13, .int i), (17, .fn 38 [] [.ptr 3 0])], [18], F15a0, F15b0, 0, none⟩
abbrev S0 (r : D) (j : Int) (bx : Ob) : S := [lpO r j, .cells [.dat (.lit (.slice none 0 0))], .cells [.mp 4], bx, .map []]
abbrev S01 (r : D) (j : Int) (bx : Ob) (l : List ByteArray) : S := [lpO r j, .cells [.gsl (strC l) l.length 1 5], .cells [.mp 4], bx, .map (mapM 0 l), .tip l.length]
abbrev S1 (r : D) (j : Int) (bx : Ob) (l : List ByteArray) : S := [lpO r j, .cells [.gsl (strC l) l.length 1 4], .cells [.mp 5], bx, .tip l.length, .map (mapM 0 l)]
section
variable {k n k0 n0 : Int} {s s0 : ByteArray} {f f0 : Bool} {ks : Fo} {d0 : D} {r : D} {j : Int} {l : List ByteArray}
theorem rd_skip0 (h1 : k ≠ 1) (h2 : k ≠ 10) : Z prog (.round [.yld 0, nd k n s f ks] (S0 r j (boxO k0 n0 s0 d0))) = some (.ret (.bool true) (S0 r j (boxO k0 n0 s0 d0))) := by
  rw [Z_round_eq]
  simp [runRound, flat_F15a0, flat_F15b0, run_F15a0, run_F15b0, putAll, h1, h2, Lp.ended, Ex.isNormal, boxO, List.range_succ]
theorem rd_skip1 (h1 : k ≠ 1) (h2 : k ≠ 10) : Z prog (.round [.yld 0, nd k n s f ks] (S1 r j (boxO k0 n0 s0 d0) l)) = some (.ret (.bool true) (S1 r j (boxO k0 n0 s0 d0) l)) := by
  rw [Z_round_eq]
  simp [runRound, flat_F15a0, flat_F15b0, run_F15a0, run_F15b0, putAll, h1, h2, Lp.ended, Ex.isNormal, boxO, List.range_succ]
theorem rd_dup1 (hk : k = 1 ∨ k = 10) (hs : s ∈ l) : Z prog (.round [.yld 0, nd k n s f ks] (S1 r j (boxO k0 n0 s0 d0) l)) = some (.ret (.bool true) (S1 r j (boxO k0 n0 s0 d0) l)) := by
  obtain ⟨q, hq⟩ := (find_mapM s l 0).2 hs
  rw [Z_round_eq]
  rcases hk with rfl | rfl <;> simp [runRound, flat_F15a0, flat_F15b0, run_F15a0, run_F15b0, putAll, hq, keyOk, Lp.ended, Ex.isNormal, boxO, List.range_succ]
theorem rd_add0 (hk : k = 1 ∨ k = 10) : Z prog (.round [.yld 0, nd k n s f ks] (S0 r j (boxO k0 n0 s0 d0))) = some (.ret (.bool true) (S01 r j (boxO k0 n0 s0 d0) [s])) := by
  rw [Z_round_eq]
  rcases hk with rfl | rfl <;> simp [runRound, flat_F15a0, flat_F15b0, run_F15a0, run_F15b0, putAll, findE, setE, mapM, strC_one, keyOk, Lp.ended, Ex.isNormal, boxO, List.range_succ, V.len, appendV, srcV, roomFor]
theorem rd_add1 (hk : k = 1 ∨ k = 10) (hs : s ∉ l) (h0 : l ≠ []) (hl : l.length < 2^30) : Z prog (.round [.yld 0, nd k n s f ks] (S1 r j (boxO k0 n0 s0 d0) l)) = some (.ret (.bool true) (S1 r j (boxO k0 n0 s0 d0) (l ++ [s]))) := by
  have hq := (find_mapM s l 0).1 hs
  have hs' := set_mapM s l 0 hs
  rw [Nat.zero_add] at hs'
  have r2 : roomFor (l.length + 1) 16 = true := by simp [roomFor]; omega
  rw [Z_round_eq]
  rcases hk with rfl | rfl <;> simp [runRound, flat_F15a0, flat_F15b0, run_F15a0, run_F15b0, putAll, hq, hs', strC_app, strC_one, keyOk, Lp.ended, Ex.isNormal, boxO, List.range_succ, V.len, appendV, srcV, r2]
/-- What a round does to the row. -/
theorem rd0 : ∃ S', Z prog (.round [.yld 0, nd k n s f ks] (S0 r j (boxO k0 n0 s0 d0))) = some (.ret (.bool true) S') ∧
    ((addAll [] (if k = 1 ∨ k = 10 then [s] else []) = [] ∧ S' = S0 r j (boxO k0 n0 s0 d0)) ∨ (addAll [] (if k = 1 ∨ k = 10 then [s] else []) ≠ [] ∧ S' = S01 r j (boxO k0 n0 s0 d0) (addAll [] (if k = 1 ∨ k = 10 then [s] else [])))) := by
  by_cases hk : k = 1 ∨ k = 10
  · simp only [if_pos hk]
    exact ⟨_, rd_add0 hk, .inr ⟨by simp [addAll, addN], rfl⟩⟩
  · simp only [if_neg hk]
    exact ⟨_, rd_skip0 (by omega) (by omega), .inl ⟨rfl, rfl⟩⟩
theorem rd1 (h0 : l ≠ []) (hl : l.length < 2^30) : Z prog (.round [.yld 0, nd k n s f ks] (S1 r j (boxO k0 n0 s0 d0) l)) = some (.ret (.bool true) (S1 r j (boxO k0 n0 s0 d0) (addAll l (if k = 1 ∨ k = 10 then [s] else [])))) := by
  by_cases hk : k = 1 ∨ k = 10
  · simp only [if_pos hk, addAll, List.foldl_cons, List.foldl_nil, addN]
    by_cases hs : s ∈ l
    · rw [if_pos hs]; exact rd_dup1 hk hs
    · rw [if_neg hs]; exact rd_add1 hk hs h0 hl
  · simp only [if_neg hk]
    exact rd_skip1 (by omega) (by omega)
end
end Go.Pm
