/- Chapter 15: the law of runs: its rounds. -/
import Derived.Test.YtdnnjabacgpfdaaGreatDoorPmRn
import Derived.Test.YtdnnjabacgpfdaaGreatDoorPmRf
import Derived.Test.YtdnnjabacgpfdaaGreatDoorPmDk
set_option linter.unusedSimpArgs false
set_option linter.unusedVariables false
section SRs
namespace Go.Pm
open F Gr
set_option maxHeartbeats 4000000
theorem eqLits_self : ∀ w : List Int, eqLits (List.replicate w.length .i) (intsC w) (intsC w) = some true
 | [] => rfl
 | x :: w => by
   have ih := eqLits_self w
   rw [intsC_cons, List.length_cons, List.replicate_succ]
   simp [eqLits, eqLit, eqI, ih]
theorem eq16 {ws : List Int} (h : ws.length = 48) : eqLits [.i,.i,.i,.i,.i,.i,.i,.i,.i,.i,.i,.i,.i,.i,.i,.i] (intsC (ws.take 16)) (intsC (ws.take 16)) = some true := by
 have := eqLits_self (ws.take 16)
 rw [show (ws.take 16).length = 16 by simp [h]] at this
 exact this
theorem eq32 {ws : List Int} (h : ws.length = 48) : eqLits [.i,.i,.i,.i,.i,.i,.i,.i,.i,.i,.i,.i,.i,.i,.i,.i,.i,.i,.i,.i,.i,.i,.i,.i,.i,.i,.i,.i,.i,.i,.i,.i] (intsC (ws.drop 16)) (intsC (ws.drop 16)) = some true := by
 have := eqLits_self (ws.drop 16)
 rw [show (ws.drop 16).length = 32 by simp [h]] at this
 exact this
theorem cutVv {ws : List Int} (h : ws.length = 48) (lv : V) (n : Int) (b : Bool) : cutCells (stL ws lv n b) 0 16 = some (ints (ws.take 16)) := by
 unfold cutCells
 rw [List.drop_zero, stL, List.take_append_of_le_length (by simp; omega), if_pos (by simp; omega)]
 simp [ints, List.map_take]
theorem cutF {ws : List Int} (h : ws.length = 48) (lv : V) (n : Int) (b : Bool) : cutCells (stL ws lv n b) 16 32 = some (ints (ws.drop 16)) := by
 have e : ((stL ws lv n b).drop 16).take 32 = ints (ws.drop 16) := by
   rw [stL, List.drop_append_of_le_length (by simp; omega), List.take_append_of_le_length (by simp; omega), List.take_of_length_le (by simp; omega)]
   simp [ints, List.map_drop]
 unfold cutCells
 rw [e, if_pos (by simp [h])]
theorem agg_ints (w : List Int) : mkAgg (ints w) = .dat (.agg (intsC w)) := by simp [mkAgg]
abbrev cmFr (w : List Int) (i : Int) : Fr := [(0, .dat (.sl (intsC w) w.length false)), (1, .dat (.sl (intsC w) w.length false)), (5, .int i)]
theorem si_loop (w : List Int) (hw : w.length < 2^40) : ∀ (m i : Nat), i + m = w.length ->
   Z prog15z (.loop 0 F58l0 (cmFr w i) []) = some (.out (.exit 0) (cmFr w w.length ++ [(14, .bool false)]) [])
 | 0, i, hi => by
   obtain rfl : i = w.length := by omega
   rw [Z_loop_eq]
   simp [loopStep, run_F58l0, len_sl]
 | m + 1, i, hi => by
   have hi' : (i : Int) < w.length := by omega
   have s1 := at_full (intsC w) w.length false i (by omega) hi'
   have q1 := cut1_intsC w i (by omega)
   have w1 := wrap64 ((i : Int) + 1) (by omega)
   rw [show (i : Int).toNat = i by omega] at s1
   rw [<- si_loop w hw m (i + 1) (by omega)]
   conv => lhs; rw [Z_loop_eq]
   simp [loopStep, run_F58l0, len_sl, hi', s1, q1, w1, calm, alone]
theorem si_Z (w : List Int) (hw : w.length < 2^40) : Z prog15z (.call 58 [.dat (.sl (intsC w) w.length false), .dat (.sl (intsC w) w.length false)] []) = some (.ret (.bool true) []) := by
 have e := si_loop w hw w.length 0 (by omega)
 rw [show ((0 : Nat) : Int) = 0 from rfl] at e
 simp only [cmFr] at e
 refine Z_call (pf := F58) rfl rfl ?_
 simp [F58, len_sl, e]
theorem si_nil : Z prog15z (.call 58 [nilV0, nilV0] []) = some (.ret (.bool true) []) := by
 refine Z_call (pf := F58) rfl rfl ?_
 simp [F58, len_nil, Z_loop_eq, loopStep, run_F58l0]
structure RuOK (d : D) (e0 e1 e2 e : Int) (vs : List ByteArray) (W : List Int) (h : Hd) (st : RS) : Prop where
 len : st.ws.length = 48
 lg : st.l.length < 2^40
 doZ : Z prog15z (.call 209 [.ptr 0 0, nd h.k 0 ⟨#[]⟩ h.f h.ks, .dat (strD vs)] [.cells (stL W nilV0 400 false)]) = some (.ret (.tup []) (stS st.ws st.l st.n st.c))
 exZ : 0 < st.n -> ∃ N, 0 < N /\ Z prog15z (.call 210 [.ptr 0 0, pgD d e0 e1 e2, .int e] [.cells (stL W nilV0 20000 false)]) = some (.ret (.bool true) (stS st.ws st.l N false))
section
variable {a b c : Hd} {d sd : D} {C : Cd} {e0 e1 e2 : Int} {vs : List ByteArray} {xs : List Int}
abbrev ruSt (a b c : Hd) (d : D) (e0 e1 e2 : Int) : S := [rbox a.nd b.nd c.nd, .cells [.dat d, .int e0, .int e1, .int e2]]
abbrev ruFr (sd : D) (vs : List ByteArray) (i : Int) : Fr := [(1, .dat sd), (5, .ptr 0 0), (6, .ptr 1 0), (8, .dat (strD vs)), (9, .int i)]
theorem ru_step0 (hd : IsCode d C) (hs : IsRow sd xs) (hx : ∀ x ∈ xs, I64 x) (h : a.k = 0 \/ ∃ st, RuOK d e0 e1 e2 e0 vs (begW xs 48) a st) : Z prog15z (.loop 0 F205l0 (ruFr sd vs 0) (ruSt a b c d e0 e1 e2)) = Z prog15z (.loop 0 F205l0 (ruFr sd vs 1) (ruSt a b c d e0 e1 e2)) := by
 have w1 := wrap64 1 (by omega)
 have ho := hd.one
 have hcc := hd.cells
 have ho' := hs.one
 have hcc' := hs.cells
 conv => lhs; rw [Z_loop_eq]
 by_cases hk : a.k = 0
 · simp [loopStep, run_F205l0, hk, w1, ho, hcc, ho', hcc', rbox, Nd.d, List.range_succ]
   try exact Z_loop_cong (by simp [hk, ho, hcc, ho', hcc', rbox, Nd.d, List.range_succ])
 obtain ⟨⟨ws, l, n, cc⟩, hl, hlg, z1, z2⟩ := h.resolve_left hk
 dsimp only at hl hlg z1 z2
 have zb := begin_Z hs hx 400 (by omega) (by omega)
 have zc := begin_Z hs hx 20000 (by omega) (by omega)
 have c49 := cut49 hl
 have c49' := cut49 (begW_length xs 48)
 have c48 := cut48 hl
 have cV := cutVv hl
 have cF := cutF hl
 have q16 := eq16 hl
 have q32 := eq32 hl
 have sl := stL_length hl
 have sl' := stL_length (begW_length xs 48)
 simp only [pgD] at z2
 by_cases hn : n <= 0
 · by_cases hne : l = []
   · subst hne
     simp only [stS] at z1
     simp [loopStep, run_F205l0, hk, w1, ho, hcc, ho', hcc', rbox, Nd.d, zb, z1, c49, c49', sl, sl', hn, calm, alone, List.range_succ]
     try exact Z_loop_cong (by simp [hk, ho, hcc, ho', hcc', rbox, Nd.d, List.range_succ])
   · rw [stS_cons _ hne] at z1
     simp [loopStep, run_F205l0, hk, w1, ho, hcc, ho', hcc', rbox, Nd.d, zb, z1, c49, c49', sl, sl', hn, calm, alone, List.range_succ]
     try exact Z_loop_cong (by simp [hk, ho, hcc, ho', hcc', rbox, Nd.d, List.range_succ])
 obtain ⟨N, hN, z2⟩ := z2 (by omega)
 have hN' : ¬ N <= 0 := by omega
 by_cases hne : l = []
 · subst hne
   have zs := si_nil
   simp only [stS] at z1 z2
   simp [loopStep, run_F205l0, hk, w1, ho, hcc, ho', hcc', rbox, Nd.d, zb, zc, z1, z2, c49, c49', c48, cV, cF, q16, q32, agg_ints, sl, sl', hn, hN', zs, calm, alone, runTr, calm2, stillI, still, V.same, List.range_succ]
   try exact Z_loop_cong (by simp [hk, ho, hcc, ho', hcc', rbox, Nd.d, List.range_succ])
 · rw [stS_cons _ hne] at z1 z2
   have zs := si_Z l hlg
   simp [loopStep, run_F205l0, hk, w1, ho, hcc, ho', hcc', rbox, Nd.d, zb, zc, z1, z2, c49, c49', c48, cV, cF, q16, q32, agg_ints, sl, sl', hn, hN', zs, calm, alone, runTr, calm2, stillI, still, V.same, List.range_succ]
   try exact Z_loop_cong (by simp [hk, ho, hcc, ho', hcc', rbox, Nd.d, List.range_succ])
end
end Go.Pm
end SRs
