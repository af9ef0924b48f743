/- Chapter 15: the law of runs: its rounds. -/
import Derived.Test.YtdnnjabacgpfdaaGreatDoorPmRs
set_option linter.unusedSimpArgs false
set_option linter.unusedVariables false
section SRs2
namespace Go.Pm
open F Gr
set_option maxHeartbeats 4000000
section
variable {a b c : Hd} {d sd : D} {C : Cd} {e0 e1 e2 : Int} {vs : List ByteArray} {xs : List Int}
theorem ru_step2 (hd : IsCode d C) (hs : IsRow sd xs) (hx : ∀ x ∈ xs, I64 x) (h : c.k = 0 \/ ∃ st, RuOK d e0 e1 e2 e2 vs (begW xs 48) c st) : Z prog15z (.loop 0 F205l0 (ruFr sd vs 2) (ruSt a b c d e0 e1 e2)) = Z prog15z (.loop 0 F205l0 (ruFr sd vs 3) (ruSt a b c d e0 e1 e2)) := by
 have w1 := wrap64 3 (by omega)
 have ho := hd.one
 have hcc := hd.cells
 have ho' := hs.one
 have hcc' := hs.cells
 conv => lhs; rw [Z_loop_eq]
 by_cases hk : c.k = 0
 · simp [loopStep, run_F205l0, hk, w1, ho, hcc, ho', hcc', rbox, Nd.d, List.range_succ]
   try exact Z_loop_cong (by simp [hk, ho, hcc, ho', hcc', rbox, Nd.d, List.range_succ])
 obtain ⟨⟨ws, l, n, cc⟩, hl, hlg, z1, z2⟩ := h.resolve_left hk
 dsimp only at hl hlg z1 z2
 have zb := begin_Z hs hx 400 (by omega) (by omega)
 have zc := begin_Z hs hx 20000 (by omega) (by omega)
 have c49 := cut49 hl
 have c49' := cut49 (begW_length xs 48)
 have c48 := cut48 hl
 have cV := cutVv hl
 have cF := cutF hl
 have q16 := eq16 hl
 have q32 := eq32 hl
 have sl := stL_length hl
 have sl' := stL_length (begW_length xs 48)
 simp only [pgD] at z2
 by_cases hn : n <= 0
 · by_cases hne : l = []
   · subst hne
     simp only [stS] at z1
     simp [loopStep, run_F205l0, hk, w1, ho, hcc, ho', hcc', rbox, Nd.d, zb, z1, c49, c49', sl, sl', hn, calm, alone, List.range_succ]
     try exact Z_loop_cong (by simp [hk, ho, hcc, ho', hcc', rbox, Nd.d, List.range_succ])
   · rw [stS_cons _ hne] at z1
     simp [loopStep, run_F205l0, hk, w1, ho, hcc, ho', hcc', rbox, Nd.d, zb, z1, c49, c49', sl, sl', hn, calm, alone, List.range_succ]
     try exact Z_loop_cong (by simp [hk, ho, hcc, ho', hcc', rbox, Nd.d, List.range_succ])
 obtain ⟨N, hN, z2⟩ := z2 (by omega)
 have hN' : ¬ N <= 0 := by omega
 by_cases hne : l = []
 · subst hne
   have zs := si_nil
   simp only [stS] at z1 z2
   simp [loopStep, run_F205l0, hk, w1, ho, hcc, ho', hcc', rbox, Nd.d, zb, zc, z1, z2, c49, c49', c48, cV, cF, q16, q32, agg_ints, sl, sl', hn, hN', zs, calm, alone, runTr, calm2, stillI, still, V.same, List.range_succ]
   try exact Z_loop_cong (by simp [hk, ho, hcc, ho', hcc', rbox, Nd.d, List.range_succ])
 · rw [stS_cons _ hne] at z1 z2
   have zs := si_Z l hlg
   simp [loopStep, run_F205l0, hk, w1, ho, hcc, ho', hcc', rbox, Nd.d, zb, zc, z1, z2, c49, c49', c48, cV, cF, q16, q32, agg_ints, sl, sl', hn, hN', zs, calm, alone, runTr, calm2, stillI, still, V.same, List.range_succ]
   try exact Z_loop_cong (by simp [hk, ho, hcc, ho', hcc', rbox, Nd.d, List.range_succ])
end
end Go.Pm
end SRs2
