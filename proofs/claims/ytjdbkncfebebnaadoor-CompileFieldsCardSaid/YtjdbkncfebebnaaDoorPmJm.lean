/- Chapter 13's reference parser: each kind of statement. Chapter 13's reference parser: statements and blocks are the plain ones. Chapter 13's reference parser: blocks. Chapter 13's reference parser: handlers; a whole source. Chapter 13's reference parser: Parse is the plain one. -/
import Derived.Test.YtjdbkncfebebnaaDoorPmJh
import Derived.Test.YtjdbkncfebebnaaDoorPmYg
set_option linter.unusedSimpArgs false
set_option linter.unusedVariables false
section SJm
namespace Go.Pm
open F
set_option maxHeartbeats 4000000
section
variable {T : List Tk} {s : Ps} {lv : Nat}
abbrev ag (k n : Int) (y : ByteArray) (ks : D) : V := .dat (.agg [.lit (.int .i64 k), .lit (.int .i64 n), .lit (.string y), ks])
abbrev k1 (k n : Int) (y : ByteArray) (ks : D) : D := .sl [.lit (.int .i64 k), .lit (.int .i64 n), .lit (.string y), ks] 1 true
abbrev k2 (k n : Int) (y : ByteArray) (ks : D) (k' n' : Int) (y' : ByteArray) (ks' : D) : D := .sl [.lit (.int .i64 k), .lit (.int .i64 n), .lit (.string y), ks, .lit (.int .i64 k'), .lit (.int .i64 n'), .lit (.string y'), ks'] 2 true
theorem fin_stop (hw : WfT T) (hl : s.i < T.length) (hn : nxR T s = bs [115, 116, 111, 112]) (he : s.e = 0) :
   Z tR (.call 173 [.ptr 0 0, .int lv] [PO T s]) = some (.ret (nd 6 0 ⟨#[]⟩ false .nil) [PO T (expectS T (bs [59]) (takeS T s))]) := by
 have zn := next_Z hl
 have zt := take_Z hl hw.len
 have ze := expect_Z (takeS_lt hl) hw.len (bs [59])
 rw [hn] at zn
 generalize takeS T s = s1 at zt ze ⊢
 generalize expectS T (bs [59]) s1 = s2 at ze ⊢
 refine Z_call (pf := F173) rfl rfl ?_
 simp only [bs] at zn ze
 simp [F173, zn, zt, ze, eqS_iff, List.range_succ]
theorem fin_effect (hw : WfT T) (hl : s.i < T.length) (hn : nxR T s = bs [101, 102, 102, 101, 99, 116]) {s2 s3 s4 : Ps} {a b a' b' : Int} {y y' : ByteArray} {d d' : D} (h2 : s2.i < T.length) (h4 : s4.i < T.length)
   (g1 : V.one (.dat d) = true) (g2 : V.cells (.dat d) = [.dat d]) (g3 : V.one (.dat d') = true) (g4 : V.cells (.dat d') = [.dat d'])
   (z1 : Z tR (.call 197 [.ptr 0 0, .int lv, .int 1] [PO T (takeS T s)]) = some (.ret (ag a b y d) [PO T s2])) (e3 : s3 = expectS T (bs [44]) s2)
   (z2 : Z tR (.call 197 [.ptr 0 0, .int lv, .int 1] [PO T s3]) = some (.ret (ag a' b' y' d') [PO T s4])) :
   Z tR (.call 173 [.ptr 0 0, .int lv] [PO T s]) = some (.ret (ag 5 0 ⟨#[]⟩ (k2 a b y d a' b' y' d')) [PO T (expectS T (bs [59]) s4)]) := by
 have zn := next_Z hl
 have zt := take_Z hl hw.len
 have ze := expect_Z h2 hw.len (bs [44])
 have zf := expect_Z h4 hw.len (bs [59])
 rw [hn] at zn
 rw [<- e3] at ze
 generalize takeS T s = s1 at zt z1
 generalize expectS T (bs [59]) s4 = s5 at zf ⊢
 refine Z_call (pf := F173) rfl rfl ?_
 simp only [bs] at zn ze zf
 simp [F173, zn, zt, ze, zf, z1, z2, g1, g2, g3, g4, eqS_iff, calm, alone, List.range_succ]
theorem fin_store (hw : WfT T) (hl : s.i < T.length) {x : ByteArray} (hn : nxR T s = x) (hf : x ∈ fieldNames) {s2 s3 s4 : Ps} {a b a' b' : Int} {y y' : ByteArray} {d d' : D} (h2 : s2.i < T.length) (h4 : s4.i < T.length)
   (g1 : V.one (.dat d) = true) (g2 : V.cells (.dat d) = [.dat d]) (g3 : V.one (.dat d') = true) (g4 : V.cells (.dat d') = [.dat d'])
   (z1 : Z tR (.call 199 [.ptr 0 0, .int lv] [PO T (takeS T s)]) = some (.ret (ag a b y d) [PO T s2])) (e3 : s3 = expectS T (bs [61]) s2)
   (z2 : Z tR (.call 197 [.ptr 0 0, .int lv, .int 1] [PO T s3]) = some (.ret (ag a' b' y' d') [PO T s4])) :
   Z tR (.call 173 [.ptr 0 0, .int lv] [PO T s]) = some (.ret (ag 2 0 x (k2 a b y d a' b' y' d')) [PO T (expectS T (bs [59]) s4)]) := by
 have zn := next_Z hl
 have zt := take_Z hl hw.len
 have ze := expect_Z h2 hw.len (bs [61])
 have zf := expect_Z h4 hw.len (bs [59])
 have zfi := fieldP_Z x
 rw [hn] at zn
 rw [<- e3] at ze
 generalize takeS T s = s1 at zt z1
 generalize expectS T (bs [59]) s4 = s5 at zf ⊢
 have m1 : ¬ x = ⟨#[105, 102]⟩ := field_ne' hf (by decide)
 have m2 : ¬ x = ⟨#[119, 104, 105, 108, 101]⟩ := field_ne' hf (by decide)
 have m3 : ¬ x = ⟨#[115, 116, 111, 112]⟩ := field_ne' hf (by decide)
 have m4 : ¬ x = ⟨#[101, 102, 102, 101, 99, 116]⟩ := field_ne' hf (by decide)
 refine Z_call (pf := F173) rfl rfl ?_
 simp only [bs] at ze zf
 simp [F173, zn, zt, ze, zf, zfi, hf, z1, z2, g1, g2, g3, g4, m1, m2, m3, m4, eqS_iff, calm, alone, List.range_succ]
theorem fin_assign (hw : WfT T) (hl : s.i < T.length) {x : ByteArray} (hn : nxR T s = x) (hx : startsB isLet x = true /\ x ∉ wordNames) (hf : x ∉ fieldNames) {s3 s4 : Ps} {a' b' : Int} {y' : ByteArray} {d' : D} (h4 : s4.i < T.length)
   (g3 : V.one (.dat d') = true) (g4 : V.cells (.dat d') = [.dat d']) (e3 : s3 = expectS T (bs [61]) (takeS T s))
   (z2 : Z tR (.call 197 [.ptr 0 0, .int lv, .int 1] [PO T s3]) = some (.ret (ag a' b' y' d') [PO T s4])) :
   Z tR (.call 173 [.ptr 0 0, .int lv] [PO T s]) = some (.ret (ag 1 0 x (k1 a' b' y' d')) [PO T (expectS T (bs [59]) s4)]) := by
 have zn := next_Z hl
 have zt := take_Z hl hw.len
 have ze := expect_Z (takeS_lt hl) hw.len (bs [61])
 have zf := expect_Z h4 hw.len (bs [59])
 have zfi := fieldP_Z x
 have zre := reserved_Z x
 rw [hn] at zn
 rw [<- e3] at ze
 generalize takeS T s = s1 at zt ze
 generalize expectS T (bs [59]) s4 = s5 at zf ⊢
 have nw : ∀ z ∈ wordNames, ¬ x = z := fun z hz e => hx.2 (e ▸ hz)
 have nl : ∀ z : ByteArray, startsB isLet z = false -> ¬ x = z := fun z hz e => by have := hx.1; rw [e, hz] at this; cases this
 have m1 : ¬ x = ⟨#[105, 102]⟩ := nw _ (by decide)
 have m2 : ¬ x = ⟨#[119, 104, 105, 108, 101]⟩ := nw _ (by decide)
 have m3 : ¬ x = ⟨#[115, 116, 111, 112]⟩ := nw _ (by decide)
 have m4 : ¬ x = ⟨#[101, 102, 102, 101, 99, 116]⟩ := nw _ (by decide)
 have m5 : ¬ x = ⟨#[]⟩ := nl _ (by decide)
 have m6 : ¬ x = ⟨#[63]⟩ := nl _ (by decide)
 obtain ⟨c, hc⟩ : ∃ c, x[0]? = some c := by
   have := hx.1
   cases h : x[0]? with
   | none => simp [startsB, h] at this
   | some c => exact ⟨c, rfl⟩
 have hcl : isLet c = true := by simpa [startsB, hc] using hx.1
 have zl := letter_Z c
 refine Z_call (pf := F173) rfl rfl ?_
 simp only [bs] at ze zf
 simp [F173, zn, zt, ze, zf, zfi, zre, hf, hx.2, z2, g3, g4, m1, m2, m3, m4, m5, m6, hc, hcl, zl, eqS_iff, calm, alone, List.range_succ]
theorem fin_none (hw : WfT T) (hl : s.i < T.length) {x : ByteArray} (hn : nxR T s = x) (m1 : ¬ x = ⟨#[105, 102]⟩) (m2 : ¬ x = ⟨#[119, 104, 105, 108, 101]⟩) (m3 : ¬ x = ⟨#[115, 116, 111, 112]⟩) (m4 : ¬ x = ⟨#[101, 102, 102, 101, 99, 116]⟩) (hf : x ∉ fieldNames)
   (hx : ¬ (startsB isLet x = true /\ x ∉ wordNames)) : Z tR (.call 173 [.ptr 0 0, .int lv] [PO T s]) = some (.ret zeroN [PO T (failS T 12 s)]) := by
 have zn := next_Z hl
 have zf := fail_Z hl 12
 have zfi := fieldP_Z x
 have zre := reserved_Z x
 rw [hn] at zn
 simp only [Int.cast_ofNat_Int] at zf
 generalize failS T 12 s = s1 at zf ⊢
 refine Z_call (pf := F173) rfl rfl ?_
 by_cases m5 : x = ⟨#[]⟩
 · subst m5
   simp [F173, zn, zf, zfi, hf, eqS_iff, List.range_succ]
 · by_cases m6 : x = ⟨#[63]⟩
   · subst m6
     simp [F173, zn, zf, zfi, hf, eqS_iff, List.range_succ]
   · have ysz : x.size ≠ 0 := fun h => m5 (by rw [ByteArray.size_eq_zero_iff] at h; exact h)
     obtain ⟨c, hc⟩ : ∃ c, x[0]? = some c := ⟨x[0], getElem?_pos x 0 (by omega)⟩
     have zl := letter_Z c
     by_cases hcl : isLet c = true
     · have hw6 : x ∈ wordNames := by
         rcases Decidable.em (x ∈ wordNames) with h | h
         · exact h
         · exact absurd ⟨by simp [startsB, hc, hcl], h⟩ hx
       simp [F173, zn, zf, zfi, zre, hf, hw6, m1, m2, m3, m4, m5, m6, hc, hcl, zl, eqS_iff, List.range_succ]
     · simp [F173, zn, zf, zfi, zre, hf, m1, m2, m3, m4, m5, m6, hc, hcl, zl, eqS_iff, List.range_succ]
theorem fin_while (hw : WfT T) (hl : s.i < T.length) (hn : nxR T s = bs [119, 104, 105, 108, 101]) (hlv : lv <= 20) {s2 s3 : Ps} {a b a' b' : Int} {y y' : ByteArray} {d d' : D}
   (g1 : V.one (.dat d) = true) (g2 : V.cells (.dat d) = [.dat d]) (g3 : V.one (.dat d') = true) (g4 : V.cells (.dat d') = [.dat d'])
   (z1 : Z tR (.call 197 [.ptr 0 0, .int lv, .int 1] [PO T (takeS T s)]) = some (.ret (ag a b y d) [PO T s2]))
   (z2 : Z tR (.call 155 [.ptr 0 0, .int ((lv + 1 : Nat))] [PO T s2]) = some (.ret (ag a' b' y' d') [PO T s3])) :
   Z tR (.call 173 [.ptr 0 0, .int lv] [PO T s]) = some (.ret (ag 4 0 ⟨#[]⟩ (k2 a b y d a' b' y' d')) [PO T s3]) := by
 have zn := next_Z hl
 have zt := take_Z hl hw.len
 rw [hn] at zn
 have w1 := wrap64 ((lv : Int) + 1) (by omega)
 generalize takeS T s = s1 at zt z1
 refine Z_call (pf := F173) rfl rfl ?_
 simp only [bs] at zn
 simp only [Int.natCast_add, Int.cast_ofNat_Int] at z2
 simp [F173, zn, zt, z1, z2, w1, g1, g2, g3, g4, eqS_iff, calm, alone, List.range_succ]
abbrev k3 (k n : Int) (y : ByteArray) (ks : D) (k' n' : Int) (y' : ByteArray) (ks' : D) (k'' n'' : Int) (y'' : ByteArray) (ks'' : D) : D := .sl [.lit (.int .i64 k), .lit (.int .i64 n), .lit (.string y), ks, .lit (.int .i64 k'), .lit (.int .i64 n'), .lit (.string y'), ks', .lit (.int .i64 k''), .lit (.int .i64 n''), .lit (.string y''), ks''] 3 false
theorem fin_if (hw : WfT T) (hl : s.i < T.length) (hn : nxR T s = bs [105, 102]) (hlv : lv <= 20) {s2 s3 : Ps} {a b a' b' : Int} {y y' : ByteArray} {d d' : D} (h3 : s3.i < T.length)
   (g1 : V.one (.dat d) = true) (g2 : V.cells (.dat d) = [.dat d]) (g3 : V.one (.dat d') = true) (g4 : V.cells (.dat d') = [.dat d'])
   (z1 : Z tR (.call 197 [.ptr 0 0, .int lv, .int 1] [PO T (takeS T s)]) = some (.ret (ag a b y d) [PO T s2]))
   (z2 : Z tR (.call 155 [.ptr 0 0, .int ((lv + 1 : Nat))] [PO T s2]) = some (.ret (ag a' b' y' d') [PO T s3]))
   (hno : s3.e ≠ 0 \/ ¬ nxR T s3 = bs [101, 108, 115, 101]) :
   Z tR (.call 173 [.ptr 0 0, .int lv] [PO T s]) = some (.ret (ag 3 0 ⟨#[]⟩ (k3 a b y d a' b' y' d' 7 0 ⟨#[]⟩ (.lit (.slice none 0 0)))) [PO T s3]) := by
 have zn := next_Z hl
 have zt := take_Z hl hw.len
 have zn3 := next_Z h3
 rw [hn] at zn
 have w1 := wrap64 ((lv : Int) + 1) (by omega)
 have hroom : roomFor 3 56 = true := by decide
 generalize takeS T s = s1 at zt z1
 refine Z_call (pf := F173) rfl rfl ?_
 simp only [bs] at zn hno
 simp only [Int.natCast_add, Int.cast_ofNat_Int] at z2
 by_cases he0 : s3.e = 0
 · have he : decide (s3.e = 0) = true := decide_eq_true he0
   have hne := hno.resolve_left (fun h => h he0)
   simp [F173, zn, zt, z1, z2, zn3, w1, g1, g2, g3, g4, he, hne, hroom, appendV, srcV, eqS_iff, calm, alone, List.range_succ]
 · have he : decide (s3.e = 0) = false := decide_eq_false he0
   simp [F173, zn, zt, z1, z2, zn3, w1, g1, g2, g3, g4, he, hroom, appendV, srcV, eqS_iff, calm, alone, List.range_succ]
theorem fin_else (hw : WfT T) (hl : s.i < T.length) (hn : nxR T s = bs [105, 102]) (hlv : lv <= 20) {s2 s3 s4 : Ps} {a b a' b' a'' b'' : Int} {y y' y'' : ByteArray} {d d' d'' : D} (h3 : s3.i < T.length)
   (g1 : V.one (.dat d) = true) (g2 : V.cells (.dat d) = [.dat d]) (g3 : V.one (.dat d') = true) (g4 : V.cells (.dat d') = [.dat d']) (g5 : V.one (.dat d'') = true) (g6 : V.cells (.dat d'') = [.dat d''])
   (z1 : Z tR (.call 197 [.ptr 0 0, .int lv, .int 1] [PO T (takeS T s)]) = some (.ret (ag a b y d) [PO T s2]))
   (z2 : Z tR (.call 155 [.ptr 0 0, .int ((lv + 1 : Nat))] [PO T s2]) = some (.ret (ag a' b' y' d') [PO T s3]))
   (he0 : s3.e = 0) (hn3 : nxR T s3 = bs [101, 108, 115, 101])
   (z3 : Z tR (.call 155 [.ptr 0 0, .int ((lv + 1 : Nat))] [PO T (takeS T s3)]) = some (.ret (ag a'' b'' y'' d'') [PO T s4])) :
   Z tR (.call 173 [.ptr 0 0, .int lv] [PO T s]) = some (.ret (ag 3 0 ⟨#[]⟩ (k3 a b y d a' b' y' d' a'' b'' y'' d'')) [PO T s4]) := by
 have zn := next_Z hl
 have zt := take_Z hl hw.len
 have zn3 := next_Z h3
 have zt3 := take_Z h3 hw.len
 rw [hn] at zn
 rw [hn3] at zn3
 have w1 := wrap64 ((lv : Int) + 1) (by omega)
 have hroom : roomFor 3 56 = true := by decide
 have he : decide (s3.e = 0) = true := decide_eq_true he0
 generalize takeS T s = s1 at zt z1
 generalize takeS T s3 = s5 at zt3 z3
 refine Z_call (pf := F173) rfl rfl ?_
 simp only [bs] at zn zn3
 simp only [Int.natCast_add, Int.cast_ofNat_Int] at z2 z3
 simp [F173, zn, zt, z1, z2, z3, zn3, zt3, w1, g1, g2, g3, g4, g5, g6, he, hroom, appendV, srcV, eqS_iff, calm, alone, List.range_succ]
end
end Go.Pm
end SJm
section SJn
namespace Go.Pm
open F
set_option maxHeartbeats 4000000
section
variable {T : List Tk}
theorem stmt_step (hw : WfT T) {n : Nat} (ihb : BlockC T n) : StmtC T (n + 1) := by
 intro lv s ts x h1 hlv hg hx
 have hl := hg.lt
 rw [stmtP] at hx
 cases hn : nx ts with
 | none =>
   obtain ⟨b1, b2⟩ := gd_none hg hn
   obtain ⟨g1, g2⟩ := gd_pend hg hn 12 (α := Ss)
   rw [hn] at hx
   simp only at hx
   rw [g2] at hx
   cases hx
   exact ⟨_, zeroN, ⟨(er_fail (k := 12) g1).1, ndD_zero⟩, fin_none hw hl b2 (by decide) (by decide) (by decide) (by decide) (by decide) (by decide)⟩
 | some y =>
   obtain ⟨b1, b2, b3⟩ := gd_some hg hn
   rw [hn] at hx
   simp only at hx
   have take : y.size ≠ 0 -> Gd T (takeS T s) ts.tail := gd_take hw hg hn
   -- two blocks, or one, behind a condition
   have cond : ∀ (z : Rz E), exprP 12 2 true n 1 lv ts.tail = some z -> y.size ≠ 0 -> True := fun _ _ _ => trivial
   by_cases c1 : y = bs [105, 102]
   · rw [if_pos c1] at hx
     subst c1
     have hgt := take (by decide)
     cases hq : exprP 12 2 true n 1 lv ts.tail with
     | none => rw [hq] at hx; cases hx
     | some z =>
       rw [hq] at hx
       obtain ⟨s2, k, n', y, ks, hpost, g1, g2, hz⟩ := expr_good hw hlv hgt hq
       cases z with
       | er a c =>
         cases hx
         obtain ⟨s3, d, ⟨k', m', y', ks', rfl, g3, g4⟩, hb1, hb2, hb3⟩ := block_err hw (lv := lv + 1) (by omega) hpost.1
         exact ⟨s3, _, ⟨hb1, _, _, _, _, rfl, rfl, rfl⟩, fin_if hw hl b3 hlv hb1.lt g1 g2 g3 g4 hz hb3 (.inl hb2)⟩
       | ok e r =>
         simp only at hx
         obtain ⟨he, hg2⟩ := hpost
         simp only [E.node, V.dat.injEq, D.agg.injEq, List.cons.injEq, D.lit.injEq, Value.int.injEq, true_and, Value.string.injEq, and_true] at he
         obtain ⟨rfl, rfl, rfl, rfl⟩ := he
         cases hqb : blockP 12 2 true false false n (lv + 1) r with
         | none => rw [hqb] at hx; cases hx
         | some zb =>
           rw [hqb] at hx
           obtain ⟨s3, d, hpb, hzb⟩ := ihb (lv + 1) s2 r zb (by omega) (by omega) hg2 hqb
           cases zb with
           | er a c =>
             cases hx
             obtain ⟨her, k', m', y', ks', rfl, g3, g4⟩ := hpb
             have hno : s3.e ≠ 0 \/ ¬ nxR T s3 = bs [101, 108, 115, 101] := by
               by_cases h0 : s3.e = 0
               · right; rw [er_nx hw her h0]; decide
               · exact .inl h0
             exact ⟨s3, _, ⟨her, _, _, _, _, rfl, rfl, rfl⟩, fin_if hw hl b3 hlv her.lt g1 g2 g3 g4 hz hzb hno⟩
           | ok b r1 =>
             simp only at hx
             obtain ⟨rfl, hg3⟩ := hpb
             cases hn1 : nx r1 with
             | none =>
               rw [hn1] at hx
               simp only at hx
               obtain ⟨p1, p2⟩ := gd_pend hg3 hn1 12 (α := Ss)
               rw [p2] at hx
               cases hx
               exact ⟨s3, _, ⟨p1, _, _, _, _, rfl, rfl, rfl⟩, fin_if hw hl b3 hlv hg3.lt g1 g2 (by simp) (by simp) hz hzb (.inr (by rw [(gd_none hg3 hn1).2]; decide))⟩
             | some w =>
               rw [hn1] at hx
               simp only at hx
               obtain ⟨_, _, w3⟩ := gd_some hg3 hn1
               by_cases cw : w = bs [101, 108, 115, 101]
               · rw [if_pos cw] at hx
                 subst cw
                 have hgt3 := gd_take hw hg3 hn1 (by decide)
                 cases hqc : blockP 12 2 true false false n (lv + 1) r1.tail with
                 | none => rw [hqc] at hx; cases hx
                 | some zc =>
                   rw [hqc] at hx
                   obtain ⟨s4, d, hpc, hzc⟩ := ihb (lv + 1) _ r1.tail zc (by omega) (by omega) hgt3 hqc
                   cases zc with
                   | er a c =>
                     cases hx
                     obtain ⟨her, k', m', y', ks', rfl, g3, g4⟩ := hpc
                     exact ⟨s4, _, ⟨her, _, _, _, _, rfl, rfl, rfl⟩, fin_else hw hl b3 hlv hg3.lt g1 g2 (by simp) (by simp) g3 g4 hz hzb hg3.e w3 hzc⟩
                   | ok b2 r2 =>
                     cases hx
                     obtain ⟨rfl, hg4⟩ := hpc
                     refine ⟨s4, _, ⟨⟨3, 0, ⟨#[]⟩, false, _, rfl, ?_⟩, hg4⟩, fin_else hw hl b3 hlv hg3.lt g1 g2 (by simp) (by simp) (by simp) (by simp) hz hzb hg3.e w3 hzc⟩
                     simp [Ss.fo, nd]
               · rw [if_neg cw] at hx
                 cases hx
                 refine ⟨s3, _, ⟨⟨3, 0, ⟨#[]⟩, false, _, rfl, ?_⟩, hg3⟩, fin_if hw hl b3 hlv hg3.lt g1 g2 (by simp) (by simp) hz hzb (.inr (by rw [w3]; exact cw))⟩
                 simp [Ss.fo, nd]
   · rw [if_neg c1] at hx
     by_cases c2 : y = bs [119, 104, 105, 108, 101]
     · rw [if_pos c2] at hx
       subst c2
       have hgt := take (by decide)
       cases hq : exprP 12 2 true n 1 lv ts.tail with
       | none => rw [hq] at hx; cases hx
       | some z =>
         rw [hq] at hx
         obtain ⟨s2, k, n', y, ks, hpost, g1, g2, hz⟩ := expr_good hw hlv hgt hq
         cases z with
         | er a c =>
           cases hx
           obtain ⟨s3, d, ⟨k', m', y', ks', rfl, g3, g4⟩, hb1, hb2, hb3⟩ := block_err hw (lv := lv + 1) (by omega) hpost.1
           exact ⟨s3, _, ⟨hb1, _, _, _, _, rfl, rfl, rfl⟩, fin_while hw hl b3 hlv g1 g2 g3 g4 hz hb3⟩
         | ok e r =>
           simp only at hx
           obtain ⟨he, hg2⟩ := hpost
           simp only [E.node, V.dat.injEq, D.agg.injEq, List.cons.injEq, D.lit.injEq, Value.int.injEq, true_and, Value.string.injEq, and_true] at he
           obtain ⟨rfl, rfl, rfl, rfl⟩ := he
           cases hqb : blockP 12 2 true false false n (lv + 1) r with
           | none => rw [hqb] at hx; cases hx
           | some zb =>
             rw [hqb] at hx
             obtain ⟨s3, d, hpb, hzb⟩ := ihb (lv + 1) s2 r zb (by omega) (by omega) hg2 hqb
             cases zb with
             | er a c =>
               cases hx
               obtain ⟨her, k', m', y', ks', rfl, g3, g4⟩ := hpb
               exact ⟨s3, _, ⟨her, _, _, _, _, rfl, rfl, rfl⟩, fin_while hw hl b3 hlv g1 g2 g3 g4 hz hzb⟩
             | ok b r1 =>
               cases hx
               obtain ⟨rfl, hg3⟩ := hpb
               refine ⟨s3, _, ⟨⟨4, 0, ⟨#[]⟩, true, _, rfl, ?_⟩, hg3⟩, fin_while hw hl b3 hlv g1 g2 (by simp) (by simp) hz hzb⟩
               simp [Ss.fo, nd]
     · rw [if_neg c2] at hx
       by_cases c3 : y = bs [101, 102, 102, 101, 99, 116]
       · rw [if_pos c3] at hx
         subst c3
         have hgt := take (by decide)
         cases hq : exprP 12 2 true n 1 lv ts.tail with
         | none => rw [hq] at hx; cases hx
         | some z =>
           rw [hq] at hx
           obtain ⟨s2, k, n', y, ks, hpost, g1, g2, hz⟩ := expr_good hw hlv hgt hq
           cases z with
           | er a c =>
             cases hx
             obtain ⟨q1, q2⟩ := er_expect hw hpost.1 (x := bs [44]) (by decide)
             obtain ⟨s4, k', m', y', ks', q3, g3, g4, hz2⟩ := expr_bad hw hlv q1
             exact ⟨_, _, ⟨closed_er hw q3.1 rfl, _, _, _, _, rfl, rfl, rfl⟩, fin_effect hw hl b3 hpost.1.lt q3.1.lt g1 g2 g3 g4 hz rfl hz2⟩
           | ok e r =>
             simp only at hx
             obtain ⟨he, hg2⟩ := hpost
             simp only [E.node, V.dat.injEq, D.agg.injEq, List.cons.injEq, D.lit.injEq, Value.int.injEq, true_and, Value.string.injEq, and_true] at he
             obtain ⟨rfl, rfl, rfl, rfl⟩ := he
             have gx := gd_expect hw hg2 (x := bs [44]) (by decide) (by decide)
             cases hxp : expectP 12 (bs [44]) r with
             | er a c =>
               rw [hxp] at hx gx
               cases hx
               obtain ⟨s4, k', m', y', ks', q3, g3, g4, hz2⟩ := expr_bad hw hlv gx.1
               exact ⟨_, _, ⟨closed_er hw q3.1 rfl, _, _, _, _, rfl, rfl, rfl⟩, fin_effect hw hl b3 hg2.lt q3.1.lt g1 g2 g3 g4 hz rfl hz2⟩
             | ok u r1 =>
               rw [hxp] at hx gx
               simp only at hx gx
               cases hq2 : exprP 12 2 true n 1 lv r1 with
               | none => rw [hq2] at hx; cases hx
               | some z2 =>
                 rw [hq2] at hx
                 obtain ⟨s4, k', m', y', ks', hpost2, g3, g4, hz2⟩ := expr_good hw hlv gx hq2
                 cases z2 with
                 | er a c =>
                   cases hx
                   exact ⟨_, _, ⟨closed_er hw hpost2.1 rfl, _, _, _, _, rfl, rfl, rfl⟩, fin_effect hw hl b3 hg2.lt hpost2.1.lt g1 g2 g3 g4 hz rfl hz2⟩
                 | ok e2 r2 =>
                   cases hx
                   obtain ⟨he2, hg4⟩ := hpost2
                   simp only [E.node, V.dat.injEq, D.agg.injEq, List.cons.injEq, D.lit.injEq, Value.int.injEq, true_and, Value.string.injEq, and_true] at he2
                   obtain ⟨rfl, rfl, rfl, rfl⟩ := he2
                   have hcp := closed_post hw hg4 (b := .effect true e e2 .nil) (k := 5) (n := 0) (y := ⟨#[]⟩) (f := true) (ks := e.fo (e2.fo .nil)) rfl rfl
                   refine ⟨_, _, hcp, ?_⟩
                   have := fin_effect hw hl b3 hg2.lt hg4.lt g1 g2 g3 g4 hz rfl hz2
                   rw [this]
                   simp [nd]
       · rw [if_neg c3] at hx
         by_cases c4 : y = bs [115, 116, 111, 112]
         · rw [if_pos c4] at hx
           subst c4
           have hgt := take (by decide)
           cases hx
           have hcp := closed_post hw hgt (b := .stop .nil) (k := 6) (n := 0) (y := ⟨#[]⟩) (f := false) (ks := .nil) rfl rfl
           exact ⟨_, _, hcp, fin_stop hw hl b3 hg.e⟩
         · rw [if_neg c4] at hx
           by_cases c5 : y ∈ fieldNames
           · rw [if_pos c5] at hx
             have y0 : y.size ≠ 0 := by
               simp only [fieldNames, List.mem_cons, List.not_mem_nil, or_false] at c5
               rcases c5 with h | h | h | h | h | h | h | h <;> rw [h] <;> decide
             have hgt := take y0
             cases hq : indexP 12 2 true n lv ts.tail with
             | none => rw [hq] at hx; cases hx
             | some z =>
               rw [hq] at hx
               obtain ⟨s2, d, hpost, hz⟩ := (expr_all hw n).2.2.1 lv _ _ z hlv hgt hq
               obtain ⟨hs2, k, n', y1, ks, rfl, g1, g2⟩ := post_lt hpost
               cases z with
               | er a c =>
                 cases hx
                 obtain ⟨q1, q2⟩ := er_expect hw hpost.1 (x := bs [61]) (by decide)
                 obtain ⟨s4, k', m', y', ks', q3, g3, g4, hz2⟩ := expr_bad hw hlv q1
                 exact ⟨_, _, ⟨closed_er hw q3.1 rfl, _, _, _, _, rfl, rfl, rfl⟩, fin_store hw hl b3 c5 hpost.1.lt q3.1.lt g1 g2 g3 g4 hz rfl hz2⟩
               | ok e r =>
                 simp only at hx
                 obtain ⟨he, hg2⟩ := hpost
                 simp only [E.node, V.dat.injEq, D.agg.injEq, List.cons.injEq, D.lit.injEq, Value.int.injEq, true_and, Value.string.injEq, and_true] at he
                 obtain ⟨rfl, rfl, rfl, rfl⟩ := he
                 have gx := gd_expect hw hg2 (x := bs [61]) (by decide) (by decide)
                 cases hxp : expectP 12 (bs [61]) r with
                 | er a c =>
                   rw [hxp] at hx gx
                   cases hx
                   obtain ⟨s4, k', m', y', ks', q3, g3, g4, hz2⟩ := expr_bad hw hlv gx.1
                   exact ⟨_, _, ⟨closed_er hw q3.1 rfl, _, _, _, _, rfl, rfl, rfl⟩, fin_store hw hl b3 c5 hg2.lt q3.1.lt g1 g2 g3 g4 hz rfl hz2⟩
                 | ok u r1 =>
                   rw [hxp] at hx gx
                   simp only at hx gx
                   cases hq2 : exprP 12 2 true n 1 lv r1 with
                   | none => rw [hq2] at hx; cases hx
                   | some z2 =>
                     rw [hq2] at hx
                     obtain ⟨s4, k', m', y', ks', hpost2, g3, g4, hz2⟩ := expr_good hw hlv gx hq2
                     cases z2 with
                     | er a c =>
                       cases hx
                       exact ⟨_, _, ⟨closed_er hw hpost2.1 rfl, _, _, _, _, rfl, rfl, rfl⟩, fin_store hw hl b3 c5 hg2.lt hpost2.1.lt g1 g2 g3 g4 hz rfl hz2⟩
                     | ok e2 r2 =>
                       cases hx
                       obtain ⟨he2, hg4⟩ := hpost2
                       simp only [E.node, V.dat.injEq, D.agg.injEq, List.cons.injEq, D.lit.injEq, Value.int.injEq, true_and, Value.string.injEq, and_true] at he2
                       obtain ⟨rfl, rfl, rfl, rfl⟩ := he2
                       have hcp := closed_post hw hg4 (b := .store true y e e2 .nil) (k := 2) (n := 0) (y := y) (f := true) (ks := e.fo (e2.fo .nil)) rfl rfl
                       refine ⟨_, _, hcp, ?_⟩
                       have := fin_store hw hl b3 c5 hg2.lt hg4.lt g1 g2 g3 g4 hz rfl hz2
                       rw [this]
                       simp [nd]
           · rw [if_neg c5] at hx
             by_cases c6 : startsB isLet y = true /\ y ∉ wordNames
             · rw [if_pos c6] at hx
               have hgt := take (name_sz c6.1)
               have gx := gd_expect hw hgt (x := bs [61]) (by decide) (by decide)
               cases hxp : expectP 12 (bs [61]) ts.tail with
               | er a c =>
                 rw [hxp] at hx gx
                 cases hx
                 obtain ⟨s4, k', m', y', ks', q3, g3, g4, hz2⟩ := expr_bad hw hlv gx.1
                 exact ⟨_, _, ⟨closed_er hw q3.1 rfl, _, _, _, _, rfl, rfl, rfl⟩, fin_assign hw hl b3 c6 c5 q3.1.lt g3 g4 rfl hz2⟩
               | ok u r1 =>
                 rw [hxp] at hx gx
                 simp only at hx gx
                 cases hq2 : exprP 12 2 true n 1 lv r1 with
                 | none => rw [hq2] at hx; cases hx
                 | some z2 =>
                   rw [hq2] at hx
                   obtain ⟨s4, k', m', y', ks', hpost2, g3, g4, hz2⟩ := expr_good hw hlv gx hq2
                   cases z2 with
                   | er a c =>
                     cases hx
                     exact ⟨_, _, ⟨closed_er hw hpost2.1 rfl, _, _, _, _, rfl, rfl, rfl⟩, fin_assign hw hl b3 c6 c5 hpost2.1.lt g3 g4 rfl hz2⟩
                   | ok e2 r2 =>
                     cases hx
                     obtain ⟨he2, hg4⟩ := hpost2
                     simp only [E.node, V.dat.injEq, D.agg.injEq, List.cons.injEq, D.lit.injEq, Value.int.injEq, true_and, Value.string.injEq, and_true] at he2
                     obtain ⟨rfl, rfl, rfl, rfl⟩ := he2
                     have hcp := closed_post hw hg4 (b := .assign true y e2 .nil) (k := 1) (n := 0) (y := y) (f := true) (ks := e2.fo .nil) rfl rfl
                     refine ⟨_, _, hcp, ?_⟩
                     have := fin_assign hw hl b3 c6 c5 hg4.lt g3 g4 rfl hz2
                     rw [this]
                     simp [nd]
             · rw [if_neg c6] at hx
               cases hx
               have hf := fail_er hg (c := 12) (by decide)
               rw [gd_fail hg 12]
               exact ⟨_, zeroN, ⟨hf, ndD_zero⟩, fin_none hw hl b3 c1 c2 c4 c3 c5 c6⟩
end
end Go.Pm
end SJn
section SJo
namespace Go.Pm
open F
set_option maxHeartbeats 4000000
def RowK (v : V) (σt : S) (cs : List D) (n : Nat) : Prop := (n = 0 /\ cs = [] /\ v = .dat (.lit (.slice none 0 0)) /\ σt = []) \/ (n ≠ 0 /\ cs.length = n * 4 /\ v = .gsl cs n 4 3 /\ σt = [.tip cs.length])
abbrev bkF (lv : Nat) (ex : Fr) : Fr := (0, .ptr 0 0) :: (1, .int lv) :: (4, .ptr 1 0) :: (5, .ptr 2 0) :: ex
abbrev bkS (T : List Tk) (s : Ps) (v : V) (σt : S) : S := PO T s :: zob :: .cells [.int 7, .int 0, .str ⟨#[]⟩, v] :: σt
section
variable {T : List Tk} {s : Ps} {lv : Nat}
theorem blk_end (h : s.i < T.length) (hend : s.e ≠ 0 \/ nxR T s = bs [125]) {v : V} {σt : S} {cs : List D} {n : Nat} (hr : RowK v σt cs n) :
   Z tR (.loop 1 F155l0 (bkF lv []) (bkS T s v σt)) = some (.out (.exit 0) (bkF lv [(19, .bool false)]) (bkS T s v σt)) := by
 have zn := next_Z h
 rw [Z_loop_eq]
 by_cases he0 : s.e = 0
 · have he : decide (s.e = 0) = true := decide_eq_true he0
   have hn := hend.resolve_left (fun h => h he0)
   rw [hn] at zn
   simp only [bs] at zn
   rcases hr with ⟨rfl, rfl, rfl, rfl⟩ | ⟨h0, h1, rfl, rfl⟩ <;> simp [loopStep, run_F155l0, he, zn, eqS_iff, List.range_succ]
 · have he : decide (s.e = 0) = false := decide_eq_false he0
   rcases hr with ⟨rfl, rfl, rfl, rfl⟩ | ⟨h0, h1, rfl, rfl⟩ <;> simp [loopStep, run_F155l0, he, List.range_succ]
theorem blk_round (h : s.i < T.length) (he0 : s.e = 0) (hne : ¬ nxR T s = bs [125]) {v : V} {σt : S} {cs : List D} {n : Nat} (hr : RowK v σt cs n) (hn : n <= 2 ^ 40 + 5) {s2 : Ps} {k n' : Int} {y : ByteArray} {ks : D} (g1 : V.one (.dat ks) = true) (g2 : V.cells (.dat ks) = [.dat ks])
   (hz : Z tR (.call 173 [.ptr 0 0, .int lv] [PO T s]) = some (.ret (ag k n' y ks) [PO T s2])) :
   ∃ v' σt', RowK v' σt' (cs ++ [.lit (.int .i64 k), .lit (.int .i64 n'), .lit (.string y), ks]) (n + 1) /\ Z tR (.loop 1 F155l0 (bkF lv []) (bkS T s v σt)) = Z tR (.loop 1 F155l0 (bkF lv []) (bkS T s2 v' σt')) := by
 have zn := next_Z h
 have he : decide (s.e = 0) = true := decide_eq_true he0
 have hroom : roomFor (n + 1) 56 = true := by simp only [roomFor, decide_eq_true_eq]; omega
 refine ⟨.gsl (cs ++ [.lit (.int .i64 k), .lit (.int .i64 n'), .lit (.string y), ks]) (n + 1) 4 3, [.tip (cs ++ [.lit (.int .i64 k), .lit (.int .i64 n'), .lit (.string y), ks]).length], .inr ⟨by omega, ?_, rfl, rfl⟩, ?_⟩
 · rcases hr with ⟨rfl, rfl, _, _⟩ | ⟨_, h1, _, _⟩
   · simp
   · simp [h1]; omega
 · conv => lhs; rw [Z_loop_eq]
   simp only [bs] at hne
   rcases hr with ⟨rfl, rfl, rfl, rfl⟩ | ⟨h0, h1, rfl, rfl⟩
   · have hr1 : roomFor 1 56 = true := by decide
     simp [loopStep, run_F155l0, he, zn, hne, hz, g1, g2, hr1, appendV, srcV, eqS_iff, calm, alone, List.range_succ]
   · simp [loopStep, run_F155l0, he, zn, hne, hz, g1, g2, hroom, h1, appendV, srcV, eqS_iff, calm, alone, List.range_succ]
theorem blk_er (hw : WfT T) {a c : Nat} (her : Er T s a c) {v : V} {σt : S} {cs : List D} {n : Nat} (hr : RowK v σt cs n) (hn : n <= 2 ^ 40 + 4) :
   ∃ sL vL σL cs' m', RowK vL σL cs' m' /\ (Er T sL a c /\ sL.e ≠ 0) /\ Z tR (.loop 1 F155l0 (bkF lv []) (bkS T s v σt)) = some (.out (.exit 0) (bkF lv [(19, .bool false)]) (bkS T sL vL σL)) := by
 by_cases he : s.e = 0
 · have hq := er_nx hw her he
   have hz := fin_none (lv := lv) hw her.lt hq (by decide) (by decide) (by decide) (by decide) (by decide) (by decide)
   obtain ⟨f1, f2⟩ := er_fail (k := 12) her
   obtain ⟨v', σt', r1, r2⟩ := blk_round her.lt he (by rw [hq]; decide) hr (by omega) rfl rfl hz
   exact ⟨_, v', σt', _, _, r1, ⟨f1, f2⟩, r2.trans (blk_end f1.lt (.inl f2) r1)⟩
 · exact ⟨s, v, σt, cs, n, hr, ⟨her, he⟩, blk_end her.lt (.inl he) hr⟩
def StmtsC (T : List Tk) (n : Nat) : Prop := ∀ lv s ts a x v σt, 1 <= lv -> lv <= 20 -> Gd T s ts -> a.fo.len + ts.length <= 2 ^ 40 -> RowK v σt a.fo.cells a.fo.len -> stmtsP 12 2 true false false n lv a ts = some x ->
 ∃ sL vL σL cs m, RowK vL σL cs m /\ Z tR (.loop 1 F155l0 (bkF lv []) (bkS T s v σt)) = some (.out (.exit 0) (bkF lv [(19, .bool false)]) (bkS T sL vL σL)) /\
   (match x with
     | .ok b r => cs = b.fo.cells /\ m = b.fo.len /\ ∃ tsL, Gd T sL tsL /\ nx tsL = some (bs [125]) /\ tsL.tail = r
     | .er p c => Er T sL p c)
theorem stmt_len {n lv : Nat} {ts r : List Tk} {b : Ss} (h : stmtP 12 2 true false false n lv ts = some (.ok b r)) : r.length <= ts.length - 1 := by
 have h1 := stmtP_mono h (Nat.le_max_left n (10 * ts.length + 1))
 obtain ⟨y, h2, h3⟩ := (stmtP_fin 12 2 true false false (max n (10 * ts.length + 1))).1 lv ts (Nat.le_max_right _ _)
 rw [h1] at h2
 cases h2
 exact h3 b r rfl
theorem stmts_step (hw : WfT T) {n : Nat} (ihs : StmtC T n) (ihl : StmtsC T n) : StmtsC T (n + 1) := by
 intro lv s ts a x v σt h1 hlv hg hlen hr hx
 rw [stmtsP] at hx
 cases hn : nx ts with
 | none =>
   obtain ⟨g1, g2⟩ := gd_pend hg hn 12 (α := Ss)
   rw [hn] at hx
   simp only at hx
   rw [g2] at hx
   cases hx
   obtain ⟨sL, vL, σL, cs, m, q1, q2, q3⟩ := blk_er (lv := lv) hw g1 hr (by omega)
   exact ⟨sL, vL, σL, cs, m, q1, q3, q2.1⟩
 | some y =>
   obtain ⟨b1, b2, b3⟩ := gd_some hg hn
   rw [hn] at hx
   simp only at hx
   by_cases c1 : y = bs [125]
   · rw [if_pos c1] at hx
     cases hx
     exact ⟨s, v, σt, _, _, hr, blk_end hg.lt (.inr (b3.trans c1)) hr, rfl, rfl, ts, hg, by rw [hn, c1], rfl⟩
   · rw [if_neg c1] at hx
     have hne : ¬ nxR T s = bs [125] := by rw [b3]; exact c1
     cases hq : stmtP 12 2 true false false n lv ts with
     | none => rw [hq] at hx; cases hx
     | some z =>
       rw [hq] at hx
       obtain ⟨s2, d, hpost, hz⟩ := ihs lv s ts z h1 hlv hg hq
       cases z with
       | er p c =>
         cases hx
         obtain ⟨her, k, n', y', ks, rfl, g1, g2⟩ := hpost
         obtain ⟨v', σt', r1, r2⟩ := blk_round hg.lt hg.e hne hr (by omega) g1 g2 hz
         obtain ⟨sL, vL, σL, cs, m, q1, q2, q3⟩ := blk_er (lv := lv) hw her r1 (by omega)
         exact ⟨sL, vL, σL, cs, m, q1, r2.trans q3, q2.1⟩
       | ok b r =>
         obtain ⟨⟨k, n', y', f, ks, hb, rfl⟩, hg2⟩ := hpost
         have hrl := stmt_len hq
         have hpos := nx_pos hn
         obtain ⟨v', σt', r1, r2⟩ := blk_round hg.lt hg.e hne hr (by omega) (ks := kd f ks.len ks.cells) (by simp) (by simp) hz
         have hfo : (a.app b).fo.cells = a.fo.cells ++ [.lit (.int .i64 k), .lit (.int .i64 n'), .lit (.string y'), kd f ks.len ks.cells] := by rw [ss_app, fo_cells_app, hb]; rfl
         have hfl : (a.app b).fo.len = a.fo.len + 1 := by rw [ss_app, fo_len_app, hb]; rfl
         rw [<- hfo, <- hfl] at r1
         obtain ⟨sL, vL, σL, cs, m, q1, q2, q3⟩ := ihl lv s2 r (a.app b) x v' σt' h1 hlv hg2 (by omega) r1 hx
         exact ⟨sL, vL, σL, cs, m, q1, r2.trans q2, q3⟩
theorem fin_block (hw : WfT T) (hl : s.i < T.length) {sL : Ps} (hL : sL.i < T.length) {vL : V} {σL : S} {cs : List D} {m : Nat} (hr : RowK vL σL cs m)
   (zl : Z tR (.loop 1 F155l0 (bkF lv []) (bkS T (openS T (bs [123]) lv s) (.dat (.lit (.slice none 0 0))) [])) = some (.out (.exit 0) (bkF lv [(19, .bool false)]) (bkS T sL vL σL))) :
   Z tR (.call 155 [.ptr 0 0, .int lv] [PO T s]) = some (.ret (ag 7 0 ⟨#[]⟩ (kd false m cs)) [PO T (expectS T (bs [125]) sL)]) := by
 have zo := open_Z hl hw.len (bs [123]) lv
 have ze := expect_Z hL hw.len (bs [125])
 generalize openS T (bs [123]) lv s = s1 at zo zl
 generalize expectS T (bs [125]) sL = s2 at ze ⊢
 refine Z_call (pf := F155) rfl rfl ?_
 simp only [bs] at zo ze
 rcases hr with ⟨rfl, rfl, rfl, rfl⟩ | ⟨h0, h1, rfl, rfl⟩
 · simp [F155, zo, ze, zl, List.range_succ]
 · obtain ⟨m, rfl⟩ : ∃ q, m = q + 1 := ⟨m - 1, by omega⟩
   simp [F155, zo, ze, zl, List.range_succ]
theorem block_step (hw : WfT T) (hT : T.length <= 2 ^ 40) {n : Nat} (ihl : StmtsC T n) : BlockC T (n + 1) := by
 intro lv s ts x h1 hlv hg hx
 rw [blockP] at hx
 have go := gd_open hw hg (x := bs [123]) (by decide) (by decide) lv
 cases ho : openP 12 2 (bs [123]) lv ts with
 | er p c =>
   rw [ho] at hx go
   cases hx
   obtain ⟨g1, g2⟩ := go
   have hr0 : RowK (.dat (.lit (.slice none 0 0))) [] [] 0 := .inl ⟨rfl, rfl, rfl, rfl⟩
   have zl := blk_end (lv := lv) g1.lt (.inl g2) hr0
   exact ⟨_, _, ⟨(er_expect hw g1 (by decide)).1, _, _, _, _, rfl, by simp, by simp⟩, fin_block hw hg.lt g1.lt hr0 zl⟩
 | ok u r =>
   rw [ho] at hx go
   simp only at hx go
   have hlv' := openP_lv ho
   have hrl : r.length <= T.length := by
     have e := go.ts
     have key : ∀ l : List Tk, (cutT l).length <= l.length := fun l => by
       induction l with
       | nil => simp [cutT]
       | cons t l ih =>
         rw [cutT]
         split
         · simp
         · simp only [List.length_cons]; omega
     rw [<- e]
     exact Nat.le_trans (key _) (by rw [List.length_drop]; omega)
   obtain ⟨sL, vL, σL, cs, m, q1, q2, q3⟩ := ihl lv _ r .nil x (.dat (.lit (.slice none 0 0))) [] h1 hlv' go (by simp [Ss.fo]; omega) (.inl ⟨rfl, rfl, rfl, rfl⟩) hx
   cases x with
   | er p c => exact ⟨_, _, ⟨(er_expect hw q3 (by decide)).1, _, _, _, _, rfl, by simp, by simp⟩, fin_block hw hg.lt q3.lt q1 q2⟩
   | ok b r2 =>
     obtain ⟨rfl, rfl, tsL, q4, q5, q6⟩ := q3
     have gx := gd_expect hw q4 (x := bs [125]) (by decide) (by decide)
     have hxp : expectP 12 (bs [125]) tsL = .ok () tsL.tail := by
       obtain ⟨rr, e1, _⟩ := gd_cons q4
       obtain ⟨w1, w2, _⟩ := gd_some q4 q5
       rw [e1]; simp [expectP, w1, w2]
     rw [hxp] at gx
     rw [<- q6]
     exact ⟨_, _, ⟨rfl, gx⟩, fin_block hw hg.lt q4.lt q1 q2⟩
theorem stmt_all (hw : WfT T) : ∀ n, StmtC T n /\ BlockC T n /\ StmtsC T n
 | 0 => ⟨fun lv s ts x _ _ _ hx => by simp [stmtP] at hx, fun lv s ts x _ _ _ hx => by simp [blockP] at hx, fun lv s ts a x v σt _ _ _ _ _ hx => by simp [stmtsP] at hx⟩
 | n + 1 => by
   obtain ⟨ihs, ihb, ihl⟩ := stmt_all hw n
   exact ⟨stmt_step hw ihb, block_step hw (Nat.le_of_lt hw.len) ihl, stmts_step hw ihs ihl⟩
end
end Go.Pm
end SJo
section SJp
namespace Go.Pm
open F
set_option maxHeartbeats 4000000
structure N4 where
 k : Int
 n : Int
 s : ByteArray
 d : D
 one : V.one (.dat d) = true
 cl : V.cells (.dat d) = [.dat d]
abbrev rob (r : Nat -> N4) : Ob := .cells [.int (r 0).k, .int (r 0).n, .str (r 0).s, .dat (r 0).d, .int (r 1).k, .int (r 1).n, .str (r 1).s, .dat (r 1).d, .int (r 2).k, .int (r 2).n, .str (r 2).s, .dat (r 2).d]
def updR (r : Nat -> N4) (k : Nat) (v : N4) : Nat -> N4 := fun i => if i = k then v else r i
abbrev res0 : Ob := .cells [.int 0, .int 0, .str ⟨#[]⟩, .dat (.lit (.slice none 0 0)), .int 0, .int 0, .str ⟨#[]⟩, .dat (.lit (.slice none 0 0)), .int 0, .int 0, .str ⟨#[]⟩, .dat (.lit (.slice none 0 0))]
abbrev prF (ex : Fr) : Fr := (2, .ptr 0 0) :: (5, .ptr 1 0) :: (6, .ptr 2 0) :: ex
abbrev prS (T : List Tk) (s : Ps) (r : Nat -> N4) : S := [res0, PO T s, rob r]
def whI (x : ByteArray) : Int := match handlerP x with
 | some k => k
 | none => -1
def tickS' : ByteArray := ⟨#[116, 105, 99, 107]⟩
def actS' : ByteArray := ⟨#[97, 99, 116]⟩
section
variable {T : List Tk} {s : Ps} {r : Nat -> N4}
theorem handlers_Z : Z tR (.call 152 [] []) = some (.ret (.dat (.sl [.lit (.string ⟨#[97, 99, 116]⟩), .lit (.string ⟨#[116, 105, 99, 107]⟩), .lit (.string ⟨#[104, 105, 116]⟩)] 3 true)) []) := by
 refine Z_call (pf := F152) rfl rfl ?_
 simp [F152, List.range_succ]
theorem which_Z (h : s.i < T.length) : Z tR (.loop 0 F132l1 (prF [(7, .int (-1)), (8, .int 0)]) (prS T s r)) = some (.out (.exit 2) (prF [(7, .int (whI (nxR T s))), (8, .int 3), (44, .bool false)]) (prS T s r)) := by
 have zn := next_Z h
 have zh := handlers_Z
 generalize nxR T s = x at zn ⊢
 have r3 : ∀ w : Int, Z tR (.loop 0 F132l1 (prF [(7, .int w), (8, .int 3)]) (prS T s r)) = some (.out (.exit 2) (prF [(7, .int w), (8, .int 3), (44, .bool false)]) (prS T s r)) := fun w => by
   rw [Z_loop_eq]
   simp [loopStep, run_F132l1, List.range_succ]
 have r2 : ∀ w : Int, Z tR (.loop 0 F132l1 (prF [(7, .int w), (8, .int 2)]) (prS T s r)) = some (.out (.exit 2) (prF [(7, .int (if x = hitS then 2 else w)), (8, .int 3), (44, .bool false)]) (prS T s r)) := fun w => by
   rw [Z_loop_eq]
   have w3 := wrap64 3 (by omega)
   by_cases hx : x = hitS
   · have hx' : x = ⟨#[104, 105, 116]⟩ := hx
     have q := r3 2
     subst hx'
     simp [loopStep, run_F132l1, zn, zh, w3, q, sliceAddr, eqS_iff, bs, tickS', hitS, List.range_succ]
   · have hx' : ¬ x = ⟨#[104, 105, 116]⟩ := hx
     have q := r3 w
     simp [loopStep, run_F132l1, zn, zh, hx, hx', w3, q, sliceAddr, eqS_iff, bs, tickS', hitS, List.range_succ]
     try rfl
 have r1 : ∀ w : Int, Z tR (.loop 0 F132l1 (prF [(7, .int w), (8, .int 1)]) (prS T s r)) = some (.out (.exit 2) (prF [(7, .int (if x = hitS then 2 else if x = tickS' then 1 else w)), (8, .int 3), (44, .bool false)]) (prS T s r)) := fun w => by
   rw [Z_loop_eq]
   have w3 := wrap64 2 (by omega)
   by_cases hx : x = tickS'
   · have hx' : x = ⟨#[116, 105, 99, 107]⟩ := hx
     have q := r2 1
     subst hx'
     simp [loopStep, run_F132l1, zn, zh, w3, q, sliceAddr, eqS_iff, bs, tickS', hitS, List.range_succ]
   · have hx' : ¬ x = ⟨#[116, 105, 99, 107]⟩ := hx
     have q := r2 w
     simp [loopStep, run_F132l1, zn, zh, hx, hx', w3, q, sliceAddr, eqS_iff, bs, tickS', hitS, List.range_succ]
     try rfl
 have r0 : ∀ w : Int, Z tR (.loop 0 F132l1 (prF [(7, .int w), (8, .int 0)]) (prS T s r)) = some (.out (.exit 2) (prF [(7, .int (if x = hitS then 2 else if x = tickS' then 1 else if x = actS' then 0 else w)), (8, .int 3), (44, .bool false)]) (prS T s r)) := fun w => by
   rw [Z_loop_eq]
   have w3 := wrap64 1 (by omega)
   by_cases hx : x = actS'
   · have hx' : x = ⟨#[97, 99, 116]⟩ := hx
     have q := r1 0
     subst hx'
     simp [loopStep, run_F132l1, zn, zh, w3, q, sliceAddr, eqS_iff, bs, tickS', actS', hitS, List.range_succ]
   · have hx' : ¬ x = ⟨#[97, 99, 116]⟩ := hx
     have q := r1 w
     simp [loopStep, run_F132l1, zn, zh, hx, hx', w3, q, sliceAddr, eqS_iff, bs, tickS', actS', hitS, List.range_succ]
     try rfl
 rw [r0 (-1)]
 congr 4
 unfold whI handlerP
 by_cases h1 : x = actS'
 · subst h1; rfl
 · by_cases h2 : x = tickS'
   · subst h2; rfl
   · by_cases h3 : x = hitS
     · subst h3; rfl
     · have h1' : ¬ x = bs [97, 99, 116] := h1
       have h2' : ¬ x = bs [116, 105, 99, 107] := h2
       simp [h1, h2, h3, h1', h2']
theorem pr_end (h : s.i < T.length) (hend : s.e ≠ 0 \/ (tkAt T s.i).s = ⟨#[]⟩) : Z tR (.loop 0 F132l0 (prF []) (prS T s r)) = some (.out (.exit 0) (prF [(35, .bool false)]) (prS T s r)) := by
 have h1 := tk_at T h
 have h2 := tk_cut1 h
 rw [Z_loop_eq]
 by_cases he0 : s.e = 0
 · have he : decide (s.e = 0) = true := decide_eq_true he0
   have hn := hend.resolve_left (fun h => h he0)
   simp [loopStep, run_F132l0, he, h1, h2, hn, (r 0).one, (r 0).cl, (r 1).one, (r 1).cl, (r 2).one, (r 2).cl, eqS_iff, calm, alone, List.range_succ]
 · have he : decide (s.e = 0) = false := decide_eq_false he0
   simp [loopStep, run_F132l0, he, (r 0).one, (r 0).cl, (r 1).one, (r 1).cl, (r 2).one, (r 2).cl, calm, alone, List.range_succ]
theorem pr_on (hw : WfT T) (h : s.i < T.length) (he0 : s.e = 0) (hne : ¬ (tkAt T s.i).s = ⟨#[]⟩) (h1e : (expectS T (bs [111, 110]) s).e ≠ 0) :
   Z tR (.loop 0 F132l0 (prF []) (prS T s r)) = some (.out (.exit 0) (prF [(42, .bool true)]) (prS T (expectS T (bs [111, 110]) s) r)) := by
 have h1 := tk_at T h
 have h2 := tk_cut1 h
 have zx := expect_Z h hw.len (bs [111, 110])
 generalize expectS T (bs [111, 110]) s = s1 at zx h1e ⊢
 have he : decide (s.e = 0) = true := decide_eq_true he0
 have he1 : decide (s1.e = 0) = false := decide_eq_false h1e
 simp only [bs] at zx
 rw [Z_loop_eq]
 simp [loopStep, run_F132l0, he, he1, h1, h2, hne, zx, (r 0).one, (r 0).cl, (r 1).one, (r 1).cl, (r 2).one, (r 2).cl, eqS_iff, calm, alone, List.range_succ]
theorem pr_none (hw : WfT T) (h : s.i < T.length) (he0 : s.e = 0) (hne : ¬ (tkAt T s.i).s = ⟨#[]⟩) {s1 : Ps} (hs1 : s1 = expectS T (bs [111, 110]) s) (hl1 : s1.i < T.length) (h1e : s1.e = 0) (hno : handlerP (nxR T s1) = none) :
   Z tR (.loop 0 F132l0 (prF []) (prS T s r)) = some (.out (.exit 0) (prF []) (prS T (failS T 12 s1) r)) := by
 have h1 := tk_at T h
 have h2 := tk_cut1 h
 have zx := expect_Z h hw.len (bs [111, 110])
 rw [<- hs1] at zx
 have zw := which_Z (s := s1) (r := r) hl1
 rw [show whI (nxR T s1) = -1 by rw [whI, hno]] at zw
 have zf := fail_Z hl1 12
 have he : decide (s.e = 0) = true := decide_eq_true he0
 have he1 : decide (s1.e = 0) = true := decide_eq_true h1e
 simp only [bs] at zx
 simp only [Int.cast_ofNat_Int] at zf
 generalize failS T 12 s1 = s2 at zf ⊢
 rw [Z_loop_eq]
 simp [loopStep, run_F132l0, he, he1, h1, h2, hne, zx, zw, zf, (r 0).one, (r 0).cl, (r 1).one, (r 1).cl, (r 2).one, (r 2).cl, eqS_iff, calm, alone, List.range_succ]
theorem handlerP_lt {x : ByteArray} {k : Nat} (h : handlerP x = some k) : k < 3 := by
 unfold handlerP at h
 split at h
 · cases h; omega
 split at h
 · cases h; omega
 split at h
 · cases h; omega
 · cases h
theorem pr_dup (hw : WfT T) (h : s.i < T.length) (he0 : s.e = 0) (hne : ¬ (tkAt T s.i).s = ⟨#[]⟩) {s1 : Ps} (hs1 : s1 = expectS T (bs [111, 110]) s) (hl1 : s1.i < T.length) (h1e : s1.e = 0) {k : Nat} (hk : handlerP (nxR T s1) = some k) (hr : (r k).k ≠ 0) :
   Z tR (.loop 0 F132l0 (prF []) (prS T s r)) = some (.out (.exit 0) (prF []) (prS T (failS T 4 s1) r)) := by
 have h1 := tk_at T h
 have h2 := tk_cut1 h
 have zx := expect_Z h hw.len (bs [111, 110])
 rw [<- hs1] at zx
 have zw := which_Z (s := s1) (r := r) hl1
 rw [show whI (nxR T s1) = k by rw [whI, hk]] at zw
 have zf := fail_Z hl1 4
 have he : decide (s.e = 0) = true := decide_eq_true he0
 have he1 : decide (s1.e = 0) = true := decide_eq_true h1e
 simp only [bs] at zx
 simp only [Int.cast_ofNat_Int] at zf
 generalize failS T 4 s1 = s2 at zf ⊢
 have hk3 := handlerP_lt hk
 rw [Z_loop_eq]
 rcases k with _ | _ | _ | k
 · simp [loopStep, run_F132l0, he, he1, h1, h2, hne, zx, zw, zf, hr, (r 0).one, (r 0).cl, (r 1).one, (r 1).cl, (r 2).one, (r 2).cl, eqS_iff, calm, alone, List.range_succ]
 · simp only [Nat.zero_add, Int.natCast_add, Int.cast_ofNat_Int, Int.natCast_zero, Int.zero_add] at zw hr
   simp [loopStep, run_F132l0, he, he1, h1, h2, hne, zx, zw, zf, hr, (r 0).one, (r 0).cl, (r 1).one, (r 1).cl, (r 2).one, (r 2).cl, eqS_iff, calm, alone, List.range_succ]
 · simp only [Nat.zero_add, Nat.reduceAdd, Int.cast_ofNat_Int] at zw hr
   simp [loopStep, run_F132l0, he, he1, h1, h2, hne, zx, zw, zf, hr, (r 0).one, (r 0).cl, (r 1).one, (r 1).cl, (r 2).one, (r 2).cl, eqS_iff, calm, alone, List.range_succ]
 · omega
theorem pr_block (hw : WfT T) (h : s.i < T.length) (he0 : s.e = 0) (hne : ¬ (tkAt T s.i).s = ⟨#[]⟩) {s1 s3 : Ps} (hs1 : s1 = expectS T (bs [111, 110]) s) (hl1 : s1.i < T.length) (h1e : s1.e = 0) {k : Nat} (hk : handlerP (nxR T s1) = some k) (hr : (r k).k = 0)
   (v : N4) (hz : Z tR (.call 155 [.ptr 0 0, .int 1] [PO T (takeS T s1)]) = some (.ret (ag v.k v.n v.s v.d) [PO T s3])) :
   Z tR (.loop 0 F132l0 (prF []) (prS T s r)) = Z tR (.loop 0 F132l0 (prF []) (prS T s3 (updR r k v))) := by
 have h1 := tk_at T h
 have h2 := tk_cut1 h
 have zx := expect_Z h hw.len (bs [111, 110])
 rw [<- hs1] at zx
 have zw := which_Z (s := s1) (r := r) hl1
 rw [show whI (nxR T s1) = k by rw [whI, hk]] at zw
 have zt := take_Z hl1 hw.len
 generalize takeS T s1 = s2 at zt hz
 have he : decide (s.e = 0) = true := decide_eq_true he0
 have he1 : decide (s1.e = 0) = true := decide_eq_true h1e
 simp only [bs] at zx
 have hk3 := handlerP_lt hk
 conv => lhs; rw [Z_loop_eq]
 rcases k with _ | _ | _ | k
 · have hr' : decide ((r 0).k = 0) = true := decide_eq_true hr
   simp [loopStep, run_F132l0, updR, he, he1, h1, h2, hne, zx, zw, zt, hz, hr', v.one, v.cl, (r 0).one, (r 0).cl, (r 1).one, (r 1).cl, (r 2).one, (r 2).cl, eqS_iff, calm, alone, List.range_succ]
   rfl
 · simp only [Nat.zero_add, Int.natCast_add, Int.cast_ofNat_Int, Int.natCast_zero, Int.zero_add] at zw hr
   have hr' : decide ((r 1).k = 0) = true := decide_eq_true hr
   simp [loopStep, run_F132l0, updR, he, he1, h1, h2, hne, zx, zw, zt, hz, hr', v.one, v.cl, (r 0).one, (r 0).cl, (r 1).one, (r 1).cl, (r 2).one, (r 2).cl, eqS_iff, calm, alone, List.range_succ]
   rfl
 · simp only [Nat.zero_add, Nat.reduceAdd, Int.cast_ofNat_Int] at zw hr
   have hr' : decide ((r 2).k = 0) = true := decide_eq_true hr
   simp [loopStep, run_F132l0, updR, he, he1, h1, h2, hne, zx, zw, zt, hz, hr', v.one, v.cl, (r 0).one, (r 0).cl, (r 1).one, (r 1).cl, (r 2).one, (r 2).cl, eqS_iff, calm, alone, List.range_succ]
   rfl
 · omega
theorem pr_er (hw : WfT T) {a c : Nat} (her : Er T s a c) : ∃ s' ex, (s'.e = c /\ s'.a = a /\ s'.i < T.length) /\ Z tR (.loop 0 F132l0 (prF []) (prS T s r)) = some (.out (.exit 0) (prF ex) (prS T s' r)) := by
 by_cases he : s.e = 0
 · have hne : ¬ (tkAt T s.i).s = ⟨#[]⟩ := fun h0 => by
     rcases her.or with ⟨h1, _⟩ | ⟨_, h2, _⟩
     · rw [he] at h1; exact her.c0 h1.symm
     · rcases Nat.lt_or_ge (s.i + 1) T.length with hl | hl
       · exact hw.pos _ hl (by rw [h0]; rfl)
       · have := (hw.last s.i (by have := her.lt; omega)).2
         rw [this] at h2
         exact her.c0 h2.symm
   obtain ⟨h1, h2⟩ := er_expect hw her (x := bs [111, 110]) (by decide)
   refine ⟨_, _, ?_, pr_on hw her.lt he hne h2⟩
   rcases h1.or with ⟨q1, q2⟩ | ⟨q1, _⟩
   · exact ⟨q1, q2, h1.lt⟩
   · exact absurd q1 h2
 · refine ⟨s, _, ?_, pr_end her.lt (.inl he)⟩
   rcases her.or with ⟨q1, q2⟩ | ⟨q1, _⟩
   · exact ⟨q1, q2, her.lt⟩
   · exact absurd q1 he
def n4Of : Option Ss -> N4
 | none => ⟨0, 0, ⟨#[]⟩, .lit (.slice none 0 0), rfl, rfl⟩
 | some b => ⟨7, 0, ⟨#[]⟩, kd false b.fo.len b.fo.cells, by simp, by simp⟩
theorem prog_all (hw : WfT T) : ∀ (n : Nat) (h : Nat -> Option Ss) (s : Ps) (ts : List Tk) (x : Rz (Nat -> Option Ss)), Gd T s ts -> progP 12 2 4 true false false n h ts = some x ->
   ∃ s' ex r', s'.i < T.length /\ Z tR (.loop 0 F132l0 (prF []) (prS T s (fun k => n4Of (h k)))) = some (.out (.exit 0) (prF ex) (prS T s' r')) /\
     (match x with
       | .ok h' _ => s'.e = 0 /\ r' = fun k => n4Of (h' k)
       | .er a c => s'.e = c /\ s'.a = a /\ c ≠ 0)
 | 0, h, s, ts, x, _, hx => by simp [progP] at hx
 | n + 1, h, s, ts, x, hg, hx => by
   rw [progP] at hx
   have er : ∀ {s1 : Ps} {a c : Nat} {α : Type} (r : Nat -> N4), Er T s1 a c -> ∃ s' ex r', s'.i < T.length /\ Z tR (.loop 0 F132l0 (prF []) (prS T s1 r)) = some (.out (.exit 0) (prF ex) (prS T s' r')) /\ (s'.e = c /\ s'.a = a /\ c ≠ 0) := fun r her => by
     obtain ⟨s', ex, q1, q2⟩ := pr_er (r := r) hw her
     exact ⟨s', ex, r, q1.2.2, q2, q1.1, q1.2.1, her.c0⟩
   cases hn : nx ts with
   | none =>
     obtain ⟨g1, g2⟩ := gd_pend hg hn 12 (α := Nat -> Option Ss)
     rw [hn] at hx
     simp only at hx
     rw [g2] at hx
     cases hx
     exact er (α := Unit) _ g1
   | some y =>
     obtain ⟨b1, b2, b3⟩ := gd_some hg hn
     rw [hn] at hx
     simp only at hx
     by_cases c1 : y.size = 0
     · rw [if_pos c1] at hx
       cases hx
       have hy : y = ⟨#[]⟩ := ByteArray.size_eq_zero_iff.1 c1
       exact ⟨s, _, _, hg.lt, pr_end hg.lt (.inr (by rw [b2, hy])), hg.e, rfl⟩
     · rw [if_neg c1] at hx
       have hne : ¬ (tkAt T s.i).s = ⟨#[]⟩ := fun h0 => c1 (by rw [<- b2, h0]; rfl)
       have gx := gd_expect hw hg (x := bs [111, 110]) (by decide) (by decide)
       cases hxp : expectP 12 (bs [111, 110]) ts with
       | er a c =>
         rw [hxp] at hx gx
         cases hx
         obtain ⟨q1, q2⟩ := gx
         refine ⟨_, _, _, q1.lt, pr_on hw hg.lt hg.e hne q2, ?_⟩
         rcases q1.or with ⟨q3, q4⟩ | ⟨q3, _⟩
         · exact ⟨q3, q4, q1.c0⟩
         · exact absurd q3 q2
       | ok u r1 =>
         rw [hxp] at hx gx
         simp only at hx gx
         have fin : ∀ {c : Nat}, c ≠ 0 -> (match (failP c r1 : Rz (Nat -> Option Ss)) with
             | .ok h' _ => (failS T c (expectS T (bs [111, 110]) s)).e = 0 /\ (fun k => n4Of (h k)) = fun k => n4Of (h' k)
             | .er a c' => (failS T c (expectS T (bs [111, 110]) s)).e = c' /\ (failS T c (expectS T (bs [111, 110]) s)).a = a /\ c' ≠ 0) := fun {c} hc => by
           rw [gd_fail gx c]
           have e : failS T c (expectS T (bs [111, 110]) s) = ⟨(expectS T (bs [111, 110]) s).i, (tkAt T (expectS T (bs [111, 110]) s).i).at_, if (tkAt T (expectS T (bs [111, 110]) s).i).bad ≠ 0 then (tkAt T (expectS T (bs [111, 110]) s).i).bad else c⟩ := by simp [failS, gx.e]
           rw [e]
           by_cases hb : (tkAt T (expectS T (bs [111, 110]) s).i).bad = 0
           · simp [hb, hc]
           · simp [hb]
         cases hn2 : nx r1 with
         | none =>
           rw [hn2] at hx
           cases hx
           have hq := (gd_none gx hn2).2
           refine ⟨_, _, _, by rw [failS_i]; exact gx.lt, pr_none hw hg.lt hg.e hne rfl gx.lt gx.e (by rw [hq]; decide), fin (by decide)⟩
         | some w =>
           rw [hn2] at hx
           simp only at hx
           have hw3 := (gd_some gx hn2).2.2
           cases hh : handlerP w with
           | none =>
             rw [hh] at hx
             cases hx
             exact ⟨_, _, _, by rw [failS_i]; exact gx.lt, pr_none hw hg.lt hg.e hne rfl gx.lt gx.e (by rw [hw3]; exact hh), fin (by decide)⟩
           | some k =>
             rw [hh] at hx
             simp only at hx
             cases hhk : h k with
             | some b0 =>
               rw [hhk] at hx
               simp only [Option.isSome_some, if_true] at hx
               cases hx
               exact ⟨_, _, _, by rw [failS_i]; exact gx.lt, pr_dup hw hg.lt hg.e hne rfl gx.lt gx.e (by rw [hw3]; exact hh) (by simp [n4Of, hhk]), fin (by decide)⟩
             | none =>
               rw [hhk] at hx
               simp only [Option.isSome_none, Bool.false_eq_true, if_false] at hx
               have hw0 : w.size ≠ 0 := by
                 intro h0
                 have : w = ⟨#[]⟩ := ByteArray.size_eq_zero_iff.1 h0
                 rw [this, show handlerP ⟨#[]⟩ = none from by decide] at hh
                 cases hh
               have hgt := gd_take hw gx hn2 hw0
               cases hqb : blockP 12 2 true false false n 1 r1.tail with
               | none => rw [hqb] at hx; cases hx
               | some z =>
                 rw [hqb] at hx
                 obtain ⟨s3, d, hpost, hz⟩ := (stmt_all hw n).2.1 1 _ r1.tail z (by omega) (by omega) hgt hqb
                 simp only [Int.cast_ofNat_Int] at hz
                 cases z with
                 | er a c =>
                   cases hx
                   obtain ⟨her, k', n', y', ks, rfl, g1, g2⟩ := hpost
                   have hr := pr_block (r := fun k => n4Of (h k)) hw hg.lt hg.e hne rfl gx.lt gx.e (by rw [hw3]; exact hh) (by simp [n4Of, hhk]) ⟨k', n', y', ks, g1, g2⟩ hz
                   obtain ⟨s', ex, r', q1, q2, q3⟩ := er (α := Unit) (updR (fun k => n4Of (h k)) k ⟨k', n', y', ks, g1, g2⟩) her
                   exact ⟨s', ex, r', q1, hr.trans q2, q3⟩
                 | ok b r2 =>
                   obtain ⟨rfl, hg3⟩ := hpost
                   have hr := pr_block (r := fun k => n4Of (h k)) hw hg.lt hg.e hne rfl gx.lt gx.e (by rw [hw3]; exact hh) (by simp [n4Of, hhk]) (n4Of (some b)) hz
                   have hu : updR (fun k => n4Of (h k)) k (n4Of (some b)) = fun i => n4Of (if i = k then some b else h i) := by
                     funext i
                     unfold updR
                     split <;> rfl
                   rw [hu] at hr
                   obtain ⟨s', ex, r', q1, q2, q3⟩ := prog_all hw n (fun i => if i = k then some b else h i) s3 r2 x hg3 hx
                   exact ⟨s', ex, r', q1, hr.trans q2, q3⟩
end
end Go.Pm
end SJp
section SJq
namespace Go.Pm
open F
set_option maxHeartbeats 4000000
theorem allT_mem (s : ByteArray) : ∀ (n i : Nat) (t : Tk), t ∈ allT s n i -> ∃ j, j < s.size /\ t = tokAt 12 2 6 s j
 | 0, i, t, h => by simp [allT] at h
 | n + 1, i, t, h => by
   simp only [allT] at h
   split at h
   · rename_i hi
     rcases List.mem_cons.1 h with rfl | h
     · exact ⟨i, hi, rfl⟩
     · exact allT_mem s n _ t h
   · simp at h
theorem tokAt_P {s : ByteArray} (hl : s.size < 2 ^ 30) {j : Nat} (hj : j < s.size) : TokP (tokAt 12 2 6 s j) := by
 obtain ⟨p1, p2⟩ := tokAt_pos hj 12 2 6
 obtain ⟨c, h1, h2⟩ := at_lt hj
 have hd := drop_at h2
 rw [tokAt_eq, hd] at p2 ⊢
 generalize (byl s).drop (j + 1) = r at *
 have hsz : (bs (tokL 12 2 6 (c :: r)).1).size < 2 ^ 40 := by simp only at p2; omega
 have start : ∀ (p : UInt8 -> Bool) (x : UInt8) (w : List UInt8), startsB p (bs (x :: w)) = p x := fun p x w => by rw [startsB_eq, byl_bs]; rfl
 by_cases hlet : isLet c = true
 · have hw : wordB c = true := by simp [wordB, hlet]
   have e : (c :: r).take (runL wordB (c :: r)) = c :: r.take (runL wordB r) := by simp [runL, hw]
   have ht : (tokL 12 2 6 (c :: r)).1 = c :: r.take (runL wordB r) := by simp only [tokL, hlet, if_true]; exact e
   rw [ht]
   have hnd : isDig c = false := by
     simp only [isDig, isLet, Bool.and_eq_true, decide_eq_true_eq, Bool.and_eq_false_iff, decide_eq_false_iff_not] at hlet ⊢
     omega
   refine ⟨fun _ h => ?_, fun _ h => ?_⟩
   · have := bs_inj h
     simp only [List.cons.injEq] at this
     rw [this.1] at hlet
     exact absurd hlet (by decide)
   · simp only at h
     rw [start, hnd] at h
     cases h
 · by_cases hdig : isDig c = true
   · have e : (c :: r).take (runL isDig (c :: r)) = c :: r.take (runL isDig r) := by simp [runL, hdig]
     have ht : tokL 12 2 6 (c :: r) = ((c :: r).take (runL isDig (c :: r)), if 2147483647 < digV ((c :: r).take (runL isDig (c :: r))) then 6 else 0) := by simp only [tokL, hlet, hdig, if_true, Bool.false_eq_true, if_false]
     rw [ht] at hsz ⊢
     refine ⟨fun _ h => ?_, fun h _ => ⟨fun b hb => ?_, ?_, hsz⟩⟩
     · simp only at h
       rw [e] at h
       have := bs_inj h
       simp only [List.cons.injEq] at this
       rw [this.1] at hdig
       exact absurd hdig (by decide)
     · exact runL_all isDig (c :: r) b hb
     · simp only at h ⊢
       split at h
       · cases h
       · rename_i hb
         exact Nat.not_lt.1 hb
   · by_cases hp : bs ((c :: r).take 2) ∈ pairs
     · have ht : tokL 12 2 6 (c :: r) = ((c :: r).take 2, 0) := by simp only [tokL, hlet, hdig, if_pos hp, Bool.false_eq_true, if_false]
       rw [ht]
       have key : ∀ w : List UInt8, bs w ∈ pairs -> bs w ≠ qS /\ startsB isDig (bs w) = false := fun w hw => by
         rcases pair_cases hw with rfl | rfl | rfl | rfl | rfl | rfl <;> decide
       obtain ⟨k1, k2⟩ := key _ hp
       exact ⟨fun _ => k1, fun _ h => by rw [k2] at h; cases h⟩
     · by_cases hs : c.toNat ∈ symB
       · have ht : tokL 12 2 6 (c :: r) = ([c], 0) := by simp only [tokL, hlet, hdig, if_neg hp, if_pos hs, Bool.false_eq_true, if_false]
         rw [ht]
         refine ⟨fun _ h => ?_, fun _ h => ?_⟩
         · have := bs_inj h
           simp only [List.cons.injEq, and_true] at this
           rw [this] at hs
           exact absurd hs (by decide)
         · simp only at h
           rw [start] at h
           exact absurd h hdig
       · have ht : tokL 12 2 6 (c :: r) = ([c], 12) := by simp only [tokL, hlet, hdig, if_neg hp, if_neg hs, Bool.false_eq_true, if_false]
         rw [ht]
         exact ⟨fun h => (by cases h), fun h => (by cases h)⟩
theorem wf_refT {s : ByteArray} (hl : s.size < 2 ^ 30) : WfT (refT s) := by
 obtain ⟨_, hlen⟩ := tokens_Z s hl
 have hlen2 : (refT s).length = (allT s (s.size + 1) (skipL false (byl s))).length + 1 := by simp [refT]
 refine ⟨by omega, fun t ht => ?_, fun i hi => ?_, fun i hi => ?_⟩
 · rcases List.mem_append.1 ht with h | h
   · obtain ⟨j, hj, rfl⟩ := allT_mem s _ _ t h
     exact tokAt_P hl hj
   · rw [List.mem_singleton.1 h]
     exact ⟨fun _ => show (⟨#[]⟩ : ByteArray) ≠ qS by decide, fun _ h => (by cases h)⟩
 · have h1 : i < (allT s (s.size + 1) (skipL false (byl s))).length := by omega
   have e : tkAt (refT s) i = (allT s (s.size + 1) (skipL false (byl s)))[i] := by
     rw [<- tkAt_eq (by omega)]
     exact List.getElem_append_left h1
   obtain ⟨j, hj, he⟩ := allT_mem s _ _ _ (List.getElem_mem h1)
   rw [e, he]
   have := tokAt_pos hj 12 2 6
   omega
 · have e : tkAt (refT s) i = ⟨s.size, ⟨#[]⟩, 0⟩ := by
     rw [<- tkAt_eq (by omega)]
     have h2 : i = (allT s (s.size + 1) (skipL false (byl s))).length := by omega
     subst h2
     simp [refT]
   rw [e]
   exact ⟨rfl, rfl⟩
def toks (s : ByteArray) : List Tk := toksN 12 2 6 s (s.size + 1) 0
def parseV (f fi fb : Bool) (s : ByteArray) : Rz (Nat -> Option Ss) :=
 if 2000 < s.size then .er 2000 2 else match progP 12 2 4 f fi fb (10 * (toks s).length + 10) (fun _ => none) (toks s) with
   | some x => x
   | none => .er 0 0
theorem parseV_some {f fi fb : Bool} {s : ByteArray} (h : ¬ 2000 < s.size) : progP 12 2 4 f fi fb (10 * (toks s).length + 10) (fun _ => none) (toks s) = some (parseV f fi fb s) := by
 obtain ⟨y, hy, _⟩ := progP_fin 12 2 4 f fi fb (10 * (toks s).length + 10) (fun _ => none) (toks s) (by omega)
 unfold parseV
 rw [if_neg h, hy]
abbrev rulD (r : Nat -> N4) : V := .dat (.agg [.lit (.int .i64 (r 0).k), .lit (.int .i64 (r 0).n), .lit (.string (r 0).s), (r 0).d, .lit (.int .i64 (r 1).k), .lit (.int .i64 (r 1).n), .lit (.string (r 1).s), (r 1).d, .lit (.int .i64 (r 2).k), .lit (.int .i64 (r 2).n), .lit (.string (r 2).s), (r 2).d])
def parseR (f fi fb : Bool) (s : ByteArray) : V := match parseV f fi fb s with
 | .ok h _ => .tup [rulD fun k => n4Of (h k), .int 0, .int 0]
 | .er a c => .tup [rulD fun _ => n4Of none, .int a, .int c]
theorem parse_Z (s : ByteArray) (hl : s.size < 2 ^ 30) : Z tR (.call 132 [.str s] []) = some (.ret (parseR true false false s) []) := by
 refine Z_call (pf := F132) rfl rfl ?_
 unfold parseR
 by_cases hbig : 2000 < s.size
 · have hbig' : (2000 : Int) < s.size := by omega
   have : parseV true false false s = .er 2000 2 := by rw [parseV, if_pos hbig]
   rw [this]
   simp [F132, V.len, hbig', n4Of, List.range_succ]
 · have hbig' : ¬ (2000 : Int) < s.size := by omega
   have hw := wf_refT hl
   obtain ⟨zt, hlen⟩ := tokens_Z s hl
   have hg : Gd (refT s) ⟨0, 0, 0⟩ (toks s) := ⟨rfl, rfl, by simp [refT], by rw [List.drop_zero]; exact cut_refT s⟩
   obtain ⟨s', ex, r', q1, q2, q3⟩ := prog_all hw _ _ _ _ _ hg (parseV_some hbig)
   have q2' : Z tR (.loop 0 F132l0 [(2, .ptr 0 0), (5, .ptr 1 0), (6, .ptr 2 0)] [res0, .cells [.dat (.sl (tkC (refT s)) (refT s).length false), .int 0, .int 0, .int 0], res0]) = some (.out (.exit 0) (prF ex) (prS (refT s) s' r')) := q2
   cases hv : parseV true false false s with
   | ok h ts =>
     rw [hv] at q3
     obtain ⟨q4, rfl⟩ := q3
     have he : decide (s'.e = 0) = true := decide_eq_true q4
     simp [F132, V.len, hbig', zt, q2', he, (n4Of (h 0)).one, (n4Of (h 0)).cl, (n4Of (h 1)).one, (n4Of (h 1)).cl, (n4Of (h 2)).one, (n4Of (h 2)).cl, calm, alone, List.range_succ]
   | er a c =>
     rw [hv] at q3
     obtain ⟨q4, q5, q6⟩ := q3
     have he : decide (s'.e = 0) = false := decide_eq_false (by rw [q4]; exact q6)
     simp [F132, V.len, hbig', zt, q2', he, n4Of, (r' 0).one, (r' 0).cl, (r' 1).one, (r' 1).cl, (r' 2).one, (r' 2).cl, calm, alone, List.range_succ]
     exact ⟨by rw [q5], by rw [q4]⟩
end Go.Pm
end SJq
