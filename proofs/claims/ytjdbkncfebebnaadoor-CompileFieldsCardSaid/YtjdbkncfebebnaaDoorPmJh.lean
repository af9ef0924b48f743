/- Chapter 13's reference parser: expressions. Chapter 13's reference parser: prefix operators, indices, operands. Chapter 13's reference parser: every expression. Chapter 13's reference parser: statements. -/
import Derived.Test.YtjdbkncfebebnaaDoorPmJd
set_option linter.unusedSimpArgs false
set_option linter.unusedVariables false
section SJh
namespace Go.Pm
open F
set_option maxHeartbeats 4000000
def Post (T : List Tk) (x : Rz E) (d : V) (s' : Ps) : Prop := match x with
 | .ok e r => d = e.node /\ Gd T s' r
 | .er a c => Er T s' a c /\ NdD d
def CallR (T : List Tk) (f : Nat) (args : List V) (s : Ps) (x : Rz E) : Prop := ∃ s' d, Post T x d s' /\ Z tR (.call f args [PO T s]) = some (.ret d [PO T s'])
theorem gd_pend {T : List Tk} {s : Ps} {ts : List Tk} (h : Gd T s ts) (hx : nx ts = none) (c : Nat) {α : Type} : Er T s (tkAt T s.i).at_ (tkAt T s.i).bad /\ failP (α := α) c ts = .er (tkAt T s.i).at_ (tkAt T s.i).bad := by
 obtain ⟨h1, h2⟩ := gd_none h hx
 refine ⟨⟨h.lt, h1, .inr ⟨h.e, rfl, rfl⟩⟩, ?_⟩
 rw [gd_fail h c, if_neg h1]
theorem post_lt {T : List Tk} {x : Rz E} {d : V} {s' : Ps} (h : Post T x d s') : s'.i < T.length /\ NdD d := by
 cases x with
 | ok e r => exact ⟨h.2.lt, by rw [h.1]; exact ndD_node e⟩
 | er a c => exact ⟨h.1.lt, h.2⟩
theorem er_end {T : List Tk} (hw : WfT T) {s : Ps} {a c p : Nat} (h : Er T s a c) : s.e ≠ 0 \/ opAt p (nxR T s) = none := by
 by_cases he : s.e = 0
 · right; rw [er_nx hw h he]; exact opAt_q p
 · exact .inl he
def ExprC (T : List Tk) (n : Nat) : Prop := ∀ p lv s ts x, 1 <= p -> p <= 8 -> lv <= 20 -> Gd T s ts -> exprP 12 2 true n p lv ts = some x -> CallR T 197 [.ptr 0 0, .int (lv : Nat), .int (p : Nat)] s x
def BinC (T : List Tk) (n : Nat) : Prop := ∀ p lv s ts x, PrecB p -> lv <= 20 -> Gd T s ts -> exprP 12 2 true n p lv ts = some x -> CallR T 203 [.ptr 0 0, .int (lv : Nat), .int (p : Nat)] s x
def IndC (T : List Tk) (n : Nat) : Prop := ∀ lv s ts x, lv <= 20 -> Gd T s ts -> indexP 12 2 true n lv ts = some x -> CallR T 199 [.ptr 0 0, .int (lv : Nat)] s x
def LoopC (T : List Tk) (n : Nat) : Prop := ∀ p lv s ts e x ex, PrecB p -> lv <= 20 -> Gd T s ts -> (ex = [] \/ ex = [(51, .bool false)]) -> loopP 12 2 true n p lv e ts = some x ->
 ∃ s' k n' y ks t v G, Post T x (.dat (.agg [.lit (.int .i64 k), .lit (.int .i64 n'), .lit (.string y), ks])) s' /\ V.one (.dat ks) = true /\ V.cells (.dat ks) = [.dat ks] /\
   Z tR (.loop 1 F203l0 (bpFr lv p ex) [PO T s, zob, .cells [.int e.kind, .int e.num, .str e.str, .dat e.kids]]) = some (.out (.exit 0) (bpFr lv p [(t, .bool v)]) (PO T s' :: zob :: .cells [.int k, .int n', .str y, .dat ks] :: G))
section
variable {T : List Tk}
theorem loop_step (hw : WfT T) {n : Nat} (ihe : ExprC T n) (ihl : LoopC T n) : LoopC T (n + 1) := by
 intro p lv s ts e x ex hp hlv hg hex hx
 have hp9 : p <= 6 := by rcases hp with rfl | rfl | rfl | rfl | rfl <;> omega
 rw [loopP] at hx
 cases hn : nx ts with
 | none =>
   rw [hn] at hx
   simp only at hx
   have hp37 : ¬ (p = 3 \/ p = 7) := by rcases hp with rfl | rfl | rfl | rfl | rfl <;> omega
   rw [if_neg hp37] at hx
   obtain ⟨g1, g2⟩ := gd_pend hg hn 12 (α := E)
   rw [g2] at hx
   cases hx
   obtain ⟨b, zl⟩ := bin_end (lv := lv) hg.lt hp (er_end hw g1) hex e.kind e.num e.str (ks := e.kids) (by simp) (by simp)
   exact ⟨s, _, _, _, _, 35, b, [], ⟨g1, ndD_node e⟩, by simp, by simp, zl⟩
 | some y =>
   rw [hn] at hx
   simp only at hx
   obtain ⟨b1, b2, b3⟩ := gd_some hg hn
   cases ho : opAt p y with
   | none =>
     rw [ho] at hx
     cases hx
     obtain ⟨b, zl⟩ := bin_end (lv := lv) hg.lt hp (.inr (by rw [b3]; exact ho)) hex e.kind e.num e.str (ks := e.kids) (by simp) (by simp)
     exact ⟨s, _, _, _, _, 35, b, [], ⟨rfl, hg⟩, by simp, by simp, zl⟩
   | some o =>
     rw [ho] at hx
     simp only at hx
     have hoy : o.str = y := by
       have := List.find?_some ho
       simpa using this
     have hy0 : y.size ≠ 0 := by rw [<- hoy]; cases o <;> decide
     have hgt := gd_take hw hg hn hy0
     cases hq : exprP 12 2 true n (p + 1) lv ts.tail with
     | none => rw [hq] at hx; cases hx
     | some z =>
       rw [hq] at hx
       obtain ⟨s', d, hpost, hz⟩ := ihe (p + 1) lv (takeS T s) ts.tail z (by omega) (by omega) hlv hgt hq
       obtain ⟨hs', hnd⟩ := post_lt hpost
       have zn := next_Z hg.lt
       have zt := take_Z hg.lt hw.len
       have zo := ops_Z hp (nxR T s)
       rw [b3, ho] at zo
       rw [b3] at zn
       have he : decide (s.e = 0) = true := decide_eq_true hg.e
       obtain ⟨q1, q2⟩ := ops_at hp
       have w1 := wrap64 ((p : Int) + 1) (by omega)
       simp only [Int.natCast_add, Int.cast_ofNat_Int] at hz
       -- one round of the loop, up to the new left operand
       have round : ∀ (k n' : Int) (y' : ByteArray) (ks : D), d = .dat (.agg [.lit (.int .i64 k), .lit (.int .i64 n'), .lit (.string y'), ks]) -> V.one (.dat ks) = true -> V.cells (.dat ks) = [.dat ks] ->
           Z tR (.loop 1 F203l0 (bpFr lv p ex) [PO T s, zob, .cells [.int e.kind, .int e.num, .str e.str, .dat e.kids]]) =
           if p = 4 then some (.out (.exit 0) (bpFr lv p [(51, .bool true)]) [PO T s', zob, .cells [.int 14, .int 0, .str y, .dat (.sl [.lit (.int .i64 e.kind), .lit (.int .i64 e.num), .lit (.string e.str), e.kids, .lit (.int .i64 k), .lit (.int .i64 n'), .lit (.string y'), ks] 2 true)], .cells [.int k, .int n', .str y', .dat ks]])
           else Z tR (.loop 1 F203l0 (bpFr lv p [(51, .bool false)]) [PO T s', zob, .cells [.int 14, .int 0, .str y, .dat (.sl [.lit (.int .i64 e.kind), .lit (.int .i64 e.num), .lit (.string e.str), e.kids, .lit (.int .i64 k), .lit (.int .i64 n'), .lit (.string y'), ks] 2 true)]]) := by
         intro k n' y' ks hd g1 g2
         rw [hd] at hz
         conv => lhs; rw [Z_loop_eq]
         by_cases h4 : p = 4
         · have h4' : decide (p = 4) = true := decide_eq_true h4
           have h4i : decide ((p : Int) = 4) = true := decide_eq_true (by omega)
           rw [if_pos h4]
           rcases hex with rfl | rfl <;> simp [loopStep, run_F203l0, he, zn, zt, zo, hz, q1, q2, w1, g1, g2, h4', h4i, calm, alone, List.range_succ]
         · have h4' : decide (p = 4) = false := decide_eq_false h4
           have h4i : decide ((p : Int) = 4) = false := decide_eq_false (by omega)
           rw [if_neg h4]
           rcases hex with rfl | rfl
           · simp [loopStep, run_F203l0, he, zn, zt, zo, hz, q1, q2, w1, g1, g2, h4', h4i, calm, alone, List.range_succ]
             exact Z_loop_cong (by simp [g1, g2, List.range_succ])
           · simp [loopStep, run_F203l0, he, zn, zt, zo, hz, q1, q2, w1, g1, g2, h4', h4i, calm, alone, List.range_succ]
             exact Z_loop_cong (by simp [g1, g2, List.range_succ])
       cases z with
       | er a c =>
         cases hx
         obtain ⟨her, _⟩ := hpost
         obtain ⟨k, n', y', ks, hd, g1, g2⟩ := hnd
         have hr := round k n' y' ks hd g1 g2
         by_cases h4 : p = 4
         · rw [if_pos h4] at hr
           exact ⟨s', _, _, _, _, 51, true, _, ⟨her, _, _, _, _, rfl, rfl, rfl⟩, rfl, rfl, hr⟩
         · rw [if_neg h4] at hr
           obtain ⟨b, zl⟩ := bin_end (lv := lv) her.lt hp (er_end hw her) (.inr rfl) 14 0 y (ks := .sl [.lit (.int .i64 e.kind), .lit (.int .i64 e.num), .lit (.string e.str), e.kids, .lit (.int .i64 k), .lit (.int .i64 n'), .lit (.string y'), ks] 2 true) rfl rfl
           exact ⟨s', _, _, _, _, 35, b, [], ⟨her, _, _, _, _, rfl, rfl, rfl⟩, rfl, rfl, hr.trans zl⟩
       | ok e' r =>
         simp only at hx
         obtain ⟨hd, hg'⟩ := hpost
         have hr := round e'.kind e'.num e'.str e'.kids hd (by simp) (by simp)
         by_cases h4 : p = 4
         · rw [if_pos h4] at hr hx
           cases hx
           refine ⟨s', _, _, _, _, 51, true, _, ⟨?_, hg'⟩, ?_, ?_, hr⟩
           · simp [E.node, hoy]
           · rfl
           · rfl
         · rw [if_neg h4] at hr hx
           obtain ⟨s2, k2, n2, y2, ks2, t2, v2, G, k3, k4, k5, k6⟩ := ihl p lv s' r (.bin true o e e') x [(51, .bool false)] hp hlv hg' (.inr rfl) hx
           refine ⟨s2, k2, n2, y2, ks2, t2, v2, G, k3, k4, k5, hr.trans ?_⟩
           rw [<- k6]
           simp [hoy]
theorem bin_step (hw : WfT T) {n : Nat} (ihe : ExprC T n) (ihl : LoopC T n) : BinC T (n + 1) := by
 intro p lv s ts x hp hlv hg hx
 have hp9 : p <= 6 := by rcases hp with rfl | rfl | rfl | rfl | rfl <;> omega
 have hp1 : 1 <= p := by rcases hp with rfl | rfl | rfl | rfl | rfl <;> omega
 have hp37 : p ≠ 3 /\ p ≠ 7 := by rcases hp with rfl | rfl | rfl | rfl | rfl <;> omega
 rw [exprP, if_neg (by rintro (⟨h, _⟩ | ⟨h, _⟩); exact hp37.1 h; exact hp37.2 h), if_pos (by omega)] at hx
 cases hq : exprP 12 2 true n (p + 1) lv ts with
 | none => rw [hq] at hx; cases hx
 | some z =>
   rw [hq] at hx
   obtain ⟨s', d, hpost, hz⟩ := ihe (p + 1) lv s ts z (by omega) (by omega) hlv hg hq
   obtain ⟨hs', hnd⟩ := post_lt hpost
   have w1 := wrap64 ((p : Int) + 1) (by omega)
   simp only [Int.natCast_add, Int.cast_ofNat_Int] at hz
   -- what the loop comes to ends the call
   have fin : ∀ (k n' : Int) (y' : ByteArray) (ks : D) (s2 : Ps) (k2 n2 : Int) (y2 : ByteArray) (ks2 : D) (t : Nat) (v : Bool) (G : S), d = .dat (.agg [.lit (.int .i64 k), .lit (.int .i64 n'), .lit (.string y'), ks]) -> V.one (.dat ks) = true -> V.cells (.dat ks) = [.dat ks] -> V.one (.dat ks2) = true -> V.cells (.dat ks2) = [.dat ks2] ->
       Z tR (.loop 1 F203l0 (bpFr lv p []) [PO T s', zob, .cells [.int k, .int n', .str y', .dat ks]]) = some (.out (.exit 0) (bpFr lv p [(t, .bool v)]) (PO T s2 :: zob :: .cells [.int k2, .int n2, .str y2, .dat ks2] :: G)) ->
       Z tR (.call 203 [.ptr 0 0, .int lv, .int p] [PO T s]) = some (.ret (.dat (.agg [.lit (.int .i64 k2), .lit (.int .i64 n2), .lit (.string y2), ks2])) [PO T s2]) := by
     intro k n' y' ks s2 k2 n2 y2 ks2 t v G hd g1 g2 g3 g4 zl
     rw [hd] at hz
     refine Z_call (pf := F203) rfl rfl ?_
     simp [F203, hz, w1, zl, g1, g2, g3, g4, List.range_succ]
   cases z with
   | er a c =>
     cases hx
     obtain ⟨her, _⟩ := hpost
     obtain ⟨k, n', y', ks, hd, g1, g2⟩ := hnd
     obtain ⟨b, zl⟩ := bin_end (lv := lv) her.lt hp (er_end hw her) (.inl rfl) k n' y' g1 g2
     exact ⟨s', _, ⟨her, _, _, _, _, rfl, g1, g2⟩, fin k n' y' ks s' k n' y' ks 35 b [] hd g1 g2 g1 g2 zl⟩
   | ok e r =>
     obtain ⟨hd, hg'⟩ := hpost
     simp only at hx
     obtain ⟨s2, k2, n2, y2, ks2, t2, v2, G, k3, k4, k5, k6⟩ := ihl p lv s' r e x [] hp hlv hg' (.inl rfl) hx
     exact ⟨s2, _, k3, fin _ _ _ _ s2 k2 n2 y2 ks2 t2 v2 G hd (by simp) (by simp) k4 k5 k6⟩
end
end Go.Pm
end SJh
section SJi
namespace Go.Pm
open F
set_option maxHeartbeats 4000000
section
variable {T : List Tk}
theorem openP_lv {lv : Nat} {x : ByteArray} {ts r : List Tk} {u : Unit} (h : openP 12 2 x lv ts = .ok u r) : lv <= 20 := by
 unfold openP at h
 split at h
 · cases ts <;> cases h
 · rename_i hc
   have : nx ts = some x := by
     cases ts with
     | nil => cases h
     | cons t q =>
       simp only [expectP] at h
       split at h
       · rename_i hx; simp [nx, hx]
       · cases h
   exact Nat.not_lt.1 fun hl => hc ⟨this, hl⟩
theorem ind_step (hw : WfT T) {n : Nat} (ihe : ExprC T n) : IndC T (n + 1) := by
 intro lv s ts x hlv hg hx
 have w1 := wrap64 ((lv : Int) + 1) (by omega)
 have zo := open_Z hg.lt hw.len (bs [91]) (lv + 1)
 have go := gd_open hw hg (x := bs [91]) (by decide) (by decide) (lv + 1)
 rw [indexP] at hx
 -- the call, of what it does
 have fin : ∀ (s1 s2 s3 : Ps) (k n' : Int) (y' : ByteArray) (ks : D), s1 = openS T (bs [91]) (lv + 1) s -> s3 = expectS T (bs [93]) s2 -> s2.i < T.length -> V.one (.dat ks) = true -> V.cells (.dat ks) = [.dat ks] ->
     Z tR (.call 197 [.ptr 0 0, .int ((lv : Int) + 1), .int 1] [PO T s1]) = some (.ret (.dat (.agg [.lit (.int .i64 k), .lit (.int .i64 n'), .lit (.string y'), ks])) [PO T s2]) ->
     Z tR (.call 199 [.ptr 0 0, .int lv] [PO T s]) = some (.ret (.dat (.agg [.lit (.int .i64 k), .lit (.int .i64 n'), .lit (.string y'), ks])) [PO T s3]) := by
   intro s1 s2 s3 k n' y' ks h1 h3 hl g1 g2 hz
   have ze := expect_Z hl hw.len (bs [93])
   rw [<- h1] at zo
   rw [<- h3] at ze
   refine Z_call (pf := F199) rfl rfl ?_
   simp only [bs] at zo ze
   simp [F199, zo, ze, hz, w1, g1, g2, List.range_succ]
 cases ho : openP 12 2 (bs [91]) (lv + 1) ts with
 | er a c =>
   rw [ho] at hx go
   cases hx
   obtain ⟨g1, g2⟩ := go
   simp only [Int.natCast_add, Int.cast_ofNat_Int] at g1 g2
   have he := expr_E g1.lt g2 (lv + 1) 1
   simp only [Int.natCast_add, Int.cast_ofNat_Int] at he
   obtain ⟨g3, g4⟩ := er_expect hw g1 (x := bs [93]) (by decide)
   exact ⟨_, _, ⟨g3, ndD_zero⟩, fin _ _ _ 0 0 ⟨#[]⟩ _ rfl rfl g1.lt rfl rfl he⟩
 | ok u r =>
   rw [ho] at hx go
   simp only at hx go
   simp only [Int.natCast_add, Int.cast_ofNat_Int] at go
   have hlv' := openP_lv ho
   cases hq : exprP 12 2 true n 1 (lv + 1) r with
   | none => rw [hq] at hx; cases hx
   | some z =>
     rw [hq] at hx
     obtain ⟨s2, d, hpost, hz⟩ := ihe 1 (lv + 1) _ r z (by omega) (by omega) hlv' go hq
     simp only [Int.natCast_add, Int.cast_ofNat_Int] at hz
     cases z with
     | er a c =>
       cases hx
       obtain ⟨her, k, n', y', ks, rfl, g1, g2⟩ := hpost
       obtain ⟨g3, g4⟩ := er_expect hw her (x := bs [93]) (by decide)
       exact ⟨_, _, ⟨g3, _, _, _, _, rfl, g1, g2⟩, fin _ _ _ k n' y' ks rfl rfl her.lt g1 g2 hz⟩
     | ok e r' =>
       obtain ⟨rfl, hg2⟩ := hpost
       have gx := gd_expect hw hg2 (x := bs [93]) (by decide) (by decide)
       simp only at hx
       have hf := fin _ s2 _ e.kind e.num e.str e.kids rfl rfl hg2.lt (by simp) (by simp) hz
       cases hxp : expectP 12 (bs [93]) r' with
       | er a c =>
         rw [hxp] at hx gx
         cases hx
         exact ⟨_, _, ⟨gx.1, ndD_node e⟩, hf⟩
       | ok u' r'' =>
         rw [hxp] at hx gx
         cases hx
         exact ⟨_, _, ⟨rfl, gx⟩, hf⟩
theorem un_step (hw : WfT T) {n : Nat} (ihe : ExprC T n) {lv p : Nat} (hp : p = 3 \/ p = 7) {s : Ps} {ts : List Tk} {x : Rz E} (hlv : lv <= 20) (hg : Gd T s ts)
   (hx : (match openP 12 2 (ustr (p == 7)) (lv + 1) ts with
     | .er i c => some (.er i c)
     | .ok _ r => match exprP 12 2 true n p (lv + 1) r with
       | some (.ok e r') => some (.ok (.un true (p == 7) e) r')
       | x => x) = some x) : CallR T 202 [.ptr 0 0, .str (ustr (p == 7)), .int lv, .int p] s x := by
 have w1 := wrap64 ((lv : Int) + 1) (by omega)
 have hq0 : ustr (p == 7) ≠ qS /\ (ustr (p == 7)).size ≠ 0 := by rcases hp with rfl | rfl <;> decide
 have zo := open_Z hg.lt hw.len (ustr (p == 7)) (lv + 1)
 have go := gd_open hw hg hq0.1 hq0.2 (lv + 1)
 have fin : ∀ (s1 s2 : Ps) (k n' : Int) (y' : ByteArray) (ks : D), s1 = openS T (ustr (p == 7)) (lv + 1) s -> V.one (.dat ks) = true -> V.cells (.dat ks) = [.dat ks] ->
     Z tR (.call 197 [.ptr 0 0, .int ((lv : Int) + 1), .int p] [PO T s1]) = some (.ret (.dat (.agg [.lit (.int .i64 k), .lit (.int .i64 n'), .lit (.string y'), ks])) [PO T s2]) ->
     Z tR (.call 202 [.ptr 0 0, .str (ustr (p == 7)), .int lv, .int p] [PO T s]) = some (.ret (.dat (.agg [.lit (.int .i64 13), .lit (.int .i64 0), .lit (.string (ustr (p == 7))), .sl [.lit (.int .i64 k), .lit (.int .i64 n'), .lit (.string y'), ks] 1 true])) [PO T s2]) := by
   intro s1 s2 k n' y' ks h1 g1 g2 hz
   rw [<- h1] at zo
   refine Z_call (pf := F202) rfl rfl ?_
   simp [F202, zo, hz, w1, g1, g2, List.range_succ]
 cases ho : openP 12 2 (ustr (p == 7)) (lv + 1) ts with
 | er a c =>
   rw [ho] at hx go
   cases hx
   obtain ⟨g1, g2⟩ := go
   simp only [Int.natCast_add, Int.cast_ofNat_Int] at g1 g2
   have he := expr_E g1.lt g2 (lv + 1) p
   simp only [Int.natCast_add, Int.cast_ofNat_Int] at he
   exact ⟨_, _, ⟨g1, _, _, _, _, rfl, rfl, rfl⟩, fin _ _ 0 0 ⟨#[]⟩ _ rfl rfl rfl he⟩
 | ok u r =>
   rw [ho] at hx go
   simp only at hx go
   simp only [Int.natCast_add, Int.cast_ofNat_Int] at go
   have hlv' := openP_lv ho
   cases hq : exprP 12 2 true n p (lv + 1) r with
   | none => rw [hq] at hx; cases hx
   | some z =>
     rw [hq] at hx
     obtain ⟨s2, d, hpost, hz⟩ := ihe p (lv + 1) _ r z (by omega) (by omega) hlv' go hq
     simp only [Int.natCast_add, Int.cast_ofNat_Int] at hz
     cases z with
     | er a c =>
       cases hx
       obtain ⟨her, k, n', y', ks, rfl, g1, g2⟩ := hpost
       exact ⟨_, _, ⟨her, _, _, _, _, rfl, rfl, rfl⟩, fin _ _ k n' y' ks rfl g1 g2 hz⟩
     | ok e r' =>
       obtain ⟨rfl, hg2⟩ := hpost
       cases hx
       exact ⟨_, _, ⟨rfl, hg2⟩, fin _ s2 e.kind e.num e.str e.kids rfl (by simp) (by simp) hz⟩
end
end Go.Pm
end SJi
section SJk
namespace Go.Pm
open F
set_option maxHeartbeats 4000000
section
variable {T : List Tk}
theorem name_sz {s : ByteArray} {p : UInt8 -> Bool} (h : startsB p s = true) : s.size ≠ 0 := by
 intro h0
 have : s[0]? = none := getElem?_neg s 0 (by omega)
 simp [startsB, this] at h
theorem field_ne' {s x : ByteArray} (h : s ∈ fieldNames) (hx : x ∉ fieldNames) : s ≠ x := fun e => hx (e ▸ h)
theorem prim_step (hw : WfT T) {n : Nat} (ihe : ExprC T n) (ihi : IndC T n) {lv : Nat} {s : Ps} {ts : List Tk} {x : Rz E} (hlv : lv <= 20) (hg : Gd T s ts) (hx : exprP 12 2 true (n + 1) 8 lv ts = some x) :
   CallR T 197 [.ptr 0 0, .int lv, .int ((8 : Nat))] s x := by
 have he : decide (s.e = 0) = true := decide_eq_true hg.e
 have zn := next_Z hg.lt
 rw [exprP, if_neg (by rintro (⟨h, _⟩ | ⟨h, _⟩) <;> omega), if_neg (by omega)] at hx
 cases hn : nx ts with
 | none =>
   obtain ⟨b1, b2⟩ := gd_none hg hn
   obtain ⟨g1, g2⟩ := gd_pend hg hn 12 (α := E)
   rw [hn] at hx
   simp only at hx
   rw [g2] at hx
   cases hx
   rw [b2] at zn
   have zf := fail_Z hg.lt 12
   simp only [Int.cast_ofNat_Int] at zf
   simp only [qS, bs] at zn
   refine ⟨_, zeroN, ⟨(er_fail (k := 12) g1).1, ndD_zero⟩, ?_⟩
   refine Z_call (pf := F197) rfl rfl ?_
   simp [F197, he, zn, zf, eqS_iff, List.range_succ]
 | some y =>
   obtain ⟨b1, b2, b3⟩ := gd_some hg hn
   rw [b3] at zn
   rw [hn] at hx
   simp only at hx
   have zt := take_Z hg.lt hw.len
   have htok := hw.tok _ (tk_mem hg.lt)
   have hyq := htok.q b1
   have hydig := htok.dig b1
   rw [b2] at hyq hydig
   have n63 : ¬ y = ⟨#[63]⟩ := hyq
   by_cases c1 : startsB isDig y = true
   · -- a number
     rw [if_pos c1] at hx
     cases hx
     obtain ⟨d1, d2, d3⟩ := hydig c1
     have y0 := name_sz c1
     have hgt := gd_take hw hg hn y0
     have zv := value_Z d1 d3
     have hv : valV y.data.toList = digV y.data.toList := by rw [valV, if_neg (by omega)]
     rw [hv] at zv
     obtain ⟨c, hc⟩ : ∃ c, y[0]? = some c := by
       cases h : y[0]? with
       | none => simp [startsB, h] at c1
       | some c => exact ⟨c, rfl⟩
     have zd := digit_Z c
     have hcd : isDig c = true := by simpa [startsB, hc] using c1
     have ny : ∀ z : ByteArray, startsB isDig z = false -> ¬ y = z := fun z hz e => by rw [e, hz] at c1; cases c1
     have n40 := ny ⟨#[40]⟩ (by decide)
     have n0 := ny ⟨#[]⟩ (by decide)
     refine ⟨takeS T s, _, ⟨rfl, hgt⟩, ?_⟩
     refine Z_call (pf := F197) rfl rfl ?_
     simp [F197, he, zn, zt, zv, zd, hc, hcd, n40, n0, n63, eqS_iff, ByteArray.toList_eq, List.range_succ]
   · rw [if_neg c1] at hx
     -- the first byte, if there is one
     have first : y.size ≠ 0 -> ∃ c, y[0]? = some c /\ isDig c = false := fun h0 => by
       have h : (y[0]?).isSome = true := by
         rw [getElem?_pos y 0 (by omega)]; rfl
       cases hc : y[0]? with
       | none => rw [hc] at h; cases h
       | some c =>
         refine ⟨c, rfl, ?_⟩
         simp only [startsB, hc] at c1
         simpa using c1
     -- after taking the token
     have take : y.size ≠ 0 -> Gd T (takeS T s) ts.tail := gd_take hw hg hn
     by_cases c2 : y = bs [116, 114, 117, 101]
     · rw [if_pos c2] at hx
       cases hx
       subst c2
       obtain ⟨c, hc, hcd⟩ := first (by decide)
       have zd := digit_Z c
       refine ⟨takeS T s, _, ⟨rfl, take (by decide)⟩, ?_⟩
       refine Z_call (pf := F197) rfl rfl ?_
       simp only [bs] at zn hc
       simp [F197, he, zn, zt, zd, hc, hcd, eqS_iff, List.range_succ]
     · rw [if_neg c2] at hx
       by_cases c3 : y = bs [102, 97, 108, 115, 101]
       · rw [if_pos c3] at hx
         cases hx
         subst c3
         obtain ⟨c, hc, hcd⟩ := first (by decide)
         have zd := digit_Z c
         refine ⟨takeS T s, _, ⟨rfl, take (by decide)⟩, ?_⟩
         refine Z_call (pf := F197) rfl rfl ?_
         simp only [bs] at zn hc
         simp [F197, he, zn, zt, zd, hc, hcd, eqS_iff, List.range_succ]
       · rw [if_neg c3] at hx
         by_cases c4 : y = bs [115, 101, 108, 102] \/ y = bs [111, 116, 104, 101, 114] \/ y = bs [116, 105, 99, 107]
         · rw [if_pos c4] at hx
           cases hx
           have y0 : y.size ≠ 0 := by rcases c4 with h | h | h <;> rw [h] <;> decide
           obtain ⟨c, hc, hcd⟩ := first y0
           have zd := digit_Z c
           refine ⟨takeS T s, _, ⟨rfl, take y0⟩, ?_⟩
           refine Z_call (pf := F197) rfl rfl ?_
           rcases c4 with h | h | h
           all_goals
             subst h
             simp only [bs] at zn hc
             simp [F197, he, zn, zt, zd, hc, hcd, bs, eqS_iff, List.range_succ]
         · rw [if_neg c4] at hx
           simp only [not_or] at c4
           have m2 : ¬ y = ⟨#[116, 114, 117, 101]⟩ := c2
           have m3 : ¬ y = ⟨#[102, 97, 108, 115, 101]⟩ := c3
           have m4 : ¬ y = ⟨#[115, 101, 108, 102]⟩ := c4.1
           have m5 : ¬ y = ⟨#[111, 116, 104, 101, 114]⟩ := c4.2.1
           have m6 : ¬ y = ⟨#[116, 105, 99, 107]⟩ := c4.2.2
           have zfi := fieldP_Z y
           have zre := reserved_Z y
           by_cases c5 : y ∈ fieldNames
           · rw [if_pos c5] at hx
             have y0 : y.size ≠ 0 := by
               simp only [fieldNames, List.mem_cons, List.not_mem_nil, or_false] at c5
               rcases c5 with h | h | h | h | h | h | h | h <;> rw [h] <;> decide
             have n40 : ¬ y = ⟨#[40]⟩ := field_ne' c5 (by decide)
             have n0 : ¬ y = ⟨#[]⟩ := field_ne' c5 (by decide)
             obtain ⟨c, hc, hcd⟩ := first y0
             have zd := digit_Z c
             cases hq : indexP 12 2 true n lv ts.tail with
             | none => rw [hq] at hx; cases hx
             | some z =>
               rw [hq] at hx
               obtain ⟨s2, d, hpost, hz⟩ := ihi lv _ _ z hlv (take y0) hq
               have fin : ∀ (k n' : Int) (y' : ByteArray) (ks : D), d = .dat (.agg [.lit (.int .i64 k), .lit (.int .i64 n'), .lit (.string y'), ks]) -> V.one (.dat ks) = true -> V.cells (.dat ks) = [.dat ks] ->
                   Z tR (.call 197 [.ptr 0 0, .int lv, .int ((8 : Nat))] [PO T s]) = some (.ret (.dat (.agg [.lit (.int .i64 11), .lit (.int .i64 0), .lit (.string y), .sl [.lit (.int .i64 k), .lit (.int .i64 n'), .lit (.string y'), ks] 1 true])) [PO T s2]) := by
                 intro k n' y' ks hd g1 g2
                 rw [hd] at hz
                 refine Z_call (pf := F197) rfl rfl ?_
                 simp [F197, he, zn, zt, zd, hc, hcd, zfi, c5, hz, g1, g2, n40, n0, n63, m2, m3, m4, m5, m6, eqS_iff, List.range_succ]
               cases z with
               | er a c =>
                 cases hx
                 obtain ⟨her, k, n', y', ks, rfl, g1, g2⟩ := hpost
                 exact ⟨s2, _, ⟨her, _, _, _, _, rfl, rfl, rfl⟩, fin k n' y' ks rfl g1 g2⟩
               | ok e r =>
                 obtain ⟨rfl, hg2⟩ := hpost
                 cases hx
                 exact ⟨s2, _, ⟨rfl, hg2⟩, fin e.kind e.num e.str e.kids rfl (by simp) (by simp)⟩
           · rw [if_neg c5] at hx
             by_cases c6 : startsB isLet y = true /\ y ∉ wordNames
             · rw [if_pos c6] at hx
               cases hx
               have y0 := name_sz c6.1
               obtain ⟨c, hc, hcd⟩ := first y0
               have zd := digit_Z c
               have zl := letter_Z c
               have hcl : isLet c = true := by simpa [startsB, hc] using c6.1
               have ny : ∀ z : ByteArray, startsB isLet z = false -> ¬ y = z := fun z hz e => by have := c6.1; rw [e, hz] at this; cases this
               have n40 := ny ⟨#[40]⟩ (by decide)
               have n0 := ny ⟨#[]⟩ (by decide)
               refine ⟨takeS T s, _, ⟨rfl, take y0⟩, ?_⟩
               refine Z_call (pf := F197) rfl rfl ?_
               simp [F197, he, zn, zt, zd, zl, hc, hcd, hcl, zfi, zre, c5, c6.2, n40, n0, n63, m2, m3, m4, m5, m6, eqS_iff, List.range_succ]
             · rw [if_neg c6] at hx
               by_cases c7 : y = bs [40]
               · -- parentheses
                 subst c7
                 have w1 := wrap64 ((lv : Int) + 1) (by omega)
                 have zo := open_Z hg.lt hw.len (bs [40]) (lv + 1)
                 have go := gd_open hw hg (x := bs [40]) (by decide) (by decide) (lv + 1)
                 have fin : ∀ (s1 s2 s3 : Ps) (k n' : Int) (y' : ByteArray) (ks : D), s1 = openS T (bs [40]) (lv + 1) s -> s3 = expectS T (bs [41]) s2 -> s2.i < T.length -> V.one (.dat ks) = true -> V.cells (.dat ks) = [.dat ks] ->
                     Z tR (.call 197 [.ptr 0 0, .int ((lv : Int) + 1), .int 1] [PO T s1]) = some (.ret (.dat (.agg [.lit (.int .i64 k), .lit (.int .i64 n'), .lit (.string y'), ks])) [PO T s2]) ->
                     Z tR (.call 197 [.ptr 0 0, .int lv, .int ((8 : Nat))] [PO T s]) = some (.ret (.dat (.agg [.lit (.int .i64 k), .lit (.int .i64 n'), .lit (.string y'), ks])) [PO T s3]) := by
                   intro s1 s2 s3 k n' y' ks h1 h3 hl g1 g2 hz
                   have ze := expect_Z hl hw.len (bs [41])
                   rw [<- h1] at zo
                   rw [<- h3] at ze
                   refine Z_call (pf := F197) rfl rfl ?_
                   simp only [bs] at zo ze zn
                   simp [F197, he, zn, zo, ze, hz, w1, g1, g2, eqS_iff, List.range_succ]
                 cases ho : openP 12 2 (bs [40]) (lv + 1) ts with
                 | er a c =>
                   rw [ho] at hx go
                   cases hx
                   obtain ⟨g1, g2⟩ := go
                   simp only [Int.natCast_add, Int.cast_ofNat_Int] at g1 g2
                   have hee := expr_E g1.lt g2 (lv + 1) 1
                   simp only [Int.natCast_add, Int.cast_ofNat_Int] at hee
                   obtain ⟨g3, g4⟩ := er_expect hw g1 (x := bs [41]) (by decide)
                   exact ⟨_, _, ⟨g3, ndD_zero⟩, fin _ _ _ 0 0 ⟨#[]⟩ _ rfl rfl g1.lt rfl rfl hee⟩
                 | ok u r =>
                   rw [ho] at hx go
                   simp only at hx go
                   simp only [Int.natCast_add, Int.cast_ofNat_Int] at go
                   have hlv' := openP_lv ho
                   cases hq : exprP 12 2 true n 1 (lv + 1) r with
                   | none => rw [hq] at hx; cases hx
                   | some z =>
                     rw [hq] at hx
                     obtain ⟨s2, d, hpost, hz⟩ := ihe 1 (lv + 1) _ r z (by omega) (by omega) hlv' go hq
                     simp only [Int.natCast_add, Int.cast_ofNat_Int] at hz
                     cases z with
                     | er a c =>
                       cases hx
                       obtain ⟨her, k, n', y', ks, rfl, g1, g2⟩ := hpost
                       obtain ⟨g3, g4⟩ := er_expect hw her (x := bs [41]) (by decide)
                       exact ⟨_, _, ⟨g3, _, _, _, _, rfl, g1, g2⟩, fin _ _ _ k n' y' ks rfl rfl her.lt g1 g2 hz⟩
                     | ok e r' =>
                       obtain ⟨rfl, hg2⟩ := hpost
                       have gx := gd_expect hw hg2 (x := bs [41]) (by decide) (by decide)
                       simp only at hx
                       have hf := fin _ s2 _ e.kind e.num e.str e.kids rfl rfl hg2.lt (by simp) (by simp) hz
                       cases hxp : expectP 12 (bs [41]) r' with
                       | er a c =>
                         rw [hxp] at hx gx
                         cases hx
                         exact ⟨_, _, ⟨gx.1, ndD_node e⟩, hf⟩
                       | ok u' r'' =>
                         rw [hxp] at hx gx
                         cases hx
                         exact ⟨_, _, ⟨rfl, gx⟩, hf⟩
               · -- nothing fits
                 have n40 : ¬ y = ⟨#[40]⟩ := c7
                 have hop : openP 12 2 (bs [40]) (lv + 1) ts = failP 12 ts := by
                   unfold openP
                   rw [if_neg (fun h => c7 (by rw [hn] at h; exact Option.some.inj h.1))]
                   obtain ⟨r, h1, _⟩ := gd_cons hg
                   rw [h1]
                   simp only [expectP]
                   rw [if_neg (fun h => c7 (b2 ▸ h.2))]
                 rw [hop, gd_fail hg 12] at hx
                 cases hx
                 have hf := fail_er hg (c := 12) (by decide)
                 have zf := fail_Z hg.lt 12
                 simp only [Int.cast_ofNat_Int] at zf
                 refine ⟨_, zeroN, ⟨hf, ndD_zero⟩, ?_⟩
                 refine Z_call (pf := F197) rfl rfl ?_
                 by_cases y0 : y = ⟨#[]⟩
                 · simp [F197, he, zn, zf, n40, y0, eqS_iff, List.range_succ]
                 · have ysz : y.size ≠ 0 := fun h => y0 (by rw [ByteArray.size_eq_zero_iff] at h; exact h)
                   obtain ⟨c, hc, hcd⟩ := first ysz
                   have zd := digit_Z c
                   have zl := letter_Z c
                   by_cases hcl : isLet c = true
                   · have hw6 : y ∈ wordNames := by
                       rcases Decidable.em (y ∈ wordNames) with h | h
                       · exact h
                       · exact absurd ⟨by simp [startsB, hc, hcl], h⟩ c6
                     simp [F197, he, zn, zf, zd, zl, hc, hcd, hcl, zfi, zre, c5, hw6, n40, y0, n63, m2, m3, m4, m5, m6, eqS_iff, List.range_succ]
                   · simp [F197, he, zn, zf, zd, zl, hc, hcd, hcl, zfi, c5, n40, y0, n63, m2, m3, m4, m5, m6, eqS_iff, List.range_succ]
theorem expr_step (hw : WfT T) {n : Nat} (ihe : ExprC T n) (ihi : IndC T n) (ihb : BinC T n) (ihb1 : BinC T (n + 1)) : ExprC T (n + 1) := by
 intro p lv s ts x h1 h8 hlv hg hx
 have hx0 := hx
 have he : decide (s.e = 0) = true := decide_eq_true hg.e
 have zn := next_Z hg.lt
 by_cases hp8 : p = 8
 · subst hp8; exact prim_step hw ihe ihi hlv hg hx
 have hp9 : p <= 7 := by omega
 rw [exprP] at hx
 -- a call of another function does it
 have via : ∀ (d : V) (s2 : Ps) (k n' : Int) (y' : ByteArray) (ks : D), d = .dat (.agg [.lit (.int .i64 k), .lit (.int .i64 n'), .lit (.string y'), ks]) -> V.one (.dat ks) = true -> V.cells (.dat ks) = [.dat ks] -> True := fun _ _ _ _ _ _ _ _ _ => trivial
 by_cases c1 : p = 3 /\ nx ts = some (ustr false) \/ p = 7 /\ nx ts = some (ustr true)
 · rw [if_pos c1] at hx
   have hp37 : p = 3 \/ p = 7 := by rcases c1 with h | h; exact .inl h.1; exact .inr h.1
   have hnx : nx ts = some (ustr (p == 7)) := by
     rcases c1 with ⟨rfl, h⟩ | ⟨rfl, h⟩ <;> exact h
   obtain ⟨b1, b2, b3⟩ := gd_some hg hnx
   rw [b3] at zn
   obtain ⟨s2, d, hpost, hz⟩ := un_step hw ihe hp37 hlv hg hx
   obtain ⟨_, k, n', y', ks, rfl, g1, g2⟩ := post_lt hpost
   refine ⟨s2, _, hpost, ?_⟩
   refine Z_call (pf := F197) rfl rfl ?_
   rcases hp37 with rfl | rfl
   · simp only [show ustr ((3 : Nat) == 7) = ⟨#[33]⟩ from rfl, Int.cast_ofNat_Int] at zn hz
     simp [F197, he, zn, hz, g1, g2, eqS_iff, List.range_succ]
   · simp only [show ustr ((7 : Nat) == 7) = ⟨#[45]⟩ from rfl, Int.cast_ofNat_Int] at zn hz
     simp [F197, he, zn, hz, g1, g2, eqS_iff, List.range_succ]
 · rw [if_neg c1, if_pos (by omega)] at hx
   -- the next text is not the prefix operator
   have hnot : (p = 3 -> ¬ nxR T s = ⟨#[33]⟩) /\ (p = 7 -> ¬ nxR T s = ⟨#[45]⟩) := by
     have key : ∀ x : ByteArray, x ≠ qS -> nx ts ≠ some x -> ¬ nxR T s = x := fun x hxq hne h => by
       cases hn : nx ts with
       | none => rw [(gd_none hg hn).2] at h; exact hxq h.symm
       | some y => rw [(gd_some hg hn).2.2] at h; exact hne (by rw [hn, h])
     exact ⟨fun h => key ⟨#[33]⟩ (by decide) (fun e => c1 (.inl ⟨h, e⟩)), fun h => key ⟨#[45]⟩ (by decide) (fun e => c1 (.inr ⟨h, e⟩))⟩
   by_cases hp7 : p = 7
   · subst hp7
     have m := hnot.2 rfl
     cases hq : exprP 12 2 true n 8 lv ts with
     | none => rw [hq] at hx; cases hx
     | some z =>
       rw [hq] at hx
       have hxz : z = x := by
         cases z with
         | er a c => exact Option.some.inj hx
         | ok e r =>
           simp only at hx
           cases n with
           | zero => simp [exprP] at hq
           | succ n =>
             rw [loopP] at hx
             cases hn : nx r with
             | none => rw [hn] at hx; exact Option.some.inj hx
             | some y => rw [hn] at hx; exact Option.some.inj hx
       subst hxz
       obtain ⟨s2, d, hpost, hz⟩ := ihe 8 lv s ts z (by omega) (by omega) hlv hg hq
       obtain ⟨_, k, n', y', ks, rfl, g1, g2⟩ := post_lt hpost
       refine ⟨s2, _, hpost, ?_⟩
       refine Z_call (pf := F197) rfl rfl ?_
       simp only [Int.cast_ofNat_Int] at hz
       simp [F197, he, zn, hz, g1, g2, m, eqS_iff, List.range_succ]
   · by_cases hp3 : p = 3
     · subst hp3
       have m := hnot.1 rfl
       cases hq : exprP 12 2 true n 4 lv ts with
       | none => rw [hq] at hx; cases hx
       | some z =>
         rw [hq] at hx
         have hxz : z = x := by
           cases z with
           | er a c => exact Option.some.inj hx
           | ok e r =>
             simp only at hx
             cases n with
             | zero => simp [exprP] at hq
             | succ n =>
               rw [loopP] at hx
               cases hn : nx r with
               | none => rw [hn] at hx; exact Option.some.inj hx
               | some y => rw [hn] at hx; exact Option.some.inj hx
         subst hxz
         obtain ⟨s2, d, hpost, hz⟩ := ihb 4 lv s ts z (.inr (.inr (.inl rfl))) hlv hg hq
         obtain ⟨_, k, n', y', ks, rfl, g1, g2⟩ := post_lt hpost
         refine ⟨s2, _, hpost, ?_⟩
         refine Z_call (pf := F197) rfl rfl ?_
         simp only [Int.cast_ofNat_Int] at hz
         simp [F197, he, zn, hz, g1, g2, m, eqS_iff, List.range_succ]
     · have hpb : PrecB p := by unfold PrecB; omega
       obtain ⟨s2, d, hpost, hz⟩ := ihb1 p lv s ts x hpb hlv hg hx0
       obtain ⟨_, k, n', y', ks, rfl, g1, g2⟩ := post_lt hpost
       refine ⟨s2, _, hpost, ?_⟩
       refine Z_call (pf := F197) rfl rfl ?_
       have p7 : (p : Int) < 7 := by omega
       have p3i : ¬ (p : Int) = 3 := by omega
       have p7i : ¬ (p : Int) = 7 := by omega
       simp [F197, he, zn, hz, g1, g2, p7, hp3, hp7, p3i, p7i, eqS_iff, List.range_succ]
theorem expr_all (hw : WfT T) : ∀ n, ExprC T n /\ LoopC T n /\ IndC T n /\ BinC T n
 | 0 => ⟨fun p lv s ts x _ _ _ _ hx => by simp [exprP] at hx, fun p lv s ts e x ex _ _ _ _ hx => by simp [loopP] at hx, fun lv s ts x _ _ hx => by simp [indexP] at hx, fun p lv s ts x _ _ _ hx => by simp [exprP] at hx⟩
 | n + 1 => by
   obtain ⟨ihe, ihl, ihi, ihb⟩ := expr_all hw n
   have hb := bin_step hw ihe ihl
   exact ⟨expr_step hw ihe ihi ihb hb, loop_step hw ihe ihl, ind_step hw ihe, hb⟩
end
end Go.Pm
end SJk
section SJl
namespace Go.Pm
open F
set_option maxHeartbeats 4000000
def PostS (T : List Tk) (x : Rz Ss) (d : V) (s' : Ps) : Prop := match x with
 | .ok b r => (∃ (k n : Int) (y : ByteArray) (f : Bool) (ks : Fo), b.fo = .cons k n y f ks .nil /\ d = nd k n y f ks) /\ Gd T s' r
 | .er a c => Er T s' a c /\ NdD d
def PostB (T : List Tk) (x : Rz Ss) (d : V) (s' : Ps) : Prop := match x with
 | .ok b r => d = nd 7 0 ⟨#[]⟩ false b.fo /\ Gd T s' r
 | .er a c => Er T s' a c /\ NdD d
def StmtC (T : List Tk) (n : Nat) : Prop := ∀ lv s ts x, 1 <= lv -> lv <= 20 -> Gd T s ts -> stmtP 12 2 true false false n lv ts = some x -> ∃ s' d, PostS T x d s' /\ Z tR (.call 173 [.ptr 0 0, .int (lv : Nat)] [PO T s]) = some (.ret d [PO T s'])
def BlockC (T : List Tk) (n : Nat) : Prop := ∀ lv s ts x, 1 <= lv -> lv <= 21 -> Gd T s ts -> blockP 12 2 true false false n lv ts = some x -> ∃ s' d, PostB T x d s' /\ Z tR (.call 155 [.ptr 0 0, .int (lv : Nat)] [PO T s]) = some (.ret d [PO T s'])
theorem ndD_nd (k n : Int) (s : ByteArray) (f : Bool) (ks : Fo) : NdD (nd k n s f ks) := ⟨_, _, _, _, rfl, by simp, by simp⟩
section
variable {T : List Tk}
theorem block_err (hw : WfT T) {lv : Nat} {s : Ps} {a c : Nat} (hlv : lv <= 100) (her : Er T s a c) : ErrR T 155 [.ptr 0 0, .int lv] s a c := by
 have zo := open_Z her.lt hw.len (bs [123]) lv
 obtain ⟨o1, o2⟩ := er_open hw her (x := bs [123]) (by decide) lv
 generalize openS T (bs [123]) lv s = s1 at zo o1 o2
 have ze := expect_Z o1.lt hw.len (bs [125])
 obtain ⟨e1, e2⟩ := er_expect hw o1 (x := bs [125]) (by decide)
 generalize expectS T (bs [125]) s1 = s2 at ze e1 e2
 have he : decide (s1.e = 0) = false := decide_eq_false o2
 have zl : Z tR (.loop 1 F155l0 [(0, .ptr 0 0), (1, .int lv), (4, .ptr 1 0), (5, .ptr 2 0)] [PO T s1, zob, .cells [.int 7, .int 0, .str ⟨#[]⟩, .dat (.lit (.slice none 0 0))]]) =
     some (.out (.exit 0) [(0, .ptr 0 0), (1, .int lv), (4, .ptr 1 0), (5, .ptr 2 0), (19, .bool false)] [PO T s1, zob, .cells [.int 7, .int 0, .str ⟨#[]⟩, .dat (.lit (.slice none 0 0))]]) := by
   rw [Z_loop_eq]
   simp [loopStep, run_F155l0, he, List.range_succ]
 refine ⟨s2, _, ⟨7, 0, ⟨#[]⟩, .lit (.slice none 0 0), rfl, rfl, rfl⟩, e1, e2, ?_⟩
 refine Z_call (pf := F155) rfl rfl ?_
 simp only [bs] at zo ze
 simp [F155, zo, ze, zl, List.range_succ]
theorem expr_good (hw : WfT T) {n lv : Nat} {s : Ps} {ts : List Tk} {z : Rz E} (hlv : lv <= 20) (hg : Gd T s ts) (hz : exprP 12 2 true n 1 lv ts = some z) :
   ∃ s' k n' y ks, Post T z (.dat (.agg [.lit (.int .i64 k), .lit (.int .i64 n'), .lit (.string y), ks])) s' /\ V.one (.dat ks) = true /\ V.cells (.dat ks) = [.dat ks] /\
     Z tR (.call 197 [.ptr 0 0, .int lv, .int 1] [PO T s]) = some (.ret (.dat (.agg [.lit (.int .i64 k), .lit (.int .i64 n'), .lit (.string y), ks])) [PO T s']) := by
 obtain ⟨s', d, h1, h2⟩ := (expr_all hw n).1 1 lv s ts z (by omega) (by omega) hlv hg hz
 obtain ⟨_, k, n', y, ks, rfl, g1, g2⟩ := post_lt h1
 exact ⟨s', k, n', y, ks, h1, g1, g2, h2⟩
theorem expr_bad (hw : WfT T) {lv : Nat} {s : Ps} {a c : Nat} (hlv : lv <= 20) (her : Er T s a c) :
   ∃ s' k n' y ks, (Er T s' a c /\ s'.e ≠ 0) /\ V.one (.dat ks) = true /\ V.cells (.dat ks) = [.dat ks] /\
     Z tR (.call 197 [.ptr 0 0, .int lv, .int 1] [PO T s]) = some (.ret (.dat (.agg [.lit (.int .i64 k), .lit (.int .i64 n'), .lit (.string y), ks])) [PO T s']) := by
 obtain ⟨s', d, hd, h1, h2, h3⟩ := expr_err hw (lv := lv) (by omega) 7 1 (by omega) (by omega) her
 obtain ⟨k, n', y, ks, rfl, g1, g2⟩ := hd
 exact ⟨s', k, n', y, ks, ⟨h1, h2⟩, g1, g2, h3⟩
theorem closed_post (hw : WfT T) {s s' : Ps} {ts : List Tk} {b : Ss} (hg : Gd T s ts) {k n : Int} {y : ByteArray} {f : Bool} {ks : Fo} (hb : b.fo = .cons k n y f ks .nil) (hs : s' = expectS T (bs [59]) s) :
   PostS T (closedP 12 b ts) (nd k n y f ks) s' := by
 have gx := gd_expect hw hg (x := bs [59]) (by decide) (by decide)
 unfold closedP
 subst hs
 cases hxp : expectP 12 (bs [59]) ts with
 | er a c => rw [hxp] at gx; exact ⟨gx.1, ndD_nd ..⟩
 | ok u r => rw [hxp] at gx; exact ⟨⟨k, n, y, f, ks, hb, rfl⟩, gx⟩
theorem closed_er (hw : WfT T) {s s' : Ps} {a c : Nat} (her : Er T s a c) (hs : s' = expectS T (bs [59]) s) : Er T s' a c := by
 subst hs; exact (er_expect hw her (by decide)).1
end
end Go.Pm
end SJl
