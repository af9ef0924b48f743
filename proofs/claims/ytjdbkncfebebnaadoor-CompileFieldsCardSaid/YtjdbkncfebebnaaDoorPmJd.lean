/- Chapter 13's reference parser: all tokens of a source. Chapter 13's reference parser: the parser's state; what it looks at, takes, expects. Chapter 13's reference parser: its states, good and behind an error, against the plain tokens. Chapter 13's reference parser: expressions behind an error; the loop of operators. -/
import Derived.Test.YtjdbkncfebebnaaDoorPmJa
import Derived.Test.YtjdbkncfebebnaaDoorPmYa
set_option linter.unusedSimpArgs false
set_option linter.unusedVariables false
section SJd
namespace Go.Pm
open F
set_option maxHeartbeats 4000000
def tkC : List Tk -> List D
 | [] => []
 | t :: r => .lit (.int .i64 t.at_) :: .lit (.string t.s) :: .lit (.int .i64 t.bad) :: tkC r
theorem tkC_app (a b : List Tk) : tkC (a ++ b) = tkC a ++ tkC b := by
 induction a with
 | nil => rfl
 | cons t a ih => simp [tkC, ih]
theorem tkC_len (a : List Tk) : (tkC a).length = a.length * 3 := by
 induction a with
 | nil => rfl
 | cons t a ih => simp [tkC, ih]; omega
theorem tkC_drop : ∀ (T : List Tk) (i : Nat), (tkC T).drop (i * 3) = tkC (T.drop i)
 | [], i => by simp [tkC]
 | t :: T, 0 => by simp
 | t :: T, i + 1 => by
   rw [show (i + 1) * 3 = i * 3 + 3 by omega]
   simp only [tkC, List.drop_succ_cons]
   exact tkC_drop T i
theorem tkC_cut {T : List Tk} {i : Nat} (h : i < T.length) : cutCells (tkC T) (i * 3) 3 = some [.lit (.int .i64 T[i].at_), .lit (.string T[i].s), .lit (.int .i64 T[i].bad)] := by
 unfold cutCells
 rw [tkC_drop, List.drop_eq_getElem_cons h]
 simp [tkC]
def RowTk (v : V) (σ : S) (T : List Tk) : Prop := (T = [] /\ v = .dat (.lit (.slice none 0 0)) /\ σ = []) \/ (T ≠ [] /\ v = .gsl (tkC T) T.length 3 0 /\ σ = [.tip (tkC T).length])
def allT (s : ByteArray) : Nat -> Nat -> List Tk
 | 0, _ => []
 | n + 1, i => if i < s.size then tokAt 12 2 6 s i :: allT s n (i + (tokAt 12 2 6 s i).s.size + skipL false ((byl s).drop (i + (tokAt 12 2 6 s i).s.size))) else []
theorem tokL_pos (eS eL eR : Nat) (c : UInt8) (r : List UInt8) : 1 <= (tokL eS eL eR (c :: r)).1.length /\ (tokL eS eL eR (c :: r)).1.length <= r.length + 1 := by
 have h1 := runL_le wordB (c :: r)
 have h2 := runL_le isDig (c :: r)
 simp only [tokL]
 split
 · rename_i h
   have hw : wordB c = true := by simp [wordB, h]
   have : 1 <= runL wordB (c :: r) := by simp only [runL, hw, if_true]; omega
   simp only [List.length_take, List.length_cons] at h1 ⊢
   omega
 split
 · rename_i h
   have : 1 <= runL isDig (c :: r) := by simp only [runL, h, if_true]; omega
   simp only [List.length_take, List.length_cons] at h2 ⊢
   omega
 split
 · rename_i h
   have := pairs_size h
   rw [bs_size] at this
   simp only [List.length_take, List.length_cons] at this ⊢
   omega
 split <;> simp
theorem tokAt_pos {s : ByteArray} {i : Nat} (hi : i < s.size) (eS eL eR : Nat) : 1 <= (tokAt eS eL eR s i).s.size /\ i + (tokAt eS eL eR s i).s.size <= s.size := by
 obtain ⟨c, h1, h2⟩ := at_lt hi
 have hd := drop_at h2
 rw [tokAt_eq]
 simp only [bs_size]
 rw [hd]
 have := tokL_pos eS eL eR c ((byl s).drop (i + 1))
 rw [List.length_drop, byl_len] at this
 omega
theorem next_le {s : ByteArray} {j : Nat} (hj : j <= s.size) : j + skipL false ((byl s).drop j) <= s.size := by
 have := skipL_le ((byl s).drop j) false
 rw [List.length_drop, byl_len] at this
 omega
theorem toks_loop (s : ByteArray) (hl : s.size < 2 ^ 30) : ∀ (n i : Nat) (T : List Tk) (v : V) (σ : S), s.size - i <= n -> i <= s.size -> T.length <= i -> RowTk v σ T ->
   ∃ v' σ', RowTk v' σ' (T ++ allT s n i) /\ (T ++ allT s n i).length <= s.size /\ Z tR (.loop 0 F149l0 [(0, .str s), (3, v), (4, .int i)] σ) = some (.out (.exit 0) [(0, .str s), (3, v'), (4, .int s.size), (11, .bool false)] σ')
 | n, i, T, v, σ, hn, hi, hT, hr => by
   by_cases hend : i = s.size
   · subst hend
     have hall : allT s n s.size = [] := by cases n <;> simp [allT]
     refine ⟨v, σ, by rw [hall, List.append_nil]; exact hr, by rw [hall, List.append_nil]; exact hT, ?_⟩
     rw [Z_loop_eq]
     rcases hr with ⟨rfl, rfl, rfl⟩ | ⟨_, rfl, rfl⟩ <;> simp [loopStep, run_F149l0, V.len]
   · cases n with
     | zero => omega
     | succ n =>
       have hlt : i < s.size := by omega
       have hlt' : (i : Int) < s.size := by omega
       obtain ⟨p1, p2⟩ := tokAt_pos hlt 12 2 6
       have zt := token_Z s (by omega) hlt
       have htat : (tokAt 12 2 6 s i).at_ = i := by rw [tokAt_eq]
       have hall : allT s (n + 1) i = tokAt 12 2 6 s i :: allT s n (i + (tokAt 12 2 6 s i).s.size + skipL false ((byl s).drop (i + (tokAt 12 2 6 s i).s.size))) := by simp only [allT]; rw [if_pos hlt]
       rw [hall]
       generalize tokAt 12 2 6 s i = t at *
       have zs := skip_Z s (by omega) (i := i + t.s.size) p2
       have hle := next_le p2
       obtain ⟨j, hj⟩ : ∃ j, j = i + t.s.size + skipL false ((byl s).drop (i + t.s.size)) := ⟨_, rfl⟩
       rw [<- hj] at zs hle ⊢
       have hij : i + 1 <= j := by omega
       have w1 := wrap64 ((i : Int) + t.s.size) (by omega)
       simp only [Int.natCast_add] at zs
       have hroom : roomFor (T.length + 1) 32 = true := by simp only [roomFor, decide_eq_true_eq]; omega
       have hr1 : roomFor 1 32 = true := by decide
       obtain ⟨v', σ', g1, g2, g3⟩ := toks_loop s hl n j (T ++ [t]) (.gsl (tkC (T ++ [t])) (T ++ [t]).length 3 0) [.tip (tkC (T ++ [t])).length] (by omega) hle (by simp; omega) (.inr ⟨by simp, rfl, rfl⟩)
       rw [List.append_assoc] at g1 g2
       refine ⟨v', σ', g1, g2, ?_⟩
       rw [<- g3, Z_loop_eq]
       have e1 : tkC (T ++ [t]) = tkC T ++ [.lit (.int .i64 t.at_), .lit (.string t.s), .lit (.int .i64 t.bad)] := by rw [tkC_app]; rfl
       have e2 : (tkC (T ++ [t])).length = (tkC T).length + 3 := by rw [e1]; simp
       have e3 : (tkC T).length = T.length * 3 := tkC_len T
       have e4 : (T ++ [t]).length = T.length + 1 := by simp
       rcases hr with ⟨rfl, rfl, rfl⟩ | ⟨hne, rfl, rfl⟩
       · simp [loopStep, run_F149l0, V.len, hlt', zt, zs, w1, appendV, srcV, hr1, tkC, List.range_succ]
         exact Z_loop_cong (by simp [List.range_succ])
       · rw [e1, e4]
         simp [loopStep, run_F149l0, V.len, hlt', zt, zs, w1, appendV, srcV, hroom, e3, List.range_succ]
         exact Z_loop_cong (by simp [List.range_succ])
def refT (s : ByteArray) : List Tk := allT s (s.size + 1) (skipL false (byl s)) ++ [⟨s.size, ⟨#[]⟩, 0⟩]
theorem tokens_Z (s : ByteArray) (hl : s.size < 2 ^ 30) : Z tR (.call 149 [.str s] []) = some (.ret (.dat (.sl (tkC (refT s)) (refT s).length false)) []) /\ (refT s).length <= s.size + 1 := by
 have zs := skip_Z s (by omega) (i := 0) (Nat.zero_le _)
 have hle := next_le (s := s) (j := 0) (Nat.zero_le _)
 simp only [List.drop_zero, Nat.zero_add, Int.natCast_zero] at zs hle
 obtain ⟨v', σ', g1, g2, g3⟩ := toks_loop s hl (s.size + 1) (skipL false (byl s)) [] (.dat (.lit (.slice none 0 0))) [] (by omega) hle (Nat.zero_le _) (.inl ⟨rfl, rfl, rfl⟩)
 rw [List.nil_append] at g1 g2
 have hlen : (refT s).length = (allT s (s.size + 1) (skipL false (byl s))).length + 1 := by simp [refT]
 refine ⟨?_, by omega⟩
 refine Z_call (pf := F149) rfl rfl ?_
 unfold refT at *
 generalize allT s (s.size + 1) (skipL false (byl s)) = T at *
 have e1 : tkC (T ++ [⟨s.size, ⟨#[]⟩, 0⟩]) = tkC T ++ [.lit (.int .i64 s.size), .lit (.string ⟨#[]⟩), .lit (.int .i64 0)] := by rw [tkC_app]; rfl
 have e3 : (tkC T).length = T.length * 3 := tkC_len T
 have hroom : roomFor (T.length + 1) 32 = true := by simp only [roomFor, decide_eq_true_eq]; omega
 have hr1 : roomFor 1 32 = true := by decide
 rcases g1 with ⟨rfl, rfl, rfl⟩ | ⟨hne, rfl, rfl⟩
 · simp [F149, V.len, zs, g3, appendV, srcV, hr1, tkC, List.range_succ]
 · rw [e1, hlen]
   simp [F149, V.len, zs, g3, appendV, srcV, hroom, e3, List.range_succ]
def cutT : List Tk -> List Tk
 | [] => []
 | t :: r => if t.bad ≠ 0 \/ t.s.size = 0 then [t] else t :: cutT r
theorem cut_all (s : ByteArray) : ∀ (n m i : Nat), i <= s.size -> s.size - i < n -> s.size - i < m -> cutT (allT s m (i + skipL false ((byl s).drop i)) ++ [⟨s.size, ⟨#[]⟩, 0⟩]) = toksN 12 2 6 s n i
 | 0, m, i, _, h, _ => by omega
 | n + 1, 0, i, _, _, h => by omega
 | n + 1, m + 1, i, hi, h1, h2 => by
   have hle := next_le hi
   have hsk : skipN s (s.size - i) false i = i + skipL false ((byl s).drop i) := skipN_eq s _ false i (Nat.le_refl _)
   simp only [toksN, hsk]
   generalize hj : i + skipL false ((byl s).drop i) = j at *
   simp only [allT]
   by_cases hlt : j < s.size
   · obtain ⟨p1, p2⟩ := tokAt_pos hlt 12 2 6
     have htat : (tokAt 12 2 6 s j).at_ = j := by rw [tokAt_eq]
     rw [if_pos hlt, List.cons_append, cutT, htat]
     split
     · rfl
     · rw [cut_all s n m (j + (tokAt 12 2 6 s j).s.size) p2 (by omega) (by omega)]
   · obtain rfl : j = s.size := by omega
     have hd : (byl s).drop s.size = [] := List.drop_eq_nil_of_le (by rw [byl_len]; exact Nat.le_refl _)
     have ht : tokAt 12 2 6 s s.size = ⟨s.size, ⟨#[]⟩, 0⟩ := by rw [tokAt_eq, hd]; rfl
     rw [if_neg hlt, ht]
     rw [List.nil_append, cutT, if_pos (.inr rfl), if_pos (.inr rfl)]
theorem cut_refT (s : ByteArray) : cutT (refT s) = toksN 12 2 6 s (s.size + 1) 0 := by
 have := cut_all s (s.size + 1) (s.size + 1) 0 (Nat.zero_le _) (by omega) (by omega)
 rw [List.drop_zero, Nat.zero_add] at this
 exact this
end Go.Pm
end SJd
section SJe
namespace Go.Pm
open F
set_option maxHeartbeats 4000000
structure Ps where
 i : Nat
 a : Nat
 e : Nat
abbrev PO (T : List Tk) (s : Ps) : Ob := .cells [.dat (.sl (tkC T) T.length false), .int s.i, .int s.a, .int s.e]
def tkAt (T : List Tk) (i : Nat) : Tk := T.getD i ⟨0, ⟨#[]⟩, 0⟩
theorem tkAt_eq {T : List Tk} {i : Nat} (h : i < T.length) : T[i] = tkAt T i := by simp [tkAt, List.getD_eq_getElem?_getD, h]
theorem tk_at (T : List Tk) {i : Nat} (h : i < T.length) : sliceAddr 3 (.dat (.sl (tkC T) T.length false)) (i : Int) = some (.dat (.imm (tkC T) (i * 3))) := by
 have : (i : Int) < T.length := by omega
 simp [sliceAddr, h]
theorem tk_cut {T : List Tk} {i : Nat} (h : i < T.length) : cutCells (tkC T) (i * 3) 3 = some [.lit (.int .i64 (tkAt T i).at_), .lit (.string (tkAt T i).s), .lit (.int .i64 (tkAt T i).bad)] := by
 rw [tkC_cut h, tkAt_eq h]
theorem tk_drop {T : List Tk} {i : Nat} (h : i < T.length) : (tkC T).drop (i * 3) = .lit (.int .i64 (tkAt T i).at_) :: .lit (.string (tkAt T i).s) :: .lit (.int .i64 (tkAt T i).bad) :: tkC (T.drop (i + 1)) := by
 rw [tkC_drop, List.drop_eq_getElem_cons h, tkAt_eq h]; rfl
theorem tk_cut0 {T : List Tk} {i : Nat} (h : i < T.length) : cutCells (tkC T) (i * 3) 1 = some [.lit (.int .i64 (tkAt T i).at_)] := by
 unfold cutCells
 rw [tk_drop h]; simp
theorem tk_cut1 {T : List Tk} {i : Nat} (h : i < T.length) : cutCells (tkC T) (i * 3 + 1) 1 = some [.lit (.string (tkAt T i).s)] := by
 unfold cutCells
 rw [<- List.drop_drop, tk_drop h]; simp
theorem tk_cut2 {T : List Tk} {i : Nat} (h : i < T.length) : cutCells (tkC T) (i * 3 + 2) 1 = some [.lit (.int .i64 (tkAt T i).bad)] := by
 unfold cutCells
 rw [<- List.drop_drop, tk_drop h]; simp
def qS : ByteArray := bs [63]
def nxR (T : List Tk) (s : Ps) : ByteArray := if (tkAt T s.i).bad = 0 then (tkAt T s.i).s else qS
def failS (T : List Tk) (c : Nat) (s : Ps) : Ps := if s.e ≠ 0 then s else ⟨s.i, (tkAt T s.i).at_, if (tkAt T s.i).bad ≠ 0 then (tkAt T s.i).bad else c⟩
def takeS (T : List Tk) (s : Ps) : Ps := if s.i + 1 < T.length then { s with i := s.i + 1 } else s
def expectS (T : List Tk) (x : ByteArray) (s : Ps) : Ps :=
 let s1 := if s.e = 0 /\ nxR T s ≠ x then failS T 12 s else s
 if s1.e = 0 then takeS T s1 else s1
def openS (T : List Tk) (x : ByteArray) (lv : Int) (s : Ps) : Ps :=
 expectS T x (if s.e = 0 /\ nxR T s = x /\ 20 < lv then failS T 2 s else s)
section
variable {T : List Tk} {s : Ps}
theorem next_Z (h : s.i < T.length) : Z tR (.call 151 [.ptr 0 0] [PO T s]) = some (.ret (.str (nxR T s)) [PO T s]) := by
 refine Z_call (pf := F151) rfl rfl ?_
 have h1 := tk_at T h
 have h2 := tk_cut h
 unfold nxR
 by_cases hb : (tkAt T s.i).bad = 0
 · simp [F151, h1, h2, hb, calm, alone, List.range_succ]
 · have hb' : ¬ ((tkAt T s.i).bad : Int) = 0 := by omega
   simp [F151, h1, h2, hb, hb', qS, bs, calm, alone, List.range_succ]
theorem fail_Z (h : s.i < T.length) (c : Nat) : Z tR (.call 153 [.ptr 0 0, .int c] [PO T s]) = some (.ret (.tup []) [PO T (failS T c s)]) := by
 refine Z_call (pf := F153) rfl rfl ?_
 have h1 := tk_at T h
 have h2 := tk_cut h
 have h3 := tk_cut0 h
 have h4 := tk_cut1 h
 have h5 := tk_cut2 h
 unfold failS
 by_cases he : s.e = 0
 · by_cases hb : (tkAt T s.i).bad = 0
   · simp [F153, h1, h2, h3, h4, h5, he, hb, calm, alone, List.range_succ]
   · have hb' : ¬ ((tkAt T s.i).bad : Int) = 0 := by omega
     simp [F153, h1, h2, h3, h4, h5, he, hb, hb', calm, alone, List.range_succ]
 · have he' : ¬ (s.e : Int) = 0 := by omega
   simp [F153, he, he', List.range_succ]
theorem take_Z (h : s.i < T.length) (hT : T.length < 2 ^ 40) : Z tR (.call 154 [.ptr 0 0] [PO T s]) = some (.ret (.tup []) [PO T (takeS T s)]) := by
 refine Z_call (pf := F154) rfl rfl ?_
 have w1 := wrap64 ((s.i : Int) + 1) (by omega)
 unfold takeS
 by_cases hi : s.i + 1 < T.length
 · have hi' : (s.i : Int) + 1 < T.length := by omega
   simp [F154, w1, hi, hi', V.len, calm, alone, List.range_succ]
 · have hi' : ¬ (s.i : Int) + 1 < T.length := by omega
   simp [F154, w1, hi, hi', V.len, calm, alone, List.range_succ]
theorem failS_i (c : Nat) : (failS T c s).i = s.i := by unfold failS; split <;> rfl
theorem takeS_lt (h : s.i < T.length) : (takeS T s).i < T.length := by unfold takeS; split <;> simp_all
theorem expect_Z (h : s.i < T.length) (hT : T.length < 2 ^ 40) (x : ByteArray) : Z tR (.call 150 [.ptr 0 0, .str x] [PO T s]) = some (.ret (.tup []) [PO T (expectS T x s)]) := by
 refine Z_call (pf := F150) rfl rfl ?_
 have zn := next_Z h
 have zf := fail_Z h 12
 have zt := take_Z h hT
 simp only [Int.cast_ofNat_Int] at zf
 unfold expectS
 by_cases he0 : s.e = 0
 · have he : decide (s.e = 0) = true := decide_eq_true he0
   by_cases hx : nxR T s = x
   · have e1 : (if s.e = 0 /\ nxR T s ≠ x then failS T 12 s else s) = s := by simp [hx]
     rw [e1, if_pos he0]
     simp [F150, zn, zt, he, hx, eqS_iff, List.range_succ]
   · have zt2 := take_Z (s := failS T 12 s) (T := T) (by rw [failS_i]; exact h) hT
     have e1 : (if s.e = 0 /\ nxR T s ≠ x then failS T 12 s else s) = failS T 12 s := by simp [hx, he0]
     rw [e1]
     by_cases he2 : (failS T 12 s).e = 0
     · have he2' : decide ((failS T 12 s).e = 0) = true := decide_eq_true he2
       rw [if_pos he2]
       simp [F150, zn, zf, zt2, he, he2', hx, eqS_iff, List.range_succ]
     · have he2' : decide ((failS T 12 s).e = 0) = false := decide_eq_false he2
       rw [if_neg he2]
       simp [F150, zn, zf, zt2, he, he2', hx, eqS_iff, List.range_succ]
 · have he : decide (s.e = 0) = false := decide_eq_false he0
   have e1 : (if s.e = 0 /\ nxR T s ≠ x then failS T 12 s else s) = s := by simp [he0]
   rw [e1, if_neg he0]
   simp [F150, he, List.range_succ]
theorem open_Z (h : s.i < T.length) (hT : T.length < 2 ^ 40) (x : ByteArray) (lv : Int) : Z tR (.call 172 [.ptr 0 0, .str x, .int lv] [PO T s]) = some (.ret (.tup []) [PO T (openS T x lv s)]) := by
 refine Z_call (pf := F172) rfl rfl ?_
 have zn := next_Z h
 have zf := fail_Z h 2
 simp only [Int.cast_ofNat_Int] at zf
 have ze := expect_Z h hT x
 have ze2 := expect_Z (s := failS T 2 s) (T := T) (by rw [failS_i]; exact h) hT x
 unfold openS
 by_cases he0 : s.e = 0
 · have he : decide (s.e = 0) = true := decide_eq_true he0
   by_cases hx : nxR T s = x
   · by_cases hl : 20 < lv
     · rw [if_pos ⟨he0, hx, hl⟩]
       simp [F172, zn, zf, ze2, he, hx, hl, eqS_iff, List.range_succ]
     · rw [if_neg (fun h => hl h.2.2)]
       simp [F172, zn, ze, he, hx, hl, eqS_iff, List.range_succ]
   · rw [if_neg (fun h => hx h.2.1)]
     simp [F172, zn, ze, he, hx, eqS_iff, List.range_succ]
 · have he : decide (s.e = 0) = false := decide_eq_false he0
   rw [if_neg (fun h => he0 h.1)]
   simp [F172, ze, he, List.range_succ]
end
end Go.Pm
end SJe
section SJf
namespace Go.Pm
open F
structure TokP (t : Tk) : Prop where
 q : t.bad = 0 -> t.s ≠ qS
 dig : t.bad = 0 -> startsB isDig t.s = true -> (∀ c ∈ t.s.data.toList, isDig c = true) /\ digV t.s.data.toList <= 2147483647 /\ t.s.size < 2 ^ 40
structure WfT (T : List Tk) : Prop where
 len : T.length < 2 ^ 40
 tok : ∀ t ∈ T, TokP t
 pos : ∀ i, i + 1 < T.length -> (tkAt T i).s.size ≠ 0
 last : ∀ i, i + 1 = T.length -> (tkAt T i).s = ⟨#[]⟩ /\ (tkAt T i).bad = 0
structure Gd (T : List Tk) (s : Ps) (ts : List Tk) : Prop where
 e : s.e = 0
 a : s.a = 0
 lt : s.i < T.length
 ts : cutT (T.drop s.i) = ts
structure Er (T : List Tk) (s : Ps) (p c : Nat) : Prop where
 lt : s.i < T.length
 c0 : c ≠ 0
 or : (s.e = c /\ s.a = p) \/ (s.e = 0 /\ (tkAt T s.i).bad = c /\ (tkAt T s.i).at_ = p)
section
variable {T : List Tk} {s : Ps} {ts : List Tk}
theorem gd_cons (h : Gd T s ts) : ∃ r, ts = tkAt T s.i :: r /\ ((tkAt T s.i).bad = 0 -> (tkAt T s.i).s.size ≠ 0 -> r = cutT (T.drop (s.i + 1))) := by
 have h1 := h.ts
 rw [List.drop_eq_getElem_cons h.lt, tkAt_eq h.lt, cutT] at h1
 split at h1
 · rename_i hc
   refine ⟨[], h1.symm, fun hb hs => ?_⟩
   rcases hc with hc | hc
   · exact absurd hb hc
   · exact absurd hc hs
 · exact ⟨_, h1.symm, fun _ _ => rfl⟩
theorem gd_nx (h : Gd T s ts) : nx ts = if (tkAt T s.i).bad = 0 then some (tkAt T s.i).s else none := by
 obtain ⟨r, h1, _⟩ := gd_cons h
 rw [h1]; rfl
theorem gd_some (h : Gd T s ts) {x : ByteArray} (hx : nx ts = some x) : (tkAt T s.i).bad = 0 /\ (tkAt T s.i).s = x /\ nxR T s = x := by
 rw [gd_nx h] at hx
 split at hx
 · rename_i hb
   cases hx
   exact ⟨hb, rfl, by simp [nxR, hb]⟩
 · cases hx
theorem gd_none (h : Gd T s ts) (hx : nx ts = none) : (tkAt T s.i).bad ≠ 0 /\ nxR T s = qS := by
 rw [gd_nx h] at hx
 split at hx
 · cases hx
 · rename_i hb
   exact ⟨hb, by simp [nxR, hb]⟩
theorem gd_fail {α : Type} (h : Gd T s ts) (c : Nat) : failP (α := α) c ts = .er (tkAt T s.i).at_ (if (tkAt T s.i).bad = 0 then c else (tkAt T s.i).bad) := by
 obtain ⟨r, h1, _⟩ := gd_cons h
 rw [h1]; rfl
theorem fail_er (h : Gd T s ts) {c : Nat} (hc : c ≠ 0) : Er T (failS T c s) (tkAt T s.i).at_ (if (tkAt T s.i).bad = 0 then c else (tkAt T s.i).bad) := by
 have e : failS T c s = ⟨s.i, (tkAt T s.i).at_, if (tkAt T s.i).bad ≠ 0 then (tkAt T s.i).bad else c⟩ := by simp [failS, h.e]
 rw [e]
 refine ⟨h.lt, by split <;> assumption, .inl ⟨?_, rfl⟩⟩
 simp only
 by_cases hb : (tkAt T s.i).bad = 0 <;> simp [hb]
theorem tk_mem {i : Nat} (h : i < T.length) : tkAt T i ∈ T := by rw [<- tkAt_eq h]; exact List.getElem_mem h
theorem gd_take (hw : WfT T) (h : Gd T s ts) {x : ByteArray} (hx : nx ts = some x) (h0 : x.size ≠ 0) : Gd T (takeS T s) ts.tail := by
 obtain ⟨h1, h2, h3⟩ := gd_some h hx
 obtain ⟨r, h4, h5⟩ := gd_cons h
 have hlt : s.i + 1 < T.length := by
   rcases Nat.lt_or_ge (s.i + 1) T.length with h' | h'
   · exact h'
   · have := (hw.last s.i (by have := h.lt; omega)).1
     rw [h2] at this
     rw [this] at h0
     exact absurd rfl h0
 have e : takeS T s = { s with i := s.i + 1 } := by simp [takeS, hlt]
 rw [e, h4]
 exact ⟨h.e, h.a, hlt, (h5 h1 (by rw [h2]; exact h0)).symm⟩
theorem er_nx (hw : WfT T) {p c : Nat} (h : Er T s p c) (he : s.e = 0) : nxR T s = qS := by
 rcases h.or with ⟨h1, _⟩ | ⟨_, h2, _⟩
 · rw [he] at h1; exact absurd h1.symm h.c0
 · have : (tkAt T s.i).bad ≠ 0 := by rw [h2]; exact h.c0
   simp [nxR, this]
theorem er_fail {p c k : Nat} (h : Er T s p c) : Er T (failS T k s) p c /\ (failS T k s).e ≠ 0 := by
 unfold failS
 rcases h.or with ⟨h1, h2⟩ | ⟨h1, h2, h3⟩
 · have : s.e ≠ 0 := by rw [h1]; exact h.c0
   rw [if_pos this]
   exact ⟨h, this⟩
 · rw [if_neg (by simp [h1])]
   have hb : (tkAt T s.i).bad ≠ 0 := by rw [h2]; exact h.c0
   rw [if_pos hb]
   exact ⟨⟨h.lt, h.c0, .inl ⟨h2, h3⟩⟩, hb⟩
theorem er_expect (hw : WfT T) {p c : Nat} (h : Er T s p c) {x : ByteArray} (hx : x ≠ qS) : Er T (expectS T x s) p c /\ (expectS T x s).e ≠ 0 := by
 unfold expectS
 by_cases he : s.e = 0
 · have hn := er_nx hw h he
   have e : (if s.e = 0 /\ nxR T s ≠ x then failS T 12 s else s) = failS T 12 s := if_pos ⟨he, by rw [hn]; exact Ne.symm hx⟩
   obtain ⟨h1, h2⟩ := er_fail (k := 12) h
   simp only [e]
   rw [if_neg h2]
   exact ⟨h1, h2⟩
 · have e : (if s.e = 0 /\ nxR T s ≠ x then failS T 12 s else s) = s := by simp [he]
   simp only [e]
   rw [if_neg he]
   exact ⟨h, he⟩
theorem er_open (hw : WfT T) {p c : Nat} (h : Er T s p c) {x : ByteArray} (hx : x ≠ qS) (lv : Int) : Er T (openS T x lv s) p c /\ (openS T x lv s).e ≠ 0 := by
 unfold openS
 by_cases hc : s.e = 0 /\ nxR T s = x /\ 20 < lv
 · rw [if_pos hc]
   exact er_expect hw (er_fail h).1 hx
 · rw [if_neg hc]
   exact er_expect hw h hx
theorem gd_expect (hw : WfT T) (h : Gd T s ts) {x : ByteArray} (hx : x ≠ qS) (h0 : x.size ≠ 0) : match expectP 12 x ts with
   | .ok _ r => Gd T (expectS T x s) r
   | .er p c => Er T (expectS T x s) p c /\ (expectS T x s).e ≠ 0 := by
 obtain ⟨r, h1, h2⟩ := gd_cons h
 by_cases hc : (tkAt T s.i).bad = 0 /\ (tkAt T s.i).s = x
 · have hn : nx ts = some x := by rw [gd_nx h, if_pos hc.1, hc.2]
   have hR := (gd_some h hn).2.2
   have e : expectS T x s = takeS T s := by simp [expectS, hR, h.e]
   have ep : expectP 12 x ts = .ok () ts.tail := by rw [h1]; simp [expectP, hc]
   rw [ep, e]
   exact gd_take hw h hn h0
 · have hR : nxR T s ≠ x := by
     unfold nxR
     split
     · rename_i hb; exact fun e => hc ⟨hb, e⟩
     · exact Ne.symm hx
   have ep : expectP 12 x ts = failP 12 ts := by rw [h1]; simp only [expectP]; rw [if_neg hc]
   rw [ep, gd_fail h 12]
   have hf := fail_er h (c := 12) (by decide)
   have hf0 : (failS T 12 s).e ≠ 0 := by
     rcases hf.or with ⟨q1, _⟩ | ⟨q1, _⟩
     · rw [q1]; exact hf.c0
     · exfalso
       have : (failS T 12 s).e ≠ 0 := by
         simp only [failS, h.e]
         split
         · rename_i q; exact absurd rfl q
         · simp only; split <;> first | assumption | decide
       exact this q1
   have e : expectS T x s = failS T 12 s := by
     have e1 : (if s.e = 0 /\ nxR T s ≠ x then failS T 12 s else s) = failS T 12 s := if_pos ⟨h.e, hR⟩
     simp only [expectS, e1]
     rw [if_neg hf0]
   rw [e]
   exact ⟨hf, hf0⟩
theorem gd_open (hw : WfT T) (h : Gd T s ts) {x : ByteArray} (hx : x ≠ qS) (h0 : x.size ≠ 0) (lv : Nat) : match openP 12 2 x lv ts with
   | .ok _ r => Gd T (openS T x lv s) r
   | .er p c => Er T (openS T x lv s) p c /\ (openS T x lv s).e ≠ 0 := by
 unfold openP openS
 by_cases hc : nx ts = some x /\ 20 < lv
 · obtain ⟨q1, q2, q3⟩ := gd_some h hc.1
   rw [if_pos hc, if_pos ⟨h.e, q3, by omega⟩, gd_fail h 2]
   have hf := fail_er h (c := 2) (by decide)
   exact er_expect hw hf hx
 · have hn : ¬ (s.e = 0 /\ nxR T s = x /\ (20 : Int) < lv) := by
     rintro ⟨_, q2, q3⟩
     refine hc ⟨?_, by omega⟩
     rw [gd_nx h]
     unfold nxR at q2
     split at q2
     · rename_i hb; rw [if_pos hb, q2]
     · exact absurd q2.symm hx
   rw [if_neg hc, if_neg hn]
   exact gd_expect hw h hx h0
end
end Go.Pm
end SJf
section SJg
namespace Go.Pm
open F
set_option maxHeartbeats 4000000
def NdD (d : V) : Prop := ∃ (k n : Int) (s : ByteArray) (ks : D), d = .dat (.agg [.lit (.int .i64 k), .lit (.int .i64 n), .lit (.string s), ks]) /\ V.one (.dat ks) = true /\ V.cells (.dat ks) = [.dat ks]
theorem ndD_node (e : E) : NdD e.node := ⟨_, _, _, _, rfl, by simp, by simp⟩
theorem ndD_zero : NdD zeroN := ⟨_, _, _, _, rfl, rfl, rfl⟩
abbrev zob : Ob := .cells [.int 0, .int 0, .str ⟨#[]⟩, .dat (.lit (.slice none 0 0))]
abbrev sr1 : D := .sl [.lit (.string ⟨#[124, 124]⟩)] 1 true
abbrev sr2 : D := .sl [.lit (.string ⟨#[38, 38]⟩)] 1 true
abbrev sr4 : D := .sl [.lit (.string ⟨#[60]⟩), .lit (.string ⟨#[60, 61]⟩), .lit (.string ⟨#[62]⟩), .lit (.string ⟨#[62, 61]⟩), .lit (.string ⟨#[61, 61]⟩), .lit (.string ⟨#[33, 61]⟩)] 6 true
abbrev sr5 : D := .sl [.lit (.string ⟨#[43]⟩), .lit (.string ⟨#[45]⟩)] 2 true
abbrev sr6 : D := .sl [.lit (.string ⟨#[42]⟩), .lit (.string ⟨#[47]⟩)] 2 true
abbrev opsC : List D := [.lit (.slice none 0 0), sr1, sr2, .lit (.slice none 0 0), sr4, sr5, sr6]
abbrev opsD : D := .sl opsC 7 true
def opsR : Nat -> D
 | 1 => sr1 | 2 => sr2 | 4 => sr4 | 5 => sr5 | 6 => sr6 | _ => .lit (.slice none 0 0)
def PrecB (p : Nat) : Prop := p = 1 \/ p = 2 \/ p = 4 \/ p = 5 \/ p = 6
theorem ops_at {p : Nat} (hp : PrecB p) : sliceAddr 1 (.dat opsD) (p : Int) = some (.dat (.imm opsC p)) /\ cutCells opsC p 1 = some [opsR p] := by
 rcases hp with rfl | rfl | rfl | rfl | rfl <;> exact ⟨rfl, rfl⟩
theorem ops_Z {p : Nat} (hp : PrecB p) (x : ByteArray) : Z tR (.call 196 [.dat (opsR p), .str x] []) = some (.ret (.bool (opAt p x).isSome) []) := by
 have key : ∀ l : List Bop, (l.find? fun o => decide (o.str = x)).isSome = decide (x ∈ l.map Bop.str) := fun l => by
   rw [Bool.eq_iff_iff, List.find?_isSome]
   simp only [decide_eq_true_eq, List.mem_map]
 rcases hp with rfl | rfl | rfl | rfl | rfl
 · exact (hasP_Z (rowS_sl ([Bop.or].map Bop.str) true) (by decide) x).trans (by rw [<- key]; rfl)
 · exact (hasP_Z (rowS_sl ([Bop.and].map Bop.str) true) (by decide) x).trans (by rw [<- key]; rfl)
 · exact (hasP_Z (rowS_sl ([Bop.lt, .le, .gt, .ge, .eq, .ne].map Bop.str) true) (by decide) x).trans (by rw [<- key]; rfl)
 · exact (hasP_Z (rowS_sl ([Bop.add, .sub].map Bop.str) true) (by decide) x).trans (by rw [<- key]; rfl)
 · exact (hasP_Z (rowS_sl ([Bop.mul, .div].map Bop.str) true) (by decide) x).trans (by rw [<- key]; rfl)
theorem opAt_q (p : Nat) : opAt p qS = none := by
 unfold opAt
 rw [List.find?_eq_none]
 intro o _
 cases o <;> decide
abbrev bpFr (lv p : Nat) (ex : Fr) : Fr := (0, .ptr 0 0) :: (1, .int lv) :: (2, .int p) :: (6, .ptr 1 0) :: (7, .dat opsD) :: (8, .ptr 2 0) :: ex
section
variable {T : List Tk} {s : Ps} {lv p : Nat}
theorem bin_end (h : s.i < T.length) (hp : PrecB p) (hend : s.e ≠ 0 \/ opAt p (nxR T s) = none) {ex : Fr} (hex : ex = [] \/ ex = [(51, .bool false)]) (k n : Int) (x : ByteArray) {ks : D} (h1 : V.one (.dat ks) = true) (h2 : V.cells (.dat ks) = [.dat ks]) :
   ∃ b, Z tR (.loop 1 F203l0 (bpFr lv p ex) [PO T s, zob, .cells [.int k, .int n, .str x, .dat ks]]) = some (.out (.exit 0) (bpFr lv p [(35, .bool b)]) [PO T s, zob, .cells [.int k, .int n, .str x, .dat ks]]) := by
 refine ⟨false, ?_⟩
 have zn := next_Z h
 rw [Z_loop_eq]
 by_cases he0 : s.e = 0
 · have he : decide (s.e = 0) = true := decide_eq_true he0
   have ho : opAt p (nxR T s) = none := hend.resolve_left (fun h => h he0)
   have zo := ops_Z hp (nxR T s)
   rw [ho] at zo
   obtain ⟨q1, q2⟩ := ops_at hp
   rcases hex with rfl | rfl <;> simp [loopStep, run_F203l0, he, zn, zo, q1, q2, calm, alone, List.range_succ]
 · have he : decide (s.e = 0) = false := decide_eq_false he0
   rcases hex with rfl | rfl <;> simp [loopStep, run_F203l0, he, calm, alone, List.range_succ]
theorem expr_E (h : s.i < T.length) (he : s.e ≠ 0) (lv p : Nat) : Z tR (.call 197 [.ptr 0 0, .int lv, .int p] [PO T s]) = some (.ret zeroN [PO T s]) := by
 refine Z_call (pf := F197) rfl rfl ?_
 have he' : decide (s.e = 0) = false := decide_eq_false he
 simp [F197, he', List.range_succ]
def ErrR (T : List Tk) (f : Nat) (args : List V) (s : Ps) (p c : Nat) : Prop := ∃ s' d, NdD d /\ Er T s' p c /\ s'.e ≠ 0 /\ Z tR (.call f args [PO T s]) = some (.ret d [PO T s'])
theorem bin_err {a c : Nat} (hp : PrecB p) (hlv : lv <= 100) (hx : ErrR T 197 [.ptr 0 0, .int lv, .int ((p + 1 : Nat))] s a c) : ErrR T 203 [.ptr 0 0, .int lv, .int p] s a c := by
 obtain ⟨s', d, hd, her, hne, hz⟩ := hx
 obtain ⟨k, n, x, ks, rfl, h1, h2⟩ := hd
 have hp9 : p <= 6 := by rcases hp with rfl | rfl | rfl | rfl | rfl <;> omega
 have w1 := wrap64 ((p : Int) + 1) (by omega)
 obtain ⟨b, zl⟩ := bin_end (lv := lv) her.lt hp (.inl hne) (.inl rfl) k n x h1 h2
 refine ⟨s', _, ⟨k, n, x, ks, rfl, h1, h2⟩, her, hne, ?_⟩
 refine Z_call (pf := F203) rfl rfl ?_
 simp only [Int.natCast_add, Int.cast_ofNat_Int] at hz
 simp [F203, hz, w1, zl, h1, h2, List.range_succ]
theorem expr_err {a c : Nat} (hw : WfT T) (hlv : lv <= 100) : ∀ (k p : Nat), p + k = 8 -> 1 <= p -> Er T s a c -> ErrR T 197 [.ptr 0 0, .int lv, .int p] s a c
 | k, p, hk, h1, her => by
   by_cases he : s.e = 0
   · have hn := er_nx hw her he
     have zn := next_Z her.lt
     rw [hn] at zn
     have zf := fail_Z her.lt 12
     obtain ⟨f1, f2⟩ := er_fail (k := 12) her
     have he' : decide (s.e = 0) = true := decide_eq_true he
     simp only [Int.cast_ofNat_Int] at zf
     simp only [qS, bs] at zn
     cases k with
     | zero =>
       obtain rfl : p = 8 := by omega
       refine ⟨_, zeroN, ndD_zero, f1, f2, ?_⟩
       refine Z_call (pf := F197) rfl rfl ?_
       simp [F197, he', zn, zf, eqS_iff, List.range_succ]
     | succ k =>
       by_cases hp7 : p = 7
       · subst hp7
         obtain ⟨s', d, hd, her', hne, hz⟩ := expr_err hw hlv k 8 (by omega) (by omega) her
         obtain ⟨k', n', x', ks, rfl, g1, g2⟩ := hd
         refine ⟨s', _, ⟨k', n', x', ks, rfl, g1, g2⟩, her', hne, ?_⟩
         refine Z_call (pf := F197) rfl rfl ?_
         simp only [Int.cast_ofNat_Int] at hz
         simp [F197, he', zn, hz, g1, g2, eqS_iff, List.range_succ]
       · by_cases hp3 : p = 3
         · subst hp3
           obtain ⟨s', d, hd, her', hne, hz⟩ := bin_err (p := 4) (.inr (.inr (.inl rfl))) hlv (expr_err hw hlv (k - 1) 5 (by omega) (by omega) her)
           obtain ⟨k', n', x', ks, rfl, g1, g2⟩ := hd
           refine ⟨s', _, ⟨k', n', x', ks, rfl, g1, g2⟩, her', hne, ?_⟩
           refine Z_call (pf := F197) rfl rfl ?_
           simp only [Int.cast_ofNat_Int] at hz
           simp [F197, he', zn, hz, g1, g2, eqS_iff, List.range_succ]
         · have hpb : PrecB p := by unfold PrecB; omega
           obtain ⟨s', d, hd, her', hne, hz⟩ := bin_err hpb hlv (expr_err hw hlv k (p + 1) (by omega) (by omega) her)
           obtain ⟨k', n', x', ks, rfl, g1, g2⟩ := hd
           refine ⟨s', _, ⟨k', n', x', ks, rfl, g1, g2⟩, her', hne, ?_⟩
           refine Z_call (pf := F197) rfl rfl ?_
           have p7 : (p : Int) < 7 := by omega
           have p3 : ¬ p = 3 := hp3
           have p7' : ¬ p = 7 := hp7
           have p3i : ¬ (p : Int) = 3 := by omega
           have p7i : ¬ (p : Int) = 7 := by omega
           simp [F197, he', zn, hz, g1, g2, p7, p3, p7', p3i, p7i, eqS_iff, List.range_succ]
   · exact ⟨s, zeroN, ndD_zero, her, he, expr_E her.lt he lv p⟩
end
end Go.Pm
end SJg
