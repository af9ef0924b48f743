/- Chapter 13's reference parser: letters, digits, rows of strings, numbers. Chapter 13's reference parser: white space, comments. Chapter 13's reference parser: a token. -/
import Derived.Test.YtjdbkncfebebnaaDoorPmYa
import Derived.Test.YtjdbkncfebebnaaDoorPmTb14
set_option linter.unusedSimpArgs false
set_option linter.unusedVariables false
section SJa
namespace Go.Pm
open F
set_option maxHeartbeats 2000000
theorem letter_Z (c : UInt8) : Z tR (.call 192 [.dat (.lit (.int .u8 c.toNat))] []) = some (.ret (.bool (isLet c)) []) := by
 refine Z_call (pf := F192) rfl rfl ?_
 by_cases h1 : (97 : Int) <= c.toNat
 · have h1' : 97 <= c.toNat := by omega
   by_cases h2 : (c.toNat : Int) <= 122
   · have h2' : c.toNat <= 122 := by omega
     simp [F192, isLet, h1, h1', h2, h2']
   · have h2' : ¬ c.toNat <= 122 := by omega
     simp [F192, isLet, h1, h1', h2, h2']
 · have h1' : ¬ 97 <= c.toNat := by omega
   simp [F192, isLet, h1, h1']
theorem digit_Z (c : UInt8) : Z tR (.call 193 [.dat (.lit (.int .u8 c.toNat))] []) = some (.ret (.bool (isDig c)) []) := by
 refine Z_call (pf := F193) rfl rfl ?_
 by_cases h1 : (48 : Int) <= c.toNat
 · have h1' : 48 <= c.toNat := by omega
   by_cases h2 : (c.toNat : Int) <= 57
   · have h2' : c.toNat <= 57 := by omega
     simp [F193, isDig, h1, h1', h2, h2']
   · have h2' : ¬ c.toNat <= 57 := by omega
     simp [F193, isDig, h1, h1', h2, h2']
 · have h1' : ¬ 48 <= c.toNat := by omega
   simp [F193, isDig, h1, h1']
structure RowS (d : D) (l : List ByteArray) : Prop where
 len : ∀ σ, V.len σ .sl (.dat d) = some l.length
 at_ : ∀ i : Nat, i < l.length -> sliceAddr 1 (.dat d) i = some (.dat (.imm (strC l) i))
 one : V.one (.dat d) = true
 cells : V.cells (.dat d) = [.dat d]
theorem rowS_sl (l : List ByteArray) (f : Bool) : RowS (.sl (strC l) l.length f) l where
 len _ := rfl
 at_ i h := by simp [sliceAddr, h]
 one := rfl
 cells := rfl
theorem hasP_loop {d : D} {l : List ByteArray} (hd : RowS d l) (hl : l.length < 2 ^ 40) (s : ByteArray) : ∀ (m i : Nat), i + m = l.length ->
   Z tR (.loop 0 F196l0 [(0, .dat d), (1, .str s), (5, .int i)] []) = some (if s ∈ l.drop i then .out .ret [(4, .bool true)] [] else .out (.exit 0) [(0, .dat d), (1, .str s), (5, .int l.length), (9, .bool false)] [])
 | 0, i, hi => by
   have ho := hd.one
   have hc := hd.cells
   have hn := hd.len
   rw [Z_loop_eq]
   obtain rfl : i = l.length := by omega
   simp [loopStep, run_F196l0, ho, hc, hn]
 | m + 1, i, hi => by
   have ho := hd.one
   have hc := hd.cells
   have hn := hd.len
   have hil : i < l.length := by omega
   have a := hd.at_ i hil
   have c := cut_strC l i hil
   have w1 := wrap64 ((i : Int) + 1) (by omega)
   have hlt : (i : Int) < l.length := by omega
   have hdrop : l.drop i = l[i] :: l.drop (i + 1) := List.drop_eq_getElem_cons hil
   rw [Z_loop_eq]
   by_cases he : l[i] = s
   · have hmem : s ∈ l.drop i := by rw [hdrop, he]; exact List.mem_cons_self ..
     rw [if_pos hmem]
     simp [loopStep, run_F196l0, ho, hc, hn, a, c, w1, hlt, eqS_iff, he]
   · have hmem : (s ∈ l.drop i) = (s ∈ l.drop (i + 1)) := by
       rw [hdrop, List.mem_cons]
       simp [Ne.symm he]
     have ih := hasP_loop hd hl s m (i + 1) (by omega)
     simp only [Int.natCast_add, Int.cast_ofNat_Int] at ih
     simp [loopStep, run_F196l0, ho, hc, hn, a, c, w1, hlt, eqS_iff, he, ih, hmem]
theorem hasP_Z {d : D} {l : List ByteArray} (hd : RowS d l) (hl : l.length < 2 ^ 40) (s : ByteArray) : Z tR (.call 196 [.dat d, .str s] []) = some (.ret (.bool (decide (s ∈ l))) []) := by
 refine Z_call (pf := F196) rfl rfl ?_
 have ho := hd.one
 have hc := hd.cells
 have z := hasP_loop hd hl s l.length 0 (by omega)
 simp only [Int.natCast_zero, List.drop_zero] at z
 by_cases h : s ∈ l
 · simp [F196, ho, hc, z, h]
 · simp [F196, ho, hc, z, h]
theorem fieldP_Z (s : ByteArray) : Z tR (.call 198 [.str s] []) = some (.ret (.bool (decide (s ∈ fieldNames))) []) := by
 refine Z_call (pf := F198) rfl rfl ?_
 have z := hasP_Z (rowS_sl fieldNames true) (by decide) s
 simp only [fieldNames, strC, List.map_cons, List.map_nil, List.length_cons, List.length_nil, bs, hitS, stillS] at z
 simp [F198, z, fieldNames, bs, hitS, stillS, List.range_succ]
theorem reserved_Z (s : ByteArray) : Z tR (.call 194 [.str s] []) = some (.ret (.bool (decide (s ∈ fieldNames \/ s ∈ wordNames))) []) := by
 refine Z_call (pf := F194) rfl rfl ?_
 have z1 := fieldP_Z s
 have z := hasP_Z (rowS_sl wordNames true) (by decide) s
 simp only [wordNames, strC, List.map_cons, List.map_nil, List.length_cons, List.length_nil, bs, hitS] at z
 by_cases h : s ∈ fieldNames
 · simp [F194, z1, h, List.range_succ]
 · simp [F194, z1, h, z, wordNames, bs, hitS, List.range_succ]
theorem at_list (s : ByteArray) (i : Nat) : s[i]? = s.data.toList[i]? := by
 by_cases h : i < s.size
 · rw [getElem?_pos s i h, List.getElem?_eq_getElem (by rw [Array.length_toList]; exact h)]
   simp [ByteArray.getElem_eq_getElem_data]
 · rw [getElem?_neg s i h, List.getElem?_eq_none (by rw [Array.length_toList]; exact Nat.not_lt.1 h)]
theorem at_lt {s : ByteArray} {i : Nat} (h : i < s.size) : ∃ c, s[i]? = some c /\ s.data.toList[i]? = some c := by
 refine ⟨s.data.toList[i]'(by rw [Array.length_toList]; exact h), ?_, List.getElem?_eq_getElem _⟩
 rw [at_list]
 exact List.getElem?_eq_getElem _
theorem digV_snoc (l : List UInt8) (c : UInt8) : digV (l ++ [c]) = 10 * digV l + (c.toNat - 48) := by simp [digV]
theorem fold_ge : ∀ (r : List UInt8) (v : Nat), v <= r.foldl (fun v c => 10 * v + (c.toNat - 48)) v
 | [], v => Nat.le_refl v
 | c :: r, v => Nat.le_trans (by omega) (fold_ge r (10 * v + (c.toNat - 48)))
theorem digV_mono (l r : List UInt8) : digV l <= digV (l ++ r) := by
 unfold digV
 rw [List.foldl_append]
 exact fold_ge r _
theorem value_loop {s : ByteArray} (hs : ∀ c ∈ s.data.toList, isDig c = true) (hl : s.size < 2 ^ 40) : ∀ (m i : Nat), i + m = s.size -> digV (s.data.toList.take i) <= 2147483647 ->
   Z tR (.loop 0 F195l0 [(0, .str s), (3, .int (digV (s.data.toList.take i))), (4, .int i)] []) =
     some (if 2147483647 < digV s.data.toList then .out .ret [(2, .int (-1))] [] else .out (.exit 0) [(0, .str s), (3, .int (digV s.data.toList)), (4, .int s.size), (8, .bool false)] [])
 | 0, i, hi, hn => by
   obtain rfl : i = s.size := by omega
   have ht : s.data.toList.take s.size = s.data.toList := List.take_of_length_le (by rw [Array.length_toList]; exact Nat.le_refl _)
   rw [ht] at hn ⊢
   rw [if_neg (by omega), Z_loop_eq]
   simp [loopStep, run_F195l0, V.len]
 | m + 1, i, hi, hn => by
   have hil : i < s.size := by omega
   obtain ⟨c, h1, h2⟩ := at_lt hil
   have hc := hs c (List.mem_of_getElem? h2)
   simp only [isDig, Bool.and_eq_true, decide_eq_true_eq] at hc
   have ht : s.data.toList.take (i + 1) = s.data.toList.take i ++ [c] := by
     rw [List.take_add_one, h2]; rfl
   have hsn : digV (s.data.toList.take (i + 1)) = 10 * digV (s.data.toList.take i) + (c.toNat - 48) := by rw [ht, digV_snoc]
   have hlt : (i : Int) < s.size := by omega
   have w1 := wrap64 ((i : Int) + 1) (by omega)
   have w2 := wrap64 (10 * (digV (s.data.toList.take i) : Int)) (by omega)
   have w3 := wrap64 (c.toNat : Int) (by omega)
   have w4 := wrap64 (10 * (digV (s.data.toList.take i) : Int) + c.toNat) (by omega)
   have w5 : IntKind.i64.wrap (10 * (digV (s.data.toList.take i) : Int) + c.toNat - 48) = (digV (s.data.toList.take (i + 1)) : Int) := by
     rw [wrap64 _ (by omega), hsn]; omega
   rw [Z_loop_eq]
   by_cases hbig : 2147483647 < digV (s.data.toList.take (i + 1))
   · have hall : 2147483647 < digV s.data.toList := by
       have := digV_mono (s.data.toList.take (i + 1)) (s.data.toList.drop (i + 1))
       rw [List.take_append_drop] at this
       omega
     have hb : ¬ (digV (s.data.toList.take (i + 1)) : Int) <= 2147483647 := by omega
     have hb' : (2147483647 : Int) < digV (s.data.toList.take (i + 1)) := by omega
     rw [if_pos hall]
     simp [loopStep, run_F195l0, V.len, h1, hlt, w1, w2, w3, w4, w5, hb, hb', convV]
   · have hb : ¬ (2147483647 : Int) < digV (s.data.toList.take (i + 1)) := by omega
     have ih := value_loop hs hl m (i + 1) (by omega) (by omega)
     simp only [Int.natCast_add, Int.cast_ofNat_Int] at ih
     simp [loopStep, run_F195l0, V.len, h1, hlt, w1, w2, w3, w4, w5, hb, ih, convV]
def valV (l : List UInt8) : Int := if 2147483647 < digV l then -1 else digV l
theorem value_Z {s : ByteArray} (hs : ∀ c ∈ s.data.toList, isDig c = true) (hl : s.size < 2 ^ 40) : Z tR (.call 195 [.str s] []) = some (.ret (.int (valV s.data.toList)) []) := by
 refine Z_call (pf := F195) rfl rfl ?_
 have z := value_loop hs hl s.size 0 (by omega) (by simp [digV])
 simp only [List.take_zero, Int.natCast_zero, show digV [] = 0 from rfl] at z
 unfold valV
 by_cases h : 2147483647 < digV s.data.toList
 · simp [F195, z, h]
 · simp [F195, z, h]
end Go.Pm
end SJa
section SJb
namespace Go.Pm
open F
set_option maxHeartbeats 2000000
def cmtL : List UInt8 -> Nat
 | [] => 0
 | b :: r => if b.toNat = 10 then 0 else cmtL r + 1
theorem cmtL_le : ∀ l, cmtL l <= l.length
 | [] => by simp [cmtL]
 | b :: r => by
   have := cmtL_le r
   simp only [cmtL, List.length_cons]
   split <;> omega
theorem skipL_true : ∀ l : List UInt8, skipL true l = cmtL l + skipL false (l.drop (cmtL l))
 | [] => by simp [skipL, cmtL]
 | b :: r => by
   have ih := skipL_true r
   simp only [cmtL]
   by_cases h : b.toNat = 10
   · simp [skipL, h]
   · rw [if_neg h, List.drop_succ_cons]
     simp only [skipL, if_neg h, true_or, if_true, ih]
     omega
theorem skipL_cmt {b : UInt8} {r : List UInt8} (h : b.toNat = 35) : skipL false (b :: r) = cmtL (b :: r) + skipL false ((b :: r).drop (cmtL (b :: r))) := by
 have h10 : ¬ b.toNat = 10 := by omega
 simp only [cmtL, if_neg h10, List.drop_succ_cons]
 simp only [skipL, if_neg h10, if_pos h, skipL_true r]
 have : ¬ (false = true \/ b.toNat = 32 \/ b.toNat = 9) := by
   rintro (h | h | h)
   · cases h
   · omega
   · omega
 rw [if_neg this]
 omega
theorem drop_at {s : ByteArray} {i : Nat} {c : UInt8} (h : s.data.toList[i]? = some c) : (byl s).drop i = c :: (byl s).drop (i + 1) := by
 have hi := (List.getElem?_eq_some_iff.1 h)
 obtain ⟨h1, h2⟩ := hi
 rw [<- h2]
 exact List.drop_eq_getElem_cons h1
theorem cmt_loop (s : ByteArray) (hl : s.size < 2 ^ 40) : ∀ (m i : Nat) (ex : Fr), i + m = s.size -> (ex = [] \/ ex = [(12, .bool true)]) ->
   Z tR (.loop 0 F170l1 ((0, .str s) :: (1, .int i) :: ex) []) = some (.out (.exit 2) [(0, .str s), (1, .int ((i + cmtL ((byl s).drop i) : Nat))), (22, .bool false)] [])
 | 0, i, ex, hi, hex => by
   obtain rfl : i = s.size := by omega
   have hd : (byl s).drop s.size = [] := List.drop_eq_nil_of_le (by rw [byl_len]; exact Nat.le_refl _)
   rw [Z_loop_eq, hd]
   rcases hex with rfl | rfl <;> simp [loopStep, run_F170l1, V.len, cmtL]
 | m + 1, i, ex, hi, hex => by
   obtain ⟨c, h1, h2⟩ := at_lt (s := s) (i := i) (by omega)
   have hd := drop_at h2
   have hlt : (i : Int) < s.size := by omega
   have w1 := wrap64 ((i : Int) + 1) (by omega)
   rw [Z_loop_eq, hd]
   by_cases h : c.toNat = 10
   · rcases hex with rfl | rfl <;> simp [loopStep, run_F170l1, V.len, cmtL, h1, hlt, h]
   · have h' : ¬ (c.toNat : Int) = 10 := by omega
     have ih := cmt_loop s hl m (i + 1) [] (by omega) (.inl rfl)
     simp only [Int.natCast_add, Int.cast_ofNat_Int] at ih
     rcases hex with rfl | rfl
     all_goals
       simp [loopStep, run_F170l1, V.len, cmtL, h1, hlt, h, h', w1, ih]
       omega
theorem skip_loop (s : ByteArray) (hl : s.size < 2 ^ 40) : ∀ (m i : Nat) (ex : Fr), s.size - i <= m -> i <= s.size -> (ex = [] \/ ex = [(22, .bool false)]) ->
   ∃ t v, Z tR (.loop 0 F170l0 ((0, .str s) :: (1, .int i) :: ex) []) = some (.out (.exit 0) [(0, .str s), (1, .int ((i + skipL false ((byl s).drop i) : Nat))), (t, .bool v)] [])
 | m, i, ex, hm, hi, hex => by
   by_cases hend : i = s.size
   · subst hend
     have hd : (byl s).drop s.size = [] := List.drop_eq_nil_of_le (by rw [byl_len]; exact Nat.le_refl _)
     refine ⟨8, false, ?_⟩
     rw [Z_loop_eq, hd]
     rcases hex with rfl | rfl <;> simp [loopStep, run_F170l0, V.len, skipL]
   · cases m with
     | zero => omega
     | succ m =>
       obtain ⟨c, h1, h2⟩ := at_lt (s := s) (i := i) (by omega)
       have hd := drop_at h2
       have hlt : (i : Int) < s.size := by omega
       have w1 := wrap64 ((i : Int) + 1) (by omega)
       by_cases h35 : c.toNat = 35
       · have zc := cmt_loop s hl (s.size - i) i [(12, .bool true)] (by omega) (.inr rfl)
         have hle := cmtL_le ((byl s).drop i)
         rw [List.length_drop, byl_len] at hle
         have hpos : 0 < cmtL ((byl s).drop i) := by
           rw [hd]; simp only [cmtL]; rw [if_neg (by omega)]; omega
         obtain ⟨t, v, ih⟩ := skip_loop s hl m (i + cmtL ((byl s).drop i)) [(22, .bool false)] (by omega) (by omega) (.inr rfl)
         refine ⟨t, v, ?_⟩
         have hsk : skipL false ((byl s).drop i) = cmtL ((byl s).drop i) + skipL false ((byl s).drop (i + cmtL ((byl s).drop i))) := by
           rw [<- List.drop_drop, hd]
           exact skipL_cmt h35
         rw [hsk, <- Nat.add_assoc, <- ih, Z_loop_eq]
         generalize cmtL ((byl s).drop i) = q at zc
         rcases hex with rfl | rfl <;> simp [loopStep, run_F170l0, V.len, h1, hlt, h35, zc]
       · have h35' : ¬ (c.toNat : Int) = 35 := by omega
         by_cases hw : c.toNat = 32 \/ c.toNat = 9 \/ c.toNat = 10
         · obtain ⟨t, v, ih⟩ := skip_loop s hl m (i + 1) [] (by omega) (by omega) (.inl rfl)
           refine ⟨t, v, ?_⟩
           have hsk : skipL false ((byl s).drop i) = 1 + skipL false ((byl s).drop (i + 1)) := by
             rw [hd]
             simp only [skipL]
             rcases hw with h | h | h
             · simp [h]; omega
             · simp [h]; omega
             · simp [h]; omega
           rw [hsk, <- Nat.add_assoc, <- ih, Z_loop_eq]
           rcases hw with h | h | h <;> rcases hex with rfl | rfl <;> simp [loopStep, run_F170l0, V.len, h1, hlt, h, w1]
         · simp only [not_or] at hw
           have h32 : ¬ (c.toNat : Int) = 32 := by omega
           have h9 : ¬ (c.toNat : Int) = 9 := by omega
           have h10 : ¬ (c.toNat : Int) = 10 := by omega
           have hsk : skipL false ((byl s).drop i) = 0 := by
             rw [hd]
             simp only [skipL]
             simp [hw.1, hw.2.1, hw.2.2, h35]
           refine ⟨40, true, ?_⟩
           rw [hsk, Z_loop_eq]
           rcases hex with rfl | rfl <;> simp [loopStep, run_F170l0, V.len, h1, hlt, h35', h32, h9, h10]
theorem skip_Z (s : ByteArray) (hl : s.size < 2 ^ 40) {i : Nat} (hi : i <= s.size) : Z tR (.call 170 [.str s, .int i] []) = some (.ret (.int ((i + skipL false ((byl s).drop i) : Nat))) []) := by
 refine Z_call (pf := F170) rfl rfl ?_
 obtain ⟨t, v, z⟩ := skip_loop s hl (s.size - i) i [] (Nat.le_refl _) hi (.inl rfl)
 simp [F170, z]
end Go.Pm
end SJb
section SJc
namespace Go.Pm
open F
set_option maxHeartbeats 4000000
abbrev tk0 : Ob := .cells [.int 0, .str ⟨#[]⟩, .int 0]
theorem word_loop (s : ByteArray) (hl : s.size < 2 ^ 40) (a : Int) : ∀ (m i : Nat) (ex : Fr), i + m = s.size -> (ex = [] \/ ex = [(19, .bool true)]) ->
   ∃ t v, Z tR (.loop 0 F171l0 ((0, .str s) :: (1, .int a) :: (4, .ptr 0 0) :: (5, .int i) :: ex) [tk0]) = some (.out (.exit 0) [(0, .str s), (1, .int a), (4, .ptr 0 0), (5, .int ((i + runL wordB ((byl s).drop i) : Nat))), (t, .bool v)] [tk0])
 | 0, i, ex, hi, hex => by
   obtain rfl : i = s.size := by omega
   have hd : (byl s).drop s.size = [] := List.drop_eq_nil_of_le (by rw [byl_len]; exact Nat.le_refl _)
   refine ⟨35, false, ?_⟩
   rw [Z_loop_eq, hd]
   rcases hex with rfl | rfl <;> simp [loopStep, run_F171l0, V.len, runL, List.range_succ]
 | m + 1, i, ex, hi, hex => by
   obtain ⟨c, h1, h2⟩ := at_lt (s := s) (i := i) (by omega)
   have hd := drop_at h2
   have hlt : (i : Int) < s.size := by omega
   have w1 := wrap64 ((i : Int) + 1) (by omega)
   have zl := letter_Z c
   have zd := digit_Z c
   obtain ⟨t, v, ih⟩ := word_loop s hl a m (i + 1) [] (by omega) (.inl rfl)
   simp only [Int.natCast_add, Int.cast_ofNat_Int] at ih
   by_cases hc : wordB c = true
   · refine ⟨t, v, ?_⟩
     have e : (i : Int) + ((runL wordB ((byl s).drop (i + 1)) : Int) + 1) = i + 1 + runL wordB ((byl s).drop (i + 1)) := by omega
     rw [Z_loop_eq, hd]
     simp only [wordB, Bool.or_eq_true] at hc
     by_cases hcl : isLet c = true
     · rcases hex with rfl | rfl <;> simp [loopStep, run_F171l0, V.len, runL, h1, hlt, w1, zl, zd, hcl, ih, wordB, e, List.range_succ]
     · have hcd : isDig c = true := by rcases hc with h | h; exact absurd h hcl; exact h
       rcases hex with rfl | rfl <;> simp [loopStep, run_F171l0, V.len, runL, h1, hlt, w1, zl, zd, hcl, hcd, ih, wordB, e, List.range_succ]
   · refine ⟨35, false, ?_⟩
     simp only [wordB, Bool.or_eq_true, not_or] at hc
     rw [Z_loop_eq, hd]
     rcases hex with rfl | rfl <;> simp [loopStep, run_F171l0, V.len, runL, h1, hlt, w1, zl, zd, hc.1, hc.2, wordB, List.range_succ]
theorem dig_loop (s : ByteArray) (hl : s.size < 2 ^ 40) (a : Int) : ∀ (m i : Nat) (ex : Fr), i + m = s.size -> (ex = [] \/ ex = [(59, .bool true)]) ->
   ∃ t v, Z tR (.loop 0 F171l1 ((0, .str s) :: (1, .int a) :: (4, .ptr 0 0) :: (5, .int i) :: ex) [tk0]) = some (.out (.exit 2) [(0, .str s), (1, .int a), (4, .ptr 0 0), (5, .int ((i + runL isDig ((byl s).drop i) : Nat))), (t, .bool v)] [tk0])
 | 0, i, ex, hi, hex => by
   obtain rfl : i = s.size := by omega
   have hd : (byl s).drop s.size = [] := List.drop_eq_nil_of_le (by rw [byl_len]; exact Nat.le_refl _)
   refine ⟨69, false, ?_⟩
   rw [Z_loop_eq, hd]
   rcases hex with rfl | rfl <;> simp [loopStep, run_F171l1, V.len, runL, List.range_succ]
 | m + 1, i, ex, hi, hex => by
   obtain ⟨c, h1, h2⟩ := at_lt (s := s) (i := i) (by omega)
   have hd := drop_at h2
   have hlt : (i : Int) < s.size := by omega
   have w1 := wrap64 ((i : Int) + 1) (by omega)
   have zl := letter_Z c
   have zd := digit_Z c
   obtain ⟨t, v, ih⟩ := dig_loop s hl a m (i + 1) [] (by omega) (.inl rfl)
   simp only [Int.natCast_add, Int.cast_ofNat_Int] at ih
   by_cases hc : isDig c = true
   · refine ⟨t, v, ?_⟩
     have e : (i : Int) + ((runL isDig ((byl s).drop (i + 1)) : Int) + 1) = i + 1 + runL isDig ((byl s).drop (i + 1)) := by omega
     rw [Z_loop_eq, hd]
     rcases hex with rfl | rfl <;> simp [loopStep, run_F171l1, V.len, runL, h1, hlt, w1, zd, hc, ih, e, List.range_succ]
   · refine ⟨69, false, ?_⟩
     rw [Z_loop_eq, hd]
     rcases hex with rfl | rfl <;> simp [loopStep, run_F171l1, V.len, runL, h1, hlt, w1, zd, hc, List.range_succ]
abbrev tkD (t : Tk) : V := .dat (.agg [.lit (.int .i64 t.at_), .lit (.string t.s), .lit (.int .i64 t.bad)])
def symS : List ByteArray := symB.map fun n => bs [n.toUInt8]
theorem symS_iff (c : UInt8) : bs [c] ∈ symS ↔ c.toNat ∈ symB := by
 constructor
 · intro h
   obtain ⟨n, hn, he⟩ := List.mem_map.1 h
   have := bs_inj he
   simp only [List.cons.injEq, and_true] at this
   rw [<- this]
   revert hn
   simp only [symB, List.mem_cons, List.not_mem_nil, or_false]
   rintro (rfl | rfl | rfl | rfl | rfl | rfl | rfl | rfl | rfl | rfl | rfl | rfl | rfl | rfl | rfl | rfl) <;> decide
 · intro h
   refine List.mem_map.2 ⟨c.toNat, h, ?_⟩
   simp
theorem runL_all (p : UInt8 -> Bool) : ∀ l : List UInt8, ∀ b ∈ l.take (runL p l), p b = true
 | [], b, h => by simp [runL] at h
 | c :: r, b, h => by
   simp only [runL] at h
   split at h
   · rename_i hc
     rw [List.take_succ_cons] at h
     rcases List.mem_cons.1 h with rfl | h
     · exact hc
     · exact runL_all p r b h
   · simp at h
theorem token_Z (s : ByteArray) (hl : s.size < 2 ^ 40) {i : Nat} (hi : i < s.size) : Z tR (.call 171 [.str s, .int i] []) = some (.ret (tkD (tokAt 12 2 6 s i)) []) := by
 refine Z_call (pf := F171) rfl rfl ?_
 obtain ⟨c, h1, h2⟩ := at_lt hi
 have hd := drop_at h2
 have hlt : ¬ (s.size : Int) <= i := by omega
 have hlt' : (i : Int) < s.size := by omega
 have zl := letter_Z c
 have zd := digit_Z c
 have w1 := wrap64 ((i : Int) + 1) (by omega)
 obtain ⟨t1, v1, zw⟩ := word_loop s hl i (s.size - (i + 1)) (i + 1) [(19, .bool true)] (by omega) (.inr rfl)
 obtain ⟨t2, v2, zg⟩ := dig_loop s hl i (s.size - (i + 1)) (i + 1) [(59, .bool true)] (by omega) (.inr rfl)
 have e1 : ∀ p, p c = true -> i + 1 + runL p ((byl s).drop (i + 1)) = runN p s (s.size - i) i := fun p hp => by
   rw [runN_eq p s _ i (Nat.le_refl _), hd]
   simp only [runL, hp, if_true]; omega
 have e2 : ∀ p, runN p s (s.size - i) i <= s.size := fun p => by
   rw [runN_eq p s _ i (Nat.le_refl _)]
   have := runL_le p ((byl s).drop i)
   rw [List.length_drop, byl_len] at this
   omega
 have e3 : ∀ p, i <= runN p s (s.size - i) i := fun p => by rw [runN_eq p s _ i (Nat.le_refl _)]; omega
 simp only [Int.natCast_add, Int.cast_ofNat_Int] at zw zg
 have sz : ∀ j, j <= s.size -> i <= j -> (s.extract i j).size = j - i := fun j hj hij => by rw [ByteArray.size_extract]; omega
 by_cases hlet : isLet c = true
 · have hw : wordB c = true := by simp [wordB, hlet]
   have q := e1 wordB hw
   have q2 := e2 wordB
   have q3 := e3 wordB
   generalize hj : runN wordB s (s.size - i) i = j at q q2 q3
   have q' : (i : Int) + 1 + runL wordB ((byl s).drop (i + 1)) = j := by omega
   rw [q'] at zw
   have zr := reserved_Z (s.extract i j)
   have hsz := sz j q2 q3
   have w2 := wrap64 ((j : Int) - i) (by omega)
   have b1 : (0 : Int) <= i /\ (i : Int) <= j := by omega
   have b2 : (0 : Int) <= j /\ (j : Int) <= s.size := by omega
   have htok : tokAt 12 2 6 s i = ⟨i, s.extract i j, if 8 < (s.extract i j).size /\ s.extract i j ∉ fieldNames /\ s.extract i j ∉ wordNames then 2 else 0⟩ := by
     unfold tokAt
     rw [h1]
     simp only [hlet, if_true, hj]
   rw [htok, hsz]
   obtain ⟨w, hwx⟩ : ∃ w, s.extract i j = w := ⟨_, rfl⟩
   rw [hwx] at zr ⊢
   have b3 : (j : Int) <= s.size := by omega
   have b4 : (i : Int) <= j := by omega
   by_cases h8 : 8 < j - i
   · have h8' : (8 : Int) < (j : Int) - i := by omega
     by_cases hres : w ∈ fieldNames \/ w ∈ wordNames
     · have hn : ¬ (8 < j - i /\ w ∉ fieldNames /\ w ∉ wordNames) := by
         rintro ⟨_, h, h'⟩
         rcases hres with hres | hres
         · exact h hres
         · exact h' hres
       simp [F171, V.len, h1, hlt, zl, hlet, zw, sliceSV, bound, hwx, b3, b4, w1, w2, h8', zr, hres, if_neg hn, List.range_succ]
     · have hn : 8 < j - i /\ w ∉ fieldNames /\ w ∉ wordNames := ⟨h8, fun h => hres (.inl h), fun h => hres (.inr h)⟩
       simp [F171, V.len, h1, hlt, zl, hlet, zw, sliceSV, bound, hwx, b3, b4, w1, w2, h8', zr, hres, if_pos hn, List.range_succ]
   · have h8' : ¬ (8 : Int) < (j : Int) - i := by omega
     have hn : ¬ (8 < j - i /\ w ∉ fieldNames /\ w ∉ wordNames) := fun h => h8 h.1
     simp [F171, V.len, h1, hlt, zl, hlet, zw, sliceSV, bound, hwx, b3, b4, w1, w2, h8', if_neg hn, List.range_succ]
 · by_cases hdig : isDig c = true
   · have q := e1 isDig hdig
     have q2 := e2 isDig
     have q3 := e3 isDig
     have hrun := runN_eq isDig s _ i (Nat.le_refl (s.size - i))
     have hall := runL_all isDig ((byl s).drop i)
     have htake : (byl (s.extract i (runN isDig s (s.size - i) i))) = ((byl s).drop i).take (runL isDig ((byl s).drop i)) := by
       rw [hrun, extract_bs, byl_bs]
     generalize hj : runN isDig s (s.size - i) i = j at q q2 q3 htake
     have q' : (i : Int) + 1 + runL isDig ((byl s).drop (i + 1)) = j := by omega
     rw [q'] at zg
     have hsz := sz j q2 q3
     have zv := value_Z (s := s.extract i j) (fun b hb => hall b (by rw [<- htake]; exact hb)) (by omega)
     have b3 : (j : Int) <= s.size := by omega
     have b4 : (i : Int) <= j := by omega
     have htok : tokAt 12 2 6 s i = ⟨i, s.extract i j, if 2147483647 < digV (s.extract i j).data.toList then 6 else 0⟩ := by
       unfold tokAt
       rw [h1]
       simp only [hlet, hdig, if_true, hj, Bool.false_eq_true, if_false, ByteArray.toList_eq]
     rw [htok]
     obtain ⟨w, hw⟩ : ∃ w, s.extract i j = w := ⟨_, rfl⟩
     rw [hw] at zv ⊢
     by_cases hb : 2147483647 < digV w.data.toList
     · have hv : valV w.data.toList = -1 := by rw [valV, if_pos hb]
       rw [hv] at zv
       simp [F171, V.len, h1, hlt, zl, zd, hlet, hdig, zg, sliceSV, bound, b3, b4, w1, hw, zv, hb, List.range_succ]
     · have hv : ¬ valV w.data.toList < 0 := by rw [valV, if_neg hb]; omega
       simp [F171, V.len, h1, hlt, zl, zd, hlet, hdig, zg, sliceSV, bound, b3, b4, w1, hw, zv, hv, hb, List.range_succ]
   · have w3 := wrap64 ((i : Int) + 2) (by omega)
     have b8 : (0 : Int) <= (i : Int) + 2 := by omega
     have b9 : ((i : Int) + 2).toNat = i + 2 := by omega
     have b8' : (0 : Int) <= (i : Int) + 1 := by omega
     have b9' : ((i : Int) + 1).toNat = i + 1 := by omega
     have c1 : (i : Int) <= (i : Int) + 2 := by omega
     have c2 : (i : Int) <= (i : Int) + 1 := by omega
     have e5 : s.extract i (i + 1) = bs [c] := by rw [extract_bs, hd]; rfl
     have b5 : (i : Int) + 1 <= s.size := by omega
     have hsym : ∀ (hp : ¬ (i + 2 <= s.size /\ s.extract i (i + 2) ∈ pairs)), tokAt 12 2 6 s i = ⟨i, bs [c], if c.toNat ∈ symB then 0 else 12⟩ := fun hp => by
       unfold tokAt
       rw [h1]
       simp only [hlet, hdig, Bool.false_eq_true, if_false, if_neg hp, e5]
       split <;> rfl
     have zs := hasP_Z (rowS_sl symS true) (by decide) (bs [c])
     rw [show (decide (bs [c] ∈ symS)) = decide (c.toNat ∈ symB) from by rw [decide_eq_decide]; exact symS_iff c] at zs
     simp only [show symS = [⟨#[123]⟩, ⟨#[125]⟩, ⟨#[91]⟩, ⟨#[93]⟩, ⟨#[40]⟩, ⟨#[41]⟩, ⟨#[61]⟩, ⟨#[59]⟩, ⟨#[44]⟩, ⟨#[60]⟩, ⟨#[62]⟩, ⟨#[43]⟩, ⟨#[45]⟩, ⟨#[42]⟩, ⟨#[47]⟩, ⟨#[33]⟩] from rfl, strC, List.map_cons, List.map_nil, List.length_cons, List.length_nil, Nat.reduceAdd, Nat.zero_add] at zs
     generalize hgb : bs [c] = q at zs e5 hsym
     generalize hgs : decide (c.toNat ∈ symB) = bb at zs
     have hs2 : (if c.toNat ∈ symB then 0 else 12) = (if bb = true then 0 else 12) := by rw [<- hgs]; simp
     by_cases h2s : i + 2 <= s.size
     · have b6 : (i : Int) + 2 <= s.size := by omega
       have b7 : ¬ (s.size : Int) < (i : Int) + 2 := by omega
       have zp := hasP_Z (rowS_sl pairs true) (by decide) (s.extract i (i + 2))
       generalize hgp : decide (s.extract i (i + 2) ∈ pairs) = pb at zp
       simp only [pairs, strC, List.map_cons, List.map_nil, List.length_cons, List.length_nil, bs, Nat.reduceAdd, Nat.zero_add] at zp
       by_cases hp : s.extract i (i + 2) ∈ pairs
       · have htok : tokAt 12 2 6 s i = ⟨i, s.extract i (i + 2), 0⟩ := by
           unfold tokAt
           rw [h1]
           simp only [hlet, hdig, Bool.false_eq_true, if_false, if_pos (And.intro h2s hp)]
         rw [htok]
         obtain ⟨w, hwx⟩ : ∃ w, s.extract i (i + 2) = w := ⟨_, rfl⟩
         rw [decide_eq_true hp] at hgp
         rw [hwx] at zp ⊢
         subst hgp
         simp [F171, V.len, h1, hlt, zl, zd, hlet, hdig, sliceSV, bound, w1, w3, b8, b9, b8', b9', c1, c2, b6, b7, hwx, zp, lits, minI, List.range_succ]
       · have htok := hsym (fun h => hp h.2)
         obtain ⟨w, hwx⟩ : ∃ w, s.extract i (i + 2) = w := ⟨_, rfl⟩
         rw [decide_eq_false hp] at hgp
         rw [hwx] at zp
         subst hgp
         rw [htok, hs2]
         cases bb with
         | true => simp [F171, V.len, h1, hlt, zl, zd, hlet, hdig, sliceSV, bound, w1, w3, b8, b9, b8', b9', c1, c2, b5, b6, b7, hwx, zp, zs, e5, lits, minI, List.range_succ]
         | false => simp [F171, V.len, h1, hlt, zl, zd, hlet, hdig, sliceSV, bound, w1, w3, b8, b9, b8', b9', c1, c2, b5, b6, b7, hwx, zp, zs, e5, lits, minI, List.range_succ]
     · have b6 : ¬ (i : Int) + 2 <= s.size := by omega
       have htok := hsym (fun h => h2s h.1)
       rw [htok, hs2]
       cases bb with
       | true => simp [F171, V.len, h1, hlt, zl, zd, hlet, hdig, sliceSV, bound, w1, w3, b8, b9, b8', b9', c1, c2, b5, b6, zs, e5, List.range_succ]
       | false => simp [F171, V.len, h1, hlt, zl, zd, hlet, hdig, sliceSV, bound, w1, w3, b8, b9, b8', b9', c1, c2, b5, b6, zs, e5, List.range_succ]
end Go.Pm
end SJc
