/- The rule language in plain Lean: tokens of a source, the parser over them. No program in sight. The rule language in plain Lean: statements, blocks, programs. No program in sight. The plain parser ends. The plain parser of statements and programs ends. The rule language in plain Lean: tokens over lists of bytes. No program in sight. The rule language in plain Lean: a source written down from its tokens is read back. No program in sight. -/
import Derived.Test.YtjdbkncfebebnaaDoorPmEt
set_option linter.unusedSimpArgs false
set_option linter.unusedVariables false
section SYa
namespace Go.Pm
def isLet (c : UInt8) : Bool := decide (97 <= c.toNat) && decide (c.toNat <= 122)
def isDig (c : UInt8) : Bool := decide (48 <= c.toNat) && decide (c.toNat <= 57)
def skipN (s : ByteArray) : Nat -> Bool -> Nat -> Nat
 | 0, _, i => i
 | n + 1, c, i => match s[i]? with
   | none => i
   | some b => if b.toNat = 10 then skipN s n false (i + 1) else if c = true \/ b.toNat = 32 \/ b.toNat = 9 then skipN s n c (i + 1) else if b.toNat = 35 then skipN s n true (i + 1) else i
def runN (p : UInt8 -> Bool) (s : ByteArray) : Nat -> Nat -> Nat
 | 0, i => i
 | n + 1, i => match s[i]? with
   | none => i
   | some b => if p b then runN p s n (i + 1) else i
def wordB (c : UInt8) : Bool := isLet c || isDig c
def digV (l : List UInt8) : Nat := l.foldl (fun v c => 10 * v + (c.toNat - 48)) 0
structure Tk where
 at_ : Nat
 s : ByteArray
 bad : Nat
def bs (l : List UInt8) : ByteArray := ⟨l.toArray⟩
def fieldNames : List ByteArray := [bs [120], bs [121], bs [118, 120], bs [118, 121], bs [97], bs [98], hitS, stillS]
def wordNames : List ByteArray := [bs [111, 110], bs [97, 99, 116], bs [116, 105, 99, 107], hitS, bs [105, 102], bs [101, 108, 115, 101], bs [119, 104, 105, 108, 101], bs [101, 102, 102, 101, 99, 116], bs [115, 116, 111, 112], bs [116, 114, 117, 101], bs [102, 97, 108, 115, 101], bs [115, 101, 108, 102], bs [111, 116, 104, 101, 114]]
def pairs : List ByteArray := [bs [124, 124], bs [38, 38], bs [60, 61], bs [62, 61], bs [61, 61], bs [33, 61]]
def symB : List Nat := [123, 125, 91, 93, 40, 41, 61, 59, 44, 60, 62, 43, 45, 42, 47, 33]
def tokAt (eS eL eR : Nat) (s : ByteArray) (i : Nat) : Tk := match s[i]? with
 | none => ⟨i, ⟨#[]⟩, 0⟩
 | some c =>
   if isLet c then
     let w := s.extract i (runN wordB s (s.size - i) i)
     ⟨i, w, if 8 < w.size /\ w ∉ fieldNames /\ w ∉ wordNames then eL else 0⟩
   else if isDig c then
     let w := s.extract i (runN isDig s (s.size - i) i)
     ⟨i, w, if 2147483647 < digV w.toList then eR else 0⟩
   else if i + 2 <= s.size /\ s.extract i (i + 2) ∈ pairs then ⟨i, s.extract i (i + 2), 0⟩
   else if c.toNat ∈ symB then ⟨i, s.extract i (i + 1), 0⟩
   else ⟨i, s.extract i (i + 1), eS⟩
def toksN (eS eL eR : Nat) (s : ByteArray) : Nat -> Nat -> List Tk
 | 0, i => [⟨i, ⟨#[]⟩, 0⟩]
 | n + 1, i =>
   let t := tokAt eS eL eR s (skipN s (s.size - i) false i)
   if t.bad ≠ 0 \/ t.s.size = 0 then [t] else t :: toksN eS eL eR s n (t.at_ + t.s.size)

inductive Rz (α : Type) where
 | ok (a : α) (r : List Tk)
 | er (i c : Nat)
def nx : List Tk -> Option ByteArray
 | t :: _ => if t.bad = 0 then some t.s else none
 | [] => none
def failP {α : Type} (c : Nat) : List Tk -> Rz α
 | t :: _ => .er t.at_ (if t.bad = 0 then c else t.bad)
 | [] => .er 0 c
def Rz.bind {α β : Type} : Rz α -> (α -> List Tk -> Rz β) -> Rz β
 | .ok a r, k => k a r
 | .er i c, _ => .er i c
def expectP (eS : Nat) (x : ByteArray) : List Tk -> Rz Unit
 | t :: r => if t.bad = 0 /\ t.s = x then .ok () r else failP eS (t :: r)
 | [] => failP eS []
def openP (eS eL : Nat) (x : ByteArray) (lv : Nat) (ts : List Tk) : Rz Unit :=
 if nx ts = some x /\ 20 < lv then failP eL ts else expectP eS x ts
def opAt (prec : Nat) (s : ByteArray) : Option Bop :=
 let l : List Bop := match prec with
   | 1 => [.or] | 2 => [.and] | 4 => [.lt, .le, .gt, .ge, .eq, .ne] | 5 => [.add, .sub] | 6 => [.mul, .div] | _ => []
 l.find? fun o => decide (o.str = s)
def startsB (p : UInt8 -> Bool) (s : ByteArray) : Bool := match s[0]? with
 | some c => p c
 | none => false
mutual
def exprP (eS eL : Nat) (f : Bool) : Nat -> Nat -> Nat -> List Tk -> Option (Rz E)
 | 0, _, _, _ => none
 | n + 1, prec, lv, ts =>
   if prec = 3 /\ nx ts = some (ustr false) \/ prec = 7 /\ nx ts = some (ustr true) then
     match openP eS eL (ustr (prec == 7)) (lv + 1) ts with
     | .er i c => some (.er i c)
     | .ok _ r => match exprP eS eL f n prec (lv + 1) r with
       | some (.ok e r') => some (.ok (.un f (prec == 7) e) r')
       | x => x
   else if prec < 8 then
     match exprP eS eL f n (prec + 1) lv ts with
     | some (.ok e r) => loopP eS eL f n prec lv e r
     | x => x
   else match nx ts with
     | none => some (failP eS ts)
     | some s =>
       if startsB isDig s then some (.ok (.int (digV s.toList)) ts.tail)
       else if s = bs [116, 114, 117, 101] then some (.ok (.bool 1) ts.tail)
       else if s = bs [102, 97, 108, 115, 101] then some (.ok (.bool 0) ts.tail)
       else if s = bs [115, 101, 108, 102] \/ s = bs [111, 116, 104, 101, 114] \/ s = bs [116, 105, 99, 107] then some (.ok (.name s) ts.tail)
       else if s ∈ fieldNames then match indexP eS eL f n lv ts.tail with
         | some (.ok e r) => some (.ok (.field f s e) r)
         | x => x
       else if startsB isLet s /\ s ∉ wordNames then some (.ok (.var s) ts.tail)
       else match openP eS eL (bs [40]) (lv + 1) ts with
         | .er i c => some (.er i c)
         | .ok _ r => match exprP eS eL f n 1 (lv + 1) r with
           | some (.ok e r') => match expectP eS (bs [41]) r' with
             | .ok _ r'' => some (.ok e r'')
             | .er i c => some (.er i c)
           | x => x
def loopP (eS eL : Nat) (f : Bool) : Nat -> Nat -> Nat -> E -> List Tk -> Option (Rz E)
 | 0, _, _, _, _ => none
 | n + 1, prec, lv, e, ts => match nx ts with
   | none => if prec = 3 \/ prec = 7 then some (.ok e ts) else some (failP eS ts)
   | some s => match opAt prec s with
     | none => some (.ok e ts)
     | some o => match exprP eS eL f n (prec + 1) lv ts.tail with
       | some (.ok e' r) => if prec = 4 then some (.ok (.bin f o e e') r) else loopP eS eL f n prec lv (.bin f o e e') r
       | x => x
def indexP (eS eL : Nat) (f : Bool) : Nat -> Nat -> List Tk -> Option (Rz E)
 | 0, _, _ => none
 | n + 1, lv, ts => match openP eS eL (bs [91]) (lv + 1) ts with
   | .er i c => some (.er i c)
   | .ok _ r => match exprP eS eL f n 1 (lv + 1) r with
     | some (.ok e r') => match expectP eS (bs [93]) r' with
       | .ok _ r'' => some (.ok e r'')
       | .er i c => some (.er i c)
     | x => x
end
end Go.Pm
end SYa
section SYb
namespace Go.Pm
def closedP {α : Type} (eS : Nat) (a : α) (ts : List Tk) : Rz α := match expectP eS (bs [59]) ts with
 | .ok _ r => .ok a r
 | .er i c => .er i c
mutual
def stmtP (eS eL : Nat) (f fi fb : Bool) : Nat -> Nat -> List Tk -> Option (Rz Ss)
 | 0, _, _ => none
 | n + 1, lv, ts => match nx ts with
   | none => some (failP eS ts)
   | some s =>
     if s = bs [105, 102] then match exprP eS eL f n 1 lv ts.tail with
       | some (.ok c r) => match blockP eS eL f fi fb n (lv + 1) r with
         | some (.ok b r1) => match nx r1 with
           | none => some (failP eS r1)
           | some w => if w = bs [101, 108, 115, 101] then match blockP eS eL f fi fb n (lv + 1) r1.tail with
               | some (.ok b2 r2) => some (.ok (.cond false fi c (.block fb b (.block fb b2 .nil)) .nil) r2)
               | some (.er i k) => some (.er i k)
               | none => none
             else some (.ok (.cond false fi c (.block fb b (.block fb .nil .nil)) .nil) r1)
         | some (.er i k) => some (.er i k)
         | none => none
       | some (.er i k) => some (.er i k)
       | none => none
     else if s = bs [119, 104, 105, 108, 101] then match exprP eS eL f n 1 lv ts.tail with
       | some (.ok c r) => match blockP eS eL f fi fb n (lv + 1) r with
         | some (.ok b r1) => some (.ok (.cond true f c (.block fb b .nil) .nil) r1)
         | some (.er i k) => some (.er i k)
         | none => none
       | some (.er i k) => some (.er i k)
       | none => none
     else if s = bs [101, 102, 102, 101, 99, 116] then match exprP eS eL f n 1 lv ts.tail with
       | some (.ok a r) => match expectP eS (bs [44]) r with
         | .ok _ r1 => match exprP eS eL f n 1 lv r1 with
           | some (.ok b r2) => some (closedP eS (.effect f a b .nil) r2)
           | some (.er i k) => some (.er i k)
           | none => none
         | .er i k => some (.er i k)
       | some (.er i k) => some (.er i k)
       | none => none
     else if s = bs [115, 116, 111, 112] then some (closedP eS (.stop .nil) ts.tail)
     else if s ∈ fieldNames then match indexP eS eL f n lv ts.tail with
       | some (.ok a r) => match expectP eS (bs [61]) r with
         | .ok _ r1 => match exprP eS eL f n 1 lv r1 with
           | some (.ok b r2) => some (closedP eS (.store f s a b .nil) r2)
           | some (.er i k) => some (.er i k)
           | none => none
         | .er i k => some (.er i k)
       | some (.er i k) => some (.er i k)
       | none => none
     else if startsB isLet s /\ s ∉ wordNames then match expectP eS (bs [61]) ts.tail with
       | .ok _ r1 => match exprP eS eL f n 1 lv r1 with
         | some (.ok b r2) => some (closedP eS (.assign f s b .nil) r2)
         | some (.er i k) => some (.er i k)
         | none => none
       | .er i k => some (.er i k)
     else some (failP eS ts)
def blockP (eS eL : Nat) (f fi fb : Bool) : Nat -> Nat -> List Tk -> Option (Rz Ss)
 | 0, _, _ => none
 | n + 1, lv, ts => match openP eS eL (bs [123]) lv ts with
   | .er i k => some (.er i k)
   | .ok _ r => stmtsP eS eL f fi fb n lv .nil r
def stmtsP (eS eL : Nat) (f fi fb : Bool) : Nat -> Nat -> Ss -> List Tk -> Option (Rz Ss)
 | 0, _, _, _ => none
 | n + 1, lv, a, ts => match nx ts with
   | none => some (failP eS ts)
   | some s => if s = bs [125] then some (.ok a ts.tail) else match stmtP eS eL f fi fb n lv ts with
     | some (.ok b r) => stmtsP eS eL f fi fb n lv (a.app b) r
     | some (.er i k) => some (.er i k)
     | none => none
end
def handlerP (s : ByteArray) : Option Nat :=
 if s = bs [97, 99, 116] then some 0 else if s = bs [116, 105, 99, 107] then some 1 else if s = hitS then some 2 else none
def progP (eS eL eD : Nat) (f fi fb : Bool) : Nat -> (Nat -> Option Ss) -> List Tk -> Option (Rz (Nat -> Option Ss))
 | 0, _, _ => none
 | n + 1, h, ts => match nx ts with
   | none => some (failP eS ts)
   | some s => if s.size = 0 then some (.ok h ts) else match expectP eS (bs [111, 110]) ts with
     | .er i k => some (.er i k)
     | .ok _ r => match nx r with
       | none => some (failP eS r)
       | some w => match handlerP w with
         | none => some (failP eS r)
         | some k => if (h k).isSome then some (failP eD r) else match blockP eS eL f fi fb n 1 r.tail with
           | some (.ok b r1) => progP eS eL eD f fi fb n (fun i => if i = k then some b else h i) r1
           | some (.er i c) => some (.er i c)
           | none => none
end Go.Pm
end SYb
section SYc
namespace Go.Pm
def Fin {α : Type} (m : Nat) (x : Option (Rz α)) : Prop := ∃ y, x = some y /\ ∀ a r, y = .ok a r -> r.length <= m
theorem fin_fail {α : Type} (m c : Nat) (ts : List Tk) : Fin (α := α) m (some (failP c ts)) := ⟨_, rfl, fun a r h => by cases ts <;> cases h⟩
theorem fin_er {α : Type} (m i c : Nat) : Fin (α := α) m (some (.er i c)) := ⟨_, rfl, fun a r h => by cases h⟩
theorem fin_ok {α : Type} {m : Nat} (a : α) {ts : List Tk} (h : ts.length <= m) : Fin m (some (.ok a ts)) := ⟨_, rfl, fun a r e => by cases e; exact h⟩
theorem nx_pos {ts : List Tk} {s : ByteArray} (h : nx ts = some s) : ts.tail.length + 1 = ts.length := by
 cases ts with
 | nil => cases h
 | cons t r => rfl
theorem expectP_len {eS : Nat} {x : ByteArray} {ts r : List Tk} {u : Unit} (h : expectP eS x ts = .ok u r) : r.length + 1 = ts.length := by
 cases ts with
 | nil => cases h
 | cons t r' =>
   simp only [expectP] at h
   split at h
   · cases h; rfl
   · cases h
theorem openP_len {eS eL : Nat} {x : ByteArray} {lv : Nat} {ts r : List Tk} {u : Unit} (h : openP eS eL x lv ts = .ok u r) : r.length + 1 = ts.length := by
 unfold openP at h
 split at h
 · cases ts <;> cases h
 · exact expectP_len h
theorem exprP_fin (eS eL : Nat) (f : Bool) : ∀ n : Nat,
   (∀ prec lv ts, 1 <= prec -> prec <= 8 -> 10 * ts.length + (10 - prec) <= n -> Fin (ts.length - 1) (exprP eS eL f n prec lv ts)) /\
   (∀ prec lv e ts, 1 <= prec -> prec <= 7 -> 10 * ts.length + 1 <= n -> Fin ts.length (loopP eS eL f n prec lv e ts)) /\
   (∀ lv ts, 10 * ts.length + 1 <= n -> Fin (ts.length - 1) (indexP eS eL f n lv ts))
 | 0 => ⟨fun p lv ts h1 h2 h => by omega, fun p lv e ts h1 h2 h => by omega, fun lv ts h => by omega⟩
 | n + 1 => by
   obtain ⟨ihe, ihl, ihi⟩ := exprP_fin eS eL f n
   refine ⟨fun p lv ts h1 h2 h => ?_, fun p lv e ts h1 h2 h => ?_, fun lv ts h => ?_⟩
   · simp only [exprP]
     split
     · split
       · exact fin_er _ _ _
       · rename_i u r ho
         have hl := openP_len ho
         obtain ⟨y, hy, hr⟩ := ihe p (lv + 1) r h1 h2 (by omega)
         rw [hy]
         cases y with
         | er i c => exact fin_er _ _ _
         | ok e r' => have := hr e r' rfl; exact fin_ok _ (by omega)
     · split
       · obtain ⟨y, hy, hr⟩ := ihe (p + 1) lv ts (by omega) (by omega) (by omega)
         rw [hy]
         cases y with
         | er i c => exact fin_er _ _ _
         | ok e r =>
           have := hr e r rfl
           obtain ⟨z, hz, hr2⟩ := ihl p lv e r h1 (by omega) (by omega)
           exact ⟨z, hz, fun a q hq => by have := hr2 a q hq; omega⟩
       · cases hn : nx ts with
         | none => exact fin_fail _ _ _
         | some s =>
           have hp := nx_pos hn
           simp only
           split
           · exact fin_ok _ (by omega)
           split
           · exact fin_ok _ (by omega)
           split
           · exact fin_ok _ (by omega)
           split
           · exact fin_ok _ (by omega)
           split
           · obtain ⟨y, hy, hr⟩ := ihi lv ts.tail (by omega)
             rw [hy]
             cases y with
             | er i c => exact fin_er _ _ _
             | ok e r' => have := hr e r' rfl; exact fin_ok _ (by omega)
           split
           · exact fin_ok _ (by omega)
           split
           · exact fin_er _ _ _
           · rename_i u r ho
             have hl := openP_len ho
             obtain ⟨y, hy, hr⟩ := ihe 1 (lv + 1) r (by omega) (by omega) (by omega)
             rw [hy]
             cases y with
             | er i c => exact fin_er _ _ _
             | ok e r' =>
               have := hr e r' rfl
               simp only
               split
               · rename_i u' r'' hx; have := expectP_len hx; exact fin_ok _ (by omega)
               · exact fin_er _ _ _
   · simp only [loopP]
     cases hn : nx ts with
     | none =>
       simp only
       split
       · exact fin_ok _ (Nat.le_refl _)
       · exact fin_fail _ _ _
     | some s =>
       have hp := nx_pos hn
       simp only
       split
       · exact fin_ok _ (Nat.le_refl _)
       · obtain ⟨y, hy, hr⟩ := ihe (p + 1) lv ts.tail (by omega) (by omega) (by omega)
         rw [hy]
         cases y with
         | er i c => exact fin_er _ _ _
         | ok e' r =>
           have := hr e' r rfl
           simp only
           split
           · exact fin_ok _ (by omega)
           · obtain ⟨z, hz, hr2⟩ := ihl p lv (.bin f _ e e') r h1 h2 (by omega)
             exact ⟨z, hz, fun a q hq => by have := hr2 a q hq; omega⟩
   · simp only [indexP]
     split
     · exact fin_er _ _ _
     · rename_i u r ho
       have hl := openP_len ho
       obtain ⟨y, hy, hr⟩ := ihe 1 (lv + 1) r (by omega) (by omega) (by omega)
       rw [hy]
       cases y with
       | er i c => exact fin_er _ _ _
       | ok e r' =>
         have := hr e r' rfl
         simp only
         split
         · rename_i u' r'' hx; have := expectP_len hx; exact fin_ok _ (by omega)
         · exact fin_er _ _ _
end Go.Pm
end SYc
section SYd
namespace Go.Pm
theorem closedP_fin {α : Type} {eS m : Nat} {a : α} {ts : List Tk} (h : ts.length <= m + 1) : Fin m (some (closedP eS a ts)) := by
 unfold closedP
 split
 · rename_i u r hx; have := expectP_len hx; exact fin_ok _ (by omega)
 · exact fin_er _ _ _
theorem stmtP_fin (eS eL : Nat) (f fi fb : Bool) : ∀ n : Nat,
   (∀ lv ts, 10 * ts.length + 1 <= n -> Fin (ts.length - 1) (stmtP eS eL f fi fb n lv ts)) /\
   (∀ lv ts, 10 * ts.length + 1 <= n -> Fin (ts.length - 1) (blockP eS eL f fi fb n lv ts)) /\
   (∀ lv a ts, 10 * ts.length + 2 <= n -> Fin (ts.length - 1) (stmtsP eS eL f fi fb n lv a ts))
 | 0 => ⟨fun lv ts h => by omega, fun lv ts h => by omega, fun lv a ts h => by omega⟩
 | n + 1 => by
   obtain ⟨ihs, ihb, ihl⟩ := stmtP_fin eS eL f fi fb n
   obtain ⟨ihe, _, ihi⟩ := exprP_fin eS eL f n
   refine ⟨fun lv ts h => ?_, fun lv ts h => ?_, fun lv a ts h => ?_⟩
   · simp only [stmtP]
     cases hn : nx ts with
     | none => exact fin_fail _ _ _
     | some s =>
       have hp := nx_pos hn
       simp only
       have he := ihe 1 lv ts.tail (by omega) (by omega) (by omega)
       obtain ⟨y, hy, hr⟩ := he
       split
       · rw [hy]
         cases y with
         | er i c => exact fin_er _ _ _
         | ok e r =>
           have h1 := hr e r rfl
           obtain ⟨y1, hy1, hr1⟩ := ihb (lv + 1) r (by omega)
           simp only [hy1]
           cases y1 with
           | er i c => exact fin_er _ _ _
           | ok b r1 =>
             have h2 := hr1 b r1 rfl
             simp only
             cases hn1 : nx r1 with
             | none => exact fin_fail _ _ _
             | some w =>
               have hp1 := nx_pos hn1
               simp only
               split
               · obtain ⟨y2, hy2, hr2⟩ := ihb (lv + 1) r1.tail (by omega)
                 rw [hy2]
                 cases y2 with
                 | er i c => exact fin_er _ _ _
                 | ok b2 r2 => have h3 := hr2 b2 r2 rfl; exact fin_ok _ (by omega)
               · exact fin_ok _ (by omega)
       split
       · rw [hy]
         cases y with
         | er i c => exact fin_er _ _ _
         | ok e r =>
           have h1 := hr e r rfl
           obtain ⟨y1, hy1, hr1⟩ := ihb (lv + 1) r (by omega)
           simp only [hy1]
           cases y1 with
           | er i c => exact fin_er _ _ _
           | ok b r1 => have h2 := hr1 b r1 rfl; exact fin_ok _ (by omega)
       have second : ∀ (r : List Tk) (g : E -> Ss), r.length + 1 <= ts.length -> Fin (ts.length - 1) (match exprP eS eL f n 1 lv r with
           | some (.ok b r2) => some (closedP eS (g b) r2)
           | some (.er i k) => some (.er i k)
           | none => none) := fun r g hr => by
         obtain ⟨y1, hy1, hr1⟩ := ihe 1 lv r (by omega) (by omega) (by omega)
         rw [hy1]
         cases y1 with
         | er i c => exact fin_er _ _ _
         | ok b r2 => have h2 := hr1 b r2 rfl; exact closedP_fin (by omega)
       split
       · rw [hy]
         cases y with
         | er i c => exact fin_er _ _ _
         | ok e r =>
           have h1 := hr e r rfl
           simp only
           split
           · rename_i u r1 hx
             have := expectP_len hx
             exact second r1 (fun b => .effect f e b .nil) (by omega)
           · exact fin_er _ _ _
       split
       · exact closedP_fin (by omega)
       split
       · obtain ⟨y1, hy1, hr1⟩ := ihi lv ts.tail (by omega)
         rw [hy1]
         cases y1 with
         | er i c => exact fin_er _ _ _
         | ok e r =>
           have h1 := hr1 e r rfl
           simp only
           split
           · rename_i u r1 hx
             have := expectP_len hx
             exact second r1 (fun b => .store f s e b .nil) (by omega)
           · exact fin_er _ _ _
       split
       · split
         · rename_i u r1 hx
           have := expectP_len hx
           exact second r1 (fun b => .assign f s b .nil) (by omega)
         · exact fin_er _ _ _
       · exact fin_fail _ _ _
   · simp only [blockP]
     split
     · exact fin_er _ _ _
     · rename_i u r ho
       have hl := openP_len ho
       obtain ⟨y, hy, hr⟩ := ihl lv .nil r (by omega)
       exact ⟨y, hy, fun a q hq => by have := hr a q hq; omega⟩
   · simp only [stmtsP]
     cases hn : nx ts with
     | none => exact fin_fail _ _ _
     | some s =>
       have hp := nx_pos hn
       simp only
       split
       · exact fin_ok _ (by omega)
       · obtain ⟨y, hy, hr⟩ := ihs lv ts (by omega)
         rw [hy]
         cases y with
         | er i c => exact fin_er _ _ _
         | ok b r =>
           have h1 := hr b r rfl
           obtain ⟨z, hz, hr2⟩ := ihl lv (a.app b) r (by omega)
           exact ⟨z, hz, fun a q hq => by have := hr2 a q hq; omega⟩
theorem progP_fin (eS eL eD : Nat) (f fi fb : Bool) : ∀ (n : Nat) h ts, 10 * ts.length + 2 <= n -> Fin ts.length (progP eS eL eD f fi fb n h ts)
 | 0, h, ts, hn => by omega
 | n + 1, h, ts, hn => by
   simp only [progP]
   cases hx : nx ts with
   | none => exact fin_fail _ _ _
   | some s =>
     have hp := nx_pos hx
     simp only
     split
     · exact fin_ok _ (Nat.le_refl _)
     split
     · exact fin_er _ _ _
     · rename_i u r hr
       have h1 := expectP_len hr
       cases hw : nx r with
       | none => exact fin_fail _ _ _
       | some w =>
         have hp1 := nx_pos hw
         simp only
         split
         · exact fin_fail _ _ _
         · rename_i k hk
           split
           · exact fin_fail _ _ _
           · obtain ⟨y, hy, hr⟩ := (stmtP_fin eS eL f fi fb n).2.1 1 r.tail (by omega)
             rw [hy]
             cases y with
             | er i c => exact fin_er _ _ _
             | ok b r1 =>
               have h2 := hr b r1 rfl
               obtain ⟨z, hz, hr2⟩ := progP_fin eS eL eD f fi fb n (fun i => if i = k then some b else h i) r1 (by omega)
               exact ⟨z, hz, fun a q hq => by have := hr2 a q hq; omega⟩
end Go.Pm
end SYd
section SYe
namespace Go.Pm
abbrev byl (s : ByteArray) : List UInt8 := s.data.toList
theorem byl_bs (l : List UInt8) : byl (bs l) = l := by simp [byl, bs]
theorem bs_byl (s : ByteArray) : bs (byl s) = s := by cases s; simp [bs, byl]
theorem byl_len (s : ByteArray) : (byl s).length = s.size := Array.length_toList
theorem bs_size (l : List UInt8) : (bs l).size = l.length := rfl
theorem bs_inj {a b : List UInt8} (h : bs a = bs b) : a = b := by rw [<- byl_bs a, h, byl_bs]
theorem byl_inj {a b : ByteArray} (h : byl a = byl b) : a = b := by rw [<- bs_byl a, h, bs_byl]
theorem at_drop (s : ByteArray) (i : Nat) : s[i]? = ((byl s).drop i).head? := by
 rw [List.head?_drop]
 by_cases h : i < s.size
 · rw [getElem?_pos s i h, List.getElem?_eq_getElem (by rw [byl_len]; exact h)]
   simp [byl, ByteArray.getElem_eq_getElem_data]
 · rw [getElem?_neg s i h, List.getElem?_eq_none (by rw [byl_len]; omega)]
theorem extract_bs (s : ByteArray) (i k : Nat) : s.extract i (i + k) = bs (((byl s).drop i).take k) := by
 apply byl_inj
 rw [byl_bs]
 simp only [byl, ByteArray.data_extract, Array.toList_extract, List.extract_eq_take_drop]
 rw [show i + k - i = k by omega]
def skipL : Bool -> List UInt8 -> Nat
 | _, [] => 0
 | c, b :: r => if b.toNat = 10 then skipL false r + 1 else if c = true \/ b.toNat = 32 \/ b.toNat = 9 then skipL c r + 1 else if b.toNat = 35 then skipL true r + 1 else 0
def runL (p : UInt8 -> Bool) : List UInt8 -> Nat
 | [] => 0
 | b :: r => if p b then runL p r + 1 else 0
theorem skipL_le : ∀ (l : List UInt8) (c : Bool), skipL c l <= l.length
 | [], c => by simp [skipL]
 | b :: r, c => by
   have h1 := skipL_le r false
   have h2 := skipL_le r c
   have h3 := skipL_le r true
   simp only [skipL, List.length_cons]
   split
   · omega
   split
   · omega
   split <;> omega
theorem runL_le (p : UInt8 -> Bool) : ∀ l : List UInt8, runL p l <= l.length
 | [] => by simp [runL]
 | b :: r => by
   have h1 := runL_le p r
   simp only [runL, List.length_cons]
   split <;> omega
def tokL (eS eL eR : Nat) : List UInt8 -> List UInt8 × Nat
 | [] => ([], 0)
 | c :: r =>
   if isLet c then ((c :: r).take (runL wordB (c :: r)), if 8 < runL wordB (c :: r) /\ bs ((c :: r).take (runL wordB (c :: r))) ∉ fieldNames /\ bs ((c :: r).take (runL wordB (c :: r))) ∉ wordNames then eL else 0)
   else if isDig c then ((c :: r).take (runL isDig (c :: r)), if 2147483647 < digV ((c :: r).take (runL isDig (c :: r))) then eR else 0)
   else if bs ((c :: r).take 2) ∈ pairs then ((c :: r).take 2, 0)
   else if c.toNat ∈ symB then ([c], 0)
   else ([c], eS)
def lexL (eS eL eR : Nat) : Nat -> Nat -> List UInt8 -> List Tk
 | 0, i, _ => [⟨i, ⟨#[]⟩, 0⟩]
 | n + 1, i, l =>
   if (tokL eS eL eR (l.drop (skipL false l))).2 ≠ 0 \/ (tokL eS eL eR (l.drop (skipL false l))).1.length = 0 then [⟨i + skipL false l, bs (tokL eS eL eR (l.drop (skipL false l))).1, (tokL eS eL eR (l.drop (skipL false l))).2⟩]
   else ⟨i + skipL false l, bs (tokL eS eL eR (l.drop (skipL false l))).1, (tokL eS eL eR (l.drop (skipL false l))).2⟩ :: lexL eS eL eR n (i + skipL false l + (tokL eS eL eR (l.drop (skipL false l))).1.length) ((l.drop (skipL false l)).drop (tokL eS eL eR (l.drop (skipL false l))).1.length)
theorem skipN_eq (s : ByteArray) : ∀ (n : Nat) (c : Bool) (i : Nat), s.size - i <= n -> skipN s n c i = i + skipL c ((byl s).drop i)
 | 0, c, i, h => by
   have : (byl s).drop i = [] := List.drop_eq_nil_of_le (by rw [byl_len]; omega)
   rw [this]
   simp [skipN, skipL]
 | n + 1, c, i, h => by
   rw [skipN, at_drop]
   cases hd : (byl s).drop i with
   | nil => simp [skipL]
   | cons b r =>
     have hr : (byl s).drop (i + 1) = r := by rw [<- List.drop_drop, hd]; rfl
     have ih := fun c => skipN_eq s n c (i + 1) (by omega)
     simp only [List.head?_cons, skipL, ih, hr]
     split
     · omega
     split
     · omega
     split <;> omega
theorem runN_eq (p : UInt8 -> Bool) (s : ByteArray) : ∀ (n i : Nat), s.size - i <= n -> runN p s n i = i + runL p ((byl s).drop i)
 | 0, i, h => by
   have : (byl s).drop i = [] := List.drop_eq_nil_of_le (by rw [byl_len]; omega)
   rw [this]
   simp [runN, runL]
 | n + 1, i, h => by
   rw [runN, at_drop]
   cases hd : (byl s).drop i with
   | nil => simp [runL]
   | cons b r =>
     have hr : (byl s).drop (i + 1) = r := by rw [<- List.drop_drop, hd]; rfl
     have ih := runN_eq p s n (i + 1) (by omega)
     simp only [List.head?_cons, runL, ih, hr]
     split <;> omega
theorem pairs_size {w : ByteArray} (h : w ∈ pairs) : w.size = 2 := by
 simp only [pairs, List.mem_cons, List.not_mem_nil, or_false] at h
 rcases h with h | h | h | h | h | h <;> rw [h] <;> rfl
theorem tokAt_eq (eS eL eR : Nat) (s : ByteArray) (i : Nat) : tokAt eS eL eR s i = ⟨i, bs (tokL eS eL eR ((byl s).drop i)).1, (tokL eS eL eR ((byl s).drop i)).2⟩ := by
 unfold tokAt
 rw [at_drop]
 cases hd : (byl s).drop i with
 | nil => rfl
 | cons c r =>
   have hlen : s.size - i = r.length + 1 := by
     have := congrArg List.length hd
     rw [List.length_drop, byl_len, List.length_cons] at this
     exact this
   have e1 : ∀ p, s.extract i (runN p s (s.size - i) i) = bs ((c :: r).take (runL p (c :: r))) := fun p => by
     rw [runN_eq p s _ i (Nat.le_refl _), extract_bs, hd]
   have e2 : s.extract i (i + 2) = bs ((c :: r).take 2) := by rw [extract_bs, hd]
   have e3 : s.extract i (i + 1) = bs [c] := by rw [extract_bs, hd]; rfl
   have hw : ∀ p, ((c :: r).take (runL p (c :: r))).length = runL p (c :: r) := fun p => by
     rw [List.length_take, Nat.min_eq_left (runL_le p _)]
   simp only [List.head?_cons, e1, e2, e3, tokL, bs_size, hw, byl_bs, ByteArray.toList_eq]
   split
   · rfl
   split
   · simp [bs]
   have e4 : (i + 2 <= s.size /\ bs ((c :: r).take 2) ∈ pairs) ↔ bs ((c :: r).take 2) ∈ pairs := by
     refine ⟨fun h => h.2, fun h => ⟨?_, h⟩⟩
     have := pairs_size h
     rw [bs_size, List.length_take, List.length_cons] at this
     omega
   simp only [e4]
   split
   · rfl
   split <;> rfl
theorem toksN_eq (eS eL eR : Nat) (s : ByteArray) : ∀ (n i : Nat), toksN eS eL eR s n i = lexL eS eL eR n i ((byl s).drop i)
 | 0, i => rfl
 | n + 1, i => by
   rw [toksN, lexL]
   simp only [skipN_eq s _ false i (Nat.le_refl _), tokAt_eq, bs_size, <- List.drop_drop, toksN_eq eS eL eR s n, List.drop_drop]
end Go.Pm
end SYe
section SYf
namespace Go.Pm
def endsW (p : Bool) (t : ByteArray) : Bool := match (byl t).getLast? with
 | some c => wordB c
 | none => p
def gap (p : Bool) (t : ByteArray) : List UInt8 := if p && startsB wordB t then [32] else []
def emit : Bool -> List ByteArray -> List UInt8
 | _, [] => []
 | p, t :: ts => gap p t ++ (byl t ++ emit (endsW p t) ts)
theorem startsB_eq (p : UInt8 -> Bool) (t : ByteArray) : startsB p t = match (byl t).head? with | some c => p c | none => false := by
 unfold startsB
 rw [at_drop, List.drop_zero]
 all_goals (cases (byl t).head? <;> rfl)
def Tg (w : List UInt8) : Prop :=
 (∃ c r, w = c :: r /\ isLet c = true /\ (∀ b ∈ r, wordB b = true) /\ ¬ (8 < w.length /\ bs w ∉ fieldNames /\ bs w ∉ wordNames)) \/
 (∃ c r, w = c :: r /\ isDig c = true /\ (∀ b ∈ r, isDig b = true) /\ digV w <= 2147483647) \/
 bs w ∈ pairs \/ ∃ c, w = [c] /\ c.toNat ∈ symB
def Fol : List UInt8 -> List UInt8 -> Prop
 | c :: r, d :: _ => if isLet c then wordB d = false else if isDig c then isDig d = false else r = [] -> bs [c, d] ∉ pairs
 | _, _ => True
theorem runL_app (p : UInt8 -> Bool) : ∀ (w r : List UInt8), (∀ b ∈ w, p b = true) -> (∀ d, r.head? = some d -> p d = false) -> runL p (w ++ r) = w.length
 | [], [], _, _ => rfl
 | [], d :: r, _, h => by simp [runL, h d rfl]
 | b :: w, r, h, h2 => by
   simp only [List.cons_append, runL, h b (List.mem_cons_self ..), if_true, List.length_cons]
   rw [runL_app p w r (fun x hx => h x (List.mem_cons_of_mem _ hx)) h2]
theorem let_word {c : UInt8} (h : isLet c = true) : wordB c = true := by simp [wordB, h]
theorem dig_word {c : UInt8} (h : isDig c = true) : wordB c = true := by simp [wordB, h]
theorem pair_cases {w : List UInt8} (h : bs w ∈ pairs) : w = [124, 124] \/ w = [38, 38] \/ w = [60, 61] \/ w = [62, 61] \/ w = [61, 61] \/ w = [33, 61] := by
 simp only [pairs, List.mem_cons, List.not_mem_nil, or_false] at h
 rcases h with h | h | h | h | h | h <;> have := bs_inj h <;> simp [this]
theorem sym_cases {c : UInt8} (h : c.toNat ∈ symB) : c = 123 \/ c = 125 \/ c = 91 \/ c = 93 \/ c = 40 \/ c = 41 \/ c = 61 \/ c = 59 \/ c = 44 \/ c = 60 \/ c = 62 \/ c = 43 \/ c = 45 \/ c = 42 \/ c = 47 \/ c = 33 := by
 simp only [symB, List.mem_cons, List.not_mem_nil, or_false] at h
 simp only [<- UInt8.toNat_inj]
 exact h
theorem tokL_good (eS eL eR : Nat) {w rest : List UInt8} (h : Tg w) (hf : Fol w rest) : tokL eS eL eR (w ++ rest) = (w, 0) := by
 have take_len : ∀ k, k = w.length -> (w ++ rest).take k = w := fun k hk => by rw [hk, List.take_left]
 rcases h with ⟨c, r, rfl, hc, hr, hb⟩ | ⟨c, r, rfl, hc, hr, hb⟩ | hp | ⟨c, rfl, hc⟩
 · have hrun : runL wordB (c :: r ++ rest) = (c :: r).length := by
     apply runL_app
     · intro b hb'
       rcases List.mem_cons.1 hb' with rfl | hb'
       · exact let_word hc
       · exact hr b hb'
     · intro d hd
       cases rest with
       | nil => cases hd
       | cons e rest =>
         cases hd
         simp only [Fol, hc, if_true] at hf
         exact hf
   have ht := take_len _ rfl
   simp only [List.cons_append] at hrun ht ⊢
   simp only [tokL, hc, if_true, hrun, ht, if_neg hb]
 · have hnl : isLet c = false := by
     simp only [isDig, isLet, Bool.and_eq_true, decide_eq_true_eq, Bool.and_eq_false_iff, decide_eq_false_iff_not] at hc ⊢
     omega
   have hrun : runL isDig (c :: r ++ rest) = (c :: r).length := by
     apply runL_app
     · intro b hb'
       rcases List.mem_cons.1 hb' with rfl | hb'
       · exact hc
       · exact hr b hb'
     · intro d hd
       cases rest with
       | nil => cases hd
       | cons e rest =>
         cases hd
         simp only [Fol, hc, hnl, if_true] at hf
         exact hf
   have ht := take_len _ hrun
   simp only [List.cons_append] at hrun ht ⊢
   simp only [tokL, hc, hnl, if_true, ht, if_neg (Nat.not_lt.2 hb)]
   simp
 · rcases pair_cases hp with rfl | rfl | rfl | rfl | rfl | rfl <;> simp [tokL, isLet, isDig, hp]
 · have h2 : bs ((c :: rest).take 2) ∉ pairs := by
     cases rest with
     | nil => intro h; have := pairs_size h; rw [bs_size] at this; simp at this
     | cons d rest =>
       have hl : isLet c = false /\ isDig c = false := by rcases sym_cases hc with rfl | rfl | rfl | rfl | rfl | rfl | rfl | rfl | rfl | rfl | rfl | rfl | rfl | rfl | rfl | rfl <;> exact ⟨rfl, rfl⟩
       simp only [Fol, hl.1, hl.2] at hf
       simpa using hf
   have hl : isLet c = false /\ isDig c = false := by rcases sym_cases hc with rfl | rfl | rfl | rfl | rfl | rfl | rfl | rfl | rfl | rfl | rfl | rfl | rfl | rfl | rfl | rfl <;> exact ⟨rfl, rfl⟩
   simp only [List.cons_append, List.nil_append, tokL, hl.1, hl.2, if_neg h2, if_pos hc, Bool.false_eq_true, if_false]
theorem tg_head {w : List UInt8} (h : Tg w) : ∃ c r, w = c :: r /\ c.toNat ≠ 10 /\ c.toNat ≠ 32 /\ c.toNat ≠ 9 /\ c.toNat ≠ 35 := by
 rcases h with ⟨c, r, rfl, hc, hr, hb⟩ | ⟨c, r, rfl, hc, hr, hb⟩ | hp | ⟨c, rfl, hc⟩
 · simp only [isLet, Bool.and_eq_true, decide_eq_true_eq] at hc
   exact ⟨c, r, rfl, by omega, by omega, by omega, by omega⟩
 · simp only [isDig, Bool.and_eq_true, decide_eq_true_eq] at hc
   exact ⟨c, r, rfl, by omega, by omega, by omega, by omega⟩
 · rcases pair_cases hp with rfl | rfl | rfl | rfl | rfl | rfl <;> exact ⟨_, _, rfl, by decide, by decide, by decide, by decide⟩
 · rcases sym_cases hc with rfl | rfl | rfl | rfl | rfl | rfl | rfl | rfl | rfl | rfl | rfl | rfl | rfl | rfl | rfl | rfl <;> exact ⟨_, _, rfl, by decide, by decide, by decide, by decide⟩
def Adj (t u : ByteArray) : Prop := (t ≠ bs [60] /\ t ≠ bs [62] /\ t ≠ bs [61] /\ t ≠ bs [33]) \/ (byl u).head? ≠ some 61
def Ok2 : List ByteArray -> Prop
 | [] => True
 | t :: r => Tg (byl t) /\ (∀ u, r.head? = some u -> Adj t u) /\ Ok2 r
theorem endsW_sym {w : List UInt8} {p : Bool} (h : bs w ∈ pairs \/ ∃ c, w = [c] /\ c.toNat ∈ symB) : endsW p (bs w) = false := by
 unfold endsW
 rw [byl_bs]
 rcases h with hp | ⟨c, rfl, hc⟩
 · rcases pair_cases hp with rfl | rfl | rfl | rfl | rfl | rfl <;> rfl
 · rcases sym_cases hc with rfl | rfl | rfl | rfl | rfl | rfl | rfl | rfl | rfl | rfl | rfl | rfl | rfl | rfl | rfl | rfl <;> rfl
theorem endsW_word {w : List UInt8} {p : Bool} (h : ∃ c r, w = c :: r /\ wordB c = true /\ ∀ b ∈ r, wordB b = true) : endsW p (bs w) = true := by
 obtain ⟨c, r, rfl, hc, hr⟩ := h
 unfold endsW
 rw [byl_bs]
 cases hl : (c :: r).getLast? with
 | none => simp at hl
 | some b =>
   have := List.mem_of_getLast? hl
   rcases List.mem_cons.1 this with rfl | h
   · exact hc
   · exact hr b h
theorem fol_next {p : Bool} {t u : ByteArray} (ht : Tg (byl t)) (hu : Tg (byl u)) (ha : Adj t u) (r : List UInt8) : Fol (byl t) (gap (endsW p t) u ++ (byl u ++ r)) := by
 obtain ⟨d, w, hd, -⟩ := tg_head hu
 have hs : startsB wordB u = wordB d := by rw [startsB_eq, hd]; rfl
 have hword : (∃ c r, byl t = c :: r /\ wordB c = true /\ ∀ b ∈ r, wordB b = true) -> ∀ e q, gap (endsW p t) u ++ (byl u ++ r) = e :: q -> wordB e = false := fun h e q he => by
   have h1 : endsW p t = true := by
     have := endsW_word (p := p) h
     rwa [bs_byl] at this
   rw [h1, gap, hs, hd] at he
   cases hwd : wordB d with
   | true => simp [hwd] at he; rw [<- he.1]; rfl
   | false => simp [hwd] at he; rw [<- he.1]; exact hwd
 cases he : gap (endsW p t) u ++ (byl u ++ r) with
 | nil => cases byl t <;> trivial
 | cons e q =>
   rcases ht with ⟨c, r', hw, hc, hr, hb⟩ | ⟨c, r', hw, hc, hr, hb⟩ | hp | ⟨c, hw, hc⟩
   · have := hword ⟨c, r', hw, let_word hc, hr⟩ e q he
     rw [hw]
     simp only [Fol, hc, if_true]
     exact this
   · have := hword ⟨c, r', hw, dig_word hc, fun b h => dig_word (hr b h)⟩ e q he
     rw [hw]
     have hnl : isLet c = false := by
       simp only [isDig, isLet, Bool.and_eq_true, decide_eq_true_eq, Bool.and_eq_false_iff, decide_eq_false_iff_not] at hc ⊢
       omega
     simp only [Fol, hc, hnl, if_true]
     simp only [wordB, Bool.or_eq_false_iff] at this
     exact this.2
   · rcases pair_cases hp with h | h | h | h | h | h <;> rw [h] <;> simp [Fol, isLet, isDig]
   · have h1 : endsW p t = false := by
       have := endsW_sym (p := p) (.inr ⟨c, hw, hc⟩)
       rwa [bs_byl] at this
     rw [h1, gap, hd] at he
     simp at he
     have hed : e = d := he.1.symm
     rw [hw]
     have hl : isLet c = false /\ isDig c = false := by rcases sym_cases hc with rfl | rfl | rfl | rfl | rfl | rfl | rfl | rfl | rfl | rfl | rfl | rfl | rfl | rfl | rfl | rfl <;> exact ⟨rfl, rfl⟩
     simp only [Fol, hl.1, hl.2]
     simp only [Bool.false_eq_true, if_false]
     intro _ hpr
     have htb : t = bs [c] := by rw [<- bs_byl t, hw]
     rw [hed] at hpr
     rcases ha with ⟨a1, a2, a3, a4⟩ | ha
     · rcases pair_cases hpr with h | h | h | h | h | h <;> simp only [List.cons.injEq, and_true] at h
       · rw [h.1] at hc; simp [symB] at hc
       · rw [h.1] at hc; simp [symB] at hc
       · exact a1 (by rw [htb, h.1])
       · exact a2 (by rw [htb, h.1])
       · exact a3 (by rw [htb, h.1])
       · exact a4 (by rw [htb, h.1])
     · rw [hd] at ha
       simp only [List.head?_cons] at ha
       rcases pair_cases hpr with h | h | h | h | h | h <;> simp only [List.cons.injEq, and_true] at h
       · rw [h.1] at hc; simp [symB] at hc
       · rw [h.1] at hc; simp [symB] at hc
       · exact ha (by rw [h.2])
       · exact ha (by rw [h.2])
       · exact ha (by rw [h.2])
       · exact ha (by rw [h.2])
end Go.Pm
end SYf
