/- Equal, of the program and of the reference: equal but for marks. The abstract machine's program, printed by a program of our own: group 01n. The abstract machine's programs: tables of functions. The abstract machine's programs: tables of functions. Chapter 13's reference printer: expressions. The abstract machine's programs: tables of functions. Chapter 13's parser: the lexer's reserved words; white space and comments. DEV ONLY: prefixes of bodies. Chapter 13's parser: words and symbols that it asks for. Chapter 13's parser: a statement: the walks. Printed by ku.py. Chapter 13's parser: Parse behind an error. What the laws of chapter 13 call, over any table that has it: Short, Broken, Source, Parse, Print, equal. Chapter 13's law ParserRound. Chapter 13's law ParserEqual: Cut. A node with its kids, as an argument of a law. Chapter 13's law ParserEqual. Chapter 13's law ParserEqual: the rounds, the law. The abstract machine's programs: tables of functions. Chapter 13's laws, over the whole table. Chapter 13's law ParserTail, over the whole table. Chapter 13's law ParserEqual, over the whole table. -/
import Derived.Test.YtjdbkncfebebnaaDoorPmEt
import Derived.Test.YtjdbkncfebebnaaDoorPmFx
import Derived.Test.YtjdbkncfebebnaaDoorPmF3
import Derived.Test.YtjdbkncfebebnaaDoorPmY
import Derived.Lib.SmallJoins
import Derived.KernelRfl
set_option linter.unusedSimpArgs false
set_option linter.unusedVariables false
section SUb
namespace Go.Pm
open F
set_option maxHeartbeats 4000000
abbrev qiZ (k n:Int) (s:ByteArray) (d:D) (k' n':Int) (s':ByteArray) (d':D):S:=[.cells [.int k,.int n,.str s,.dat d],.cells [.int k',.int n',.str s',.dat d']]
def ndEq (k n:Int) (s:ByteArray) (a:Fo) (k' n':Int) (s':ByteArray) (b:Fo):Bool:=(decide (k=k')&&(decide (n=n')&&decide (s=s')))&&a.eqv b
def qnb (a b:Fo):Prop := ∀ (k n:Int) (s:ByteArray) (f:Bool) (k' n':Int) (s':ByteArray) (f':Bool),Z tE (.call 235 [nd k n s f a,nd k' n' s' f' b] [])=some (.ret (.bool (ndEq k n s a k' n' s' b)) [])
def qnc (a:Fo):Prop := ∀ (b:Fo) (ca cb:List D) (m i:Nat) (k n:Int) (s:ByteArray) (f:Bool) (k' n':Int) (s':ByteArray) (f':Bool),ca.drop (i*4)=a.cells->cb.drop (i*4)=b.cells->a.len=b.len->i+a.len=m->m<2 ^ 30 ->
 Z tE (.loop 0 F235l0 [(2,.ptr 0 0),(3,.ptr 1 0),(36,.int m),(37,.int i)] (qiZ k n s (.sl ca m f) k' n' s' (.sl cb m f')))=some (if a.eqv b then .out (.exit 0) [(2,.ptr 0 0),(3,.ptr 1 0),(36,.int m),(37,.int m),(38,.bool false)] (qiZ k n s (.sl ca m f) k' n' s' (.sl cb m f')) else .out .ret [(4,.bool false)] (qiZ k n s (.sl ca m f) k' n' s' (.sl cb m f')))
theorem qjO {a:Fo} (hq:qnc a) (ha:a.len<2 ^ 30) (b:Fo):qnb a b:=by
 intro k n s f k' n' s' f'
 refine Z_call (pf:=F235) rfl rfl ?_
 unfold ndEq
 by_cases h1:k=k'
 ·by_cases h2:n=n'
  ·by_cases h3:s=s'
   ·subst h1 h2 h3
    by_cases h4:a.len=b.len
    ·cases hl:a.len with
     | zero=>
      have hb:b.len=0:=by omega
      have e:a.eqv b=true:=by
       cases a with
       | nil=>cases b with | nil=>rfl | cons=>simp at hb
       | cons=>simp at hl
      have z0:Z tE (.loop 0 F235l0 [(2,.ptr 0 0),(3,.ptr 1 0),(36,.int 0),(37,.int 0)] (qiZ k n s (.lit (.slice none 0 0)) k n s (.lit (.slice none 0 0))))=some (.out (.exit 0) [(2,.ptr 0 0),(3,.ptr 1 0),(36,.int 0),(37,.int 0),(38,.bool false)] (qiZ k n s (.lit (.slice none 0 0)) k n s (.lit (.slice none 0 0)))):=by
       rw[qar]
       simp -implicitDefEqProofs [qaq,qcP,qfU,List.range_succ]
      have hh:nd k n s f a = .dat (.agg [.lit (.int .i64 k),.lit (.int .i64 n),.lit (.string s),.lit (.slice none 0 0)]):=by rw[nd,hl,qmj]
      have hh':nd k n s f' b = .dat (.agg [.lit (.int .i64 k),.lit (.int .i64 n),.lit (.string s),.lit (.slice none 0 0)]):=by rw[nd,hb,qmj]
      rw[hh,hh']
      simp -implicitDefEqProofs [F235,z0,e,qbh,qfU,List.range_succ]
     | succ q=>
      have z:=hq b a.cells b.cells a.len 0 k n s f k n s f' (by simp) (by simp) h4 (by omega) ha
      have hb:b.len=a.len:=h4.symm
      have ka : ∀ g cs,kd g (q+1) cs = .sl cs (q+1) g:=fun g cs=>rfl
      have hh : ∀ g (c:Fo),c.len=q+1->nd k n s g c = .dat (.agg [.lit (.int .i64 k),.lit (.int .i64 n),.lit (.string s),.sl c.cells (q+1) g]):=fun g c hc=>by rw[nd,hc,ka]
      rw[hh f a hl,hh f' b (hb.trans hl)]
      rw[hl] at z
      clear hh ka hq hb hl h4 ha
      generalize q+1=m at *
      simp only[Int.cast_ofNat_Int] at z
      by_cases he:a.eqv b=true
      ·rw[if_pos he] at z
       simp -implicitDefEqProofs [F235,z,he,qbh,qbV,List.range_succ]
      ·rw[if_neg he] at z
       simp -implicitDefEqProofs [F235,z,he,qbh,qbV,List.range_succ]
    ·have he:a.eqv b=false:=by
      cases h:a.eqv b with
      | false=>rfl
      | true=>exact absurd (qg9 h) h4
     have h4' : ¬ (a.len:Int)=b.len:=by omega
     simp -implicitDefEqProofs [F235,h4,h4',he,qbh,List.range_succ]
   ·simp -implicitDefEqProofs [F235,h1,h2,h3,qbh,List.range_succ]
  ·simp -implicitDefEqProofs [F235,h1,h2,qbh,List.range_succ]
 ·simp -implicitDefEqProofs [F235,h1,qbh,List.range_succ]
theorem qgT : ∀ a:Fo,a.size<2 ^ 30->qnc a
 | .nil,_=>by
  intro b ca cb m i k n s f k' n' s' f' hA hB hl hm hm2
  cases b with
  | cons=>simp at hl
  | nil=>
   have:i=m:=by simpa using hm
   subst this
   rw[show Fo.nil.eqv .nil=true from rfl,if_pos rfl,qar]
   simp -implicitDefEqProofs [qaq,qcP,qbV,List.range_succ]
 | .cons ka na sa fa ksa ra,hsz=>by
  intro b ca cb m i k n s f k' n' s' f' hA hB hl hm hm2
  cases b with
  | nil=>simp at hl
  | cons kb nb sb fb ksb rb=>
   simp only[qaP] at hsz
   have hks:=qjO (qgT ksa (by omega)) (by have:=qcn ksa; omega) ksb ka na sa fa kb nb sb fb
   simp only[qa2,qbn] at hA hB hl hm
   have c1:=qjX hA
   have c2:=qjX hB
   have hlt:(i:Int)<m:=by omega
   have hlt':i<m:=by omega
   have w1:IntKind.i64.wrap ((i:Int)+1)=((i+1:Nat):Int):=by rw[qb5 _ (by omega)]; omega
   have ih:=qgT ra (by omega) rb ca cb m (i+1) k n s f k' n' s' f' (qdC hA) (qdC hB) (by omega) (by omega) hm2
   rw[show (Fo.cons ka na sa fa ksa ra).eqv (.cons kb nb sb fb ksb rb)=(ndEq ka na sa ksa kb nb sb ksb&&ra.eqv rb) by simp[Fo.eqv,ndEq,Bool.and_assoc]]
   simp only[nd] at hks
   generalize ndEq ka na sa ksa kb nb sb ksb=B at *
   generalize ((i+1:Nat):Int)=i1 at *
   cases B with
   | true=>
    rw[Bool.true_and,<- ih]
    conv=>lhs; rw[qar]
    simp -implicitDefEqProofs [qaq,qcP,qay,qbV,c1,c2,hlt,hlt',hks,w1,List.range_succ]
   | false=>
    rw[Bool.false_and,if_neg (by simp)]
    rw[qar]
    simp -implicitDefEqProofs [qaq,qcP,qay,qbV,c1,c2,hlt,hlt',hks,List.range_succ]
theorem qfI {a b:Fo} (ha:a.size<2 ^ 30):qnb a b:=qjO (qgT a ha) (by have:=qcn a; omega) b
def qnd (a b:Fo):Prop := ∀ (k n:Int) (s:ByteArray) (f:Bool) (k' n':Int) (s':ByteArray) (f':Bool),Z tE (.call 238 [nd k n s f a,nd k' n' s' f' b] [])=some (.ret (.bool (ndEq k n s a k' n' s' b)) [])
def qne (a:Fo):Prop := ∀ (b:Fo) (ca cb:List D) (m i:Nat) (k n:Int) (s:ByteArray) (f:Bool) (k' n':Int) (s':ByteArray) (f':Bool),ca.drop (i*4)=a.cells->cb.drop (i*4)=b.cells->a.len=b.len->i+a.len=m->m<2 ^ 30 ->
 Z tE (.loop 0 F238l0 [(2,.ptr 0 0),(3,.ptr 1 0),(5,.int i)] (qiZ k n s (.sl ca m f) k' n' s' (.sl cb m f')))=some (if a.eqv b then .out (.exit 0) [(2,.ptr 0 0),(3,.ptr 1 0),(5,.int m),(38,.bool false)] (qiZ k n s (.sl ca m f) k' n' s' (.sl cb m f')) else .out .ret [(4,.bool false)] (qiZ k n s (.sl ca m f) k' n' s' (.sl cb m f')))
theorem qjP {a:Fo} (hq:qne a) (ha:a.len<2 ^ 30) (b:Fo):qnd a b:=by
 intro k n s f k' n' s' f'
 refine Z_call (pf:=F238) rfl rfl ?_
 unfold ndEq
 by_cases h1:k=k'
 ·by_cases h2:n=n'
  ·by_cases h3:s=s'
   ·subst h1 h2 h3
    by_cases h4:a.len=b.len
    ·cases hl:a.len with
     | zero=>
      have hb:b.len=0:=by omega
      have e:a.eqv b=true:=by
       cases a with
       | nil=>cases b with | nil=>rfl | cons=>simp at hb
       | cons=>simp at hl
      have z0:Z tE (.loop 0 F238l0 [(2,.ptr 0 0),(3,.ptr 1 0),(5,.int 0)] (qiZ k n s (.lit (.slice none 0 0)) k n s (.lit (.slice none 0 0))))=some (.out (.exit 0) [(2,.ptr 0 0),(3,.ptr 1 0),(5,.int 0),(38,.bool false)] (qiZ k n s (.lit (.slice none 0 0)) k n s (.lit (.slice none 0 0)))):=by
       rw[qar]
       simp -implicitDefEqProofs [qaq,qcW,qfU,List.range_succ]
      have hh:nd k n s f a = .dat (.agg [.lit (.int .i64 k),.lit (.int .i64 n),.lit (.string s),.lit (.slice none 0 0)]):=by rw[nd,hl,qmj]
      have hh':nd k n s f' b = .dat (.agg [.lit (.int .i64 k),.lit (.int .i64 n),.lit (.string s),.lit (.slice none 0 0)]):=by rw[nd,hb,qmj]
      rw[hh,hh']
      simp -implicitDefEqProofs [F238,z0,e,qbh,qfU,List.range_succ]
     | succ q=>
      have z:=hq b a.cells b.cells a.len 0 k n s f k n s f' (by simp) (by simp) h4 (by omega) ha
      have hb:b.len=a.len:=h4.symm
      have ka : ∀ g cs,kd g (q+1) cs = .sl cs (q+1) g:=fun g cs=>rfl
      have hh : ∀ g (c:Fo),c.len=q+1->nd k n s g c = .dat (.agg [.lit (.int .i64 k),.lit (.int .i64 n),.lit (.string s),.sl c.cells (q+1) g]):=fun g c hc=>by rw[nd,hc,ka]
      rw[hh f a hl,hh f' b (hb.trans hl)]
      rw[hl] at z
      clear hh ka hq hb hl h4 ha
      generalize q+1=m at *
      simp only[Int.cast_ofNat_Int] at z
      by_cases he:a.eqv b=true
      ·rw[if_pos he] at z
       simp -implicitDefEqProofs [F238,z,he,qbh,qbV,List.range_succ]
      ·rw[if_neg he] at z
       simp -implicitDefEqProofs [F238,z,he,qbh,qbV,List.range_succ]
    ·have he:a.eqv b=false:=by
      cases h:a.eqv b with
      | false=>rfl
      | true=>exact absurd (qg9 h) h4
     have h4' : ¬ (a.len:Int)=b.len:=by omega
     simp -implicitDefEqProofs [F238,h4,h4',he,qbh,List.range_succ]
   ·simp -implicitDefEqProofs [F238,h1,h2,h3,qbh,List.range_succ]
  ·simp -implicitDefEqProofs [F238,h1,h2,qbh,List.range_succ]
 ·simp -implicitDefEqProofs [F238,h1,qbh,List.range_succ]
theorem qgU : ∀ a:Fo,a.size<2 ^ 30->qne a
 | .nil,_=>by
  intro b ca cb m i k n s f k' n' s' f' hA hB hl hm hm2
  cases b with
  | cons=>simp at hl
  | nil=>
   have:i=m:=by simpa using hm
   subst this
   rw[show Fo.nil.eqv .nil=true from rfl,if_pos rfl,qar]
   simp -implicitDefEqProofs [qaq,qcW,qbV,List.range_succ]
 | .cons ka na sa fa ksa ra,hsz=>by
  intro b ca cb m i k n s f k' n' s' f' hA hB hl hm hm2
  cases b with
  | nil=>simp at hl
  | cons kb nb sb fb ksb rb=>
   simp only[qaP] at hsz
   have hks:=qjP (qgU ksa (by omega)) (by have:=qcn ksa; omega) ksb ka na sa fa kb nb sb fb
   simp only[qa2,qbn] at hA hB hl hm
   have c1:=qjX hA
   have c2:=qjX hB
   have hlt:(i:Int)<m:=by omega
   have hlt':i<m:=by omega
   have w1:IntKind.i64.wrap ((i:Int)+1)=((i+1:Nat):Int):=by rw[qb5 _ (by omega)]; omega
   have ih:=qgU ra (by omega) rb ca cb m (i+1) k n s f k' n' s' f' (qdC hA) (qdC hB) (by omega) (by omega) hm2
   rw[show (Fo.cons ka na sa fa ksa ra).eqv (.cons kb nb sb fb ksb rb)=(ndEq ka na sa ksa kb nb sb ksb&&ra.eqv rb) by simp[Fo.eqv,ndEq,Bool.and_assoc]]
   simp only[nd] at hks
   generalize ndEq ka na sa ksa kb nb sb ksb=B at *
   generalize ((i+1:Nat):Int)=i1 at *
   cases B with
   | true=>
    rw[Bool.true_and,<- ih]
    conv=>lhs; rw[qar]
    simp -implicitDefEqProofs [qaq,qcW,qay,qbV,c1,c2,hlt,hlt',hks,w1,List.range_succ]
   | false=>
    rw[Bool.false_and,if_neg (by simp)]
    rw[qar]
    simp -implicitDefEqProofs [qaq,qcW,qay,qbV,c1,c2,hlt,hlt',hks,List.range_succ]
theorem qjb {a b:Fo} (ha:a.size<2 ^ 30):qnd a b:=qjP (qgU a ha) (by have:=qcn a; omega) b
end Go.Pm
end SUb
section SF01n
namespace Go.Pm.F
variable (C:Task->Option Res) (q:Nat) (fr:Fr) (σ : S)
def F225:PFun:=⟨2,[.tmp 4],.seq (rn [jj 4 (.mov (.c (.string ⟨#[]⟩)))] [0,1]) (.seq (.seq (rn [mv 5 0,lz 6 5,mv 7 1,bn 8 .gtr 6 7] [0,1,8]) (.cond (.t 8) (.seq (rn [mv 9 0,mv 10 1,jj 11 (.sliceS (.t 9) none (some (.t 10))),mv 4 11] [4]) (.ret)) (.skip))) (.seq (rn [mv 12 0,mv 4 12] [4]) (.ret))),false,false,false⟩
end Go.Pm.F
end SF01n
section STK
namespace Go.Pm.F
def tK:Nat->Option PFun
 | 225=>some F225
 | 229=>some F229
 | _=>none
def tKd:Nat->Option PFun
 | _=>none
end Go.Pm.F
end STK
section STS
namespace Go.Pm.F
def tS:Nat->Option PFun
 | _=>none
end Go.Pm.F
end STS
section SSb
namespace Go.Pm
open F
set_option maxHeartbeats 8000000
inductive Parts:List ByteArray->List ByteArray->Prop
 | nil:Parts [] []
 | tok {t:ByteArray} {l ts:List ByteArray} (h:Parts l ts):Parts (t::l) (t::ts)
 | sub {a l ts:List ByteArray} (ha : ∀ t∈a,t.size≠0) (h:Parts l ts):Parts (bs (qng false a)::l) (a++ts)
end Go.Pm
end SSb
section STP
namespace Go.Pm.F
def tP:Nat->Option PFun
 | 228=>some F228
 | 239=>some F239
 | 240=>some F240
 | 241=>some F241
 | 242=>some F242
 | 249=>some F249
 | 250=>some F250
 | 251=>some F251
 | 252=>some F252
 | 253=>some F253
 | 254=>some F254
 | 255=>some F255
 | 256=>some F256
 | 264=>some F264
 | 265=>some F265
 | 266=>some F266
 | 267=>some F267
 | 268=>some F268
 | 269=>some F269
 | 270=>some F270
 | 271=>some F271
 | 275=>some F275
 | 276=>some F276
 | 277=>some F277
 | 278=>some F278
 | 279=>some F279
 | 280=>some F280
 | 281=>some F281
 | 284=>some F284
 | 285=>some F285
 | 286=>some F286
 | 287=>some F287
 | 289=>some F289
 | 290=>some F290
 | 292=>some F292
 | 297=>some F297
 | 303=>some F303
 | 304=>some F304
 | 307=>some F307
 | 308=>some F308
 | 309=>some F309
 | _=>none
end Go.Pm.F
end STP
section SKb
namespace Go.Pm
open F
set_option maxHeartbeats 4000000
def kwL:List (List UInt8 × Int):=[([111,110],2),([97,99,116],2),([116,105,99,107],2),([105,102],2),([101,108,115,101],2),([119,104,105,108,101],2),([101,102,102,101,99,116],2),([115,116,111,112],2),([116,114,117,101],2),([102,97,108,115,101],2),([115,101,108,102],2),([111,116,104,101,114],2),([120],3),([121],3),([118,120],3),([118,121],3),([97],3),([98],3),([104,105,116],3),([115,116,105,108,108],3)]
def kwM:List (Value × V):=kwL.map fun x=>(.string ⟨x.1.toArray⟩,.int x.2)
abbrev pO (s:ByteArray) (m:Nat) (Q:V) (i a c:Int):Ob := .cells [.str s,.mp m,Q,.int i,.int a,.int c]
inductive LxS (s:ByteArray):S->Prop
 | nil (i a c:Int):LxS s [pO s 1 (.dat (.lit (.slice none 0 0))) i a c,.map kwM]
 | gr (cs:List D) (n t:Nat) (i a c:Int):LxS s [pO s 1 (.gsl cs n 5 2) i a c,.map kwM,.tip t]
theorem qfE:qer kwM=[]:=rfl
theorem qhk (r:Nat->Nat):qjM r kwM=kwM:=rfl
attribute [local simp] qfE qhk
end Go.Pm
end SKb
section SDev
namespace Go.Pm
@[simp] def qkD:Nat->PC->PC
 | n+1,.seq a b => .seq a (qkD n b)
 | 0,_ => .skip
 | _,p=>p
end Go.Pm
end SDev
section SKj
namespace Go.Pm
open F
set_option maxHeartbeats 4000000
attribute [local simp] qfE qhk dkey
def WfQ (T:List Tk):Prop := ∀ i t,T.drop i=[t]->t.bad≠0\/t.s=⟨#[]⟩
section
variable {s:ByteArray} {T:List Tk} {i:Nat} {a c:Int} {t:Tk} {r:List Tk}
theorem WfQ.next (hw:WfQ T) (h:T.drop i=t::r) (hb:t.bad=0) (hs:t.s≠⟨#[]⟩):T.drop (i+1)=r/\r≠[]:=by
 refine⟨by rw[<- List.drop_drop,h]; rfl,?_⟩
 rintro rfl
 rcases hw i t h with h1 | h1
 ·exact h1 hb
 ·exact hs h1
end
end Go.Pm
end SKj
section SKu
namespace Go.Pm
open F
set_option maxHeartbeats 4000000
attribute [local simp] qfE qhk dkey
abbrev nv (k:Int) (x:ByteArray) (d:D):V := .dat (.agg [.lit (.int .i64 k),.lit (.int .i64 0),.lit (.string x),d])
end Go.Pm
end SKu
section SMg
namespace Go.Pm
open F
set_option maxHeartbeats 4000000
attribute [local simp] qfE qhk dkey
section
variable {s:ByteArray} {T:List Tk} {i':Nat} {a c:Int}
abbrev q0:Nat->N4:=fun _=>qnB none
end
end Go.Pm
end SMg
section SUh
namespace Go.Pm
open F
set_option maxHeartbeats 4000000
abbrev Sub (p q:Nat->Option PFun):Prop := ∀ f pf,p f=some pf->q f=some pf
structure Has (prog:Nat->Option PFun):Prop where
 b:Sub qd6 prog
 r:Sub tR prog
 s:Sub tS prog
 p:Sub tP prog
 q:Sub tQ prog
 e:Sub tE prog
 k:Sub tK prog
section
variable {prog:Nat->Option PFun} (H:Has prog)
include H
theorem qik (s:ByteArray) {m:Nat} (hm:m<=1000) : ∃ t:ByteArray,t.size<=m/\Z prog (.call 225 [.str s,.int m] [])=some (.ret (.str t) []):=by
 by_cases h:m<s.size
 ·refine⟨s.extract 0 m,by rw[ByteArray.size_extract]; omega,?_⟩
  have h1:(m:Int)<s.size:=by omega
  have h2:(m:Int)<=s.size:=by omega
  refine Z_call (H.k 225 F225 rfl) rfl ?_
  simp[F225,V.len,h,h1,h2,qfF,bound]
 ·refine⟨s,by omega,?_⟩
  have h1 : ¬ (m:Int)<s.size:=by omega
  refine Z_call (H.k 225 F225 rfl) rfl ?_
  simp[F225,V.len,h,h1]
end
end Go.Pm
end SUh
section SUj
namespace Go.Pm
open F
set_option maxHeartbeats 8000000
theorem qiW (A:Nd):ndEq A.k A.n A.s A.ks A.k A.n A.s A.ks=true:=by simp[ndEq,qf1]
structure HasD (prog:Nat->Option PFun):Prop extends Has prog where
 kd:Sub tKd prog
end Go.Pm
end SUj
section SWh
namespace Go.Pm
open F
set_option maxHeartbeats 8000000
def n4C:List N4->List D
 | []=>[]
 | x::r => .lit (.int .i64 x.k) :: .lit (.int .i64 x.n) :: .lit (.string x.s)::x.d::n4C r
theorem qhv : ∀ (L:List N4) (i:Nat),(n4C L).drop (i*4)=n4C (L.drop i)
 | L,0=>by simp
 | [],i+1=>by simp[n4C]
 | x::L,i+1=>by
  rw[show (i+1)*4=i*4+1+1+1+1 by omega]
  simp only[n4C,List.drop_succ_cons,qhv L i]
theorem qiB {L:List N4} {i:Nat} (h:i<L.length):qah (n4C L) (i*4) 4=some [.lit (.int .i64 L[i].k),.lit (.int .i64 L[i].n),.lit (.string L[i].s),L[i].d]:=by
 refine qjX (r:=n4C (L.drop (i+1))) ?_
 rw[qhv,List.drop_eq_getElem_cons h]
 rfl
def qd8:Nat->D->Prop
 | 0,d => ∃ n:Nat,∀ σ,V.len σ .sl (.dat d)=some (n:Int)
 | j+1,d=>(∃ o c,d = .lit (.slice o 0 c)) \/ ∃ L:List N4,d = .sl (n4C L) L.length false /\ ∀ x∈L,qd8 j x.d
def qi0:Nat->Nat
 | 0=>0
 | j+1=>3*(1+qi0 j)
def tKe:Nat->Option PFun
 | 223=>some F223
 | 225=>some F225
 | 237=>some F237
 | _=>none
def qnh (prog:Nat->Option PFun) (j:Nat):Prop := ∀ (x:N4),qd8 j x.d -> ∃ (s:ByteArray) (f:Bool) (t:Fo),t.size<=qi0 j/\Z prog (.call 237 [.dat (.agg [.lit (.int .i64 x.k),.lit (.int .i64 x.n),.lit (.string x.s),x.d]),.int j] [])=some (.ret (nd x.k x.n s f t) [])
abbrev qkP (x:N4):Ob := .cells [.int x.k,.int x.n,.str x.s,.dat x.d]
abbrev qkQ:Ob := .cells [.int 0,.int 0,.str ⟨#[]⟩,.dat (.lit (.slice none 0 0))]
abbrev qjk (x:N4) (s:ByteArray):S:=[qkP x,qkQ,.cells [.int x.k,.int x.n,.str s,.dat (.lit (.slice none 0 0))]]
abbrev qiC (x:N4) (s:ByteArray) (A:Fo):S:=[qkP x,qkQ,.cells [.int x.k,.int x.n,.str s,.gsl A.cells A.len 4 3],.tip A.cells.length]
abbrev qf5 (J i:Int):Fr:=[(1,.int J),(2,.ptr 0 0),(4,.ptr 1 0),(5,.ptr 2 0),(6,.int i)]
section
variable {prog:Nat->Option PFun} (H:Has prog) (hke:Sub tKe prog)
theorem qhw {x:N4} {s:ByteArray} {J i:Int} {n:Nat} (hl : ∀ σ,V.len σ .sl (.dat x.d)=some (n:Int)) (h : ¬ i<n \/ ¬ i<3 \/ ¬ 0<J):Z prog (.loop 0 F237l0 (qf5 J i) (qjk x s))=some (.out (.exit 0) (qf5 J i++[(27,.bool false)]) (qjk x s)):=by
 have o:=x.one
 have k:=x.cl
 rw[qar]
 by_cases h1:i<n
 ·by_cases h2:i<3
  ·have h3 : ¬ 0<J:=by omega
   simp[qaq,qbp,hl,h1,h2,h3,o,k,List.range_succ]
  ·simp[qaq,qbp,hl,h1,h2,o,k,List.range_succ]
 ·simp[qaq,qbp,hl,h1,o,k,List.range_succ]
theorem qiD {x:N4} {s:ByteArray} {L:List N4} (hd:x.d = .sl (n4C L) L.length false) (h0:0<L.length) {J J':Int} (hJ:0<J) (hJ':IntKind.i64.wrap (J-1)=J') {k n:Int} {t:ByteArray} {f:Bool} {ks:Fo}
  (zc:Z prog (.call 237 [.dat (.agg [.lit (.int .i64 L[0].k),.lit (.int .i64 L[0].n),.lit (.string L[0].s),L[0].d]),.int J'] [])=some (.ret (nd k n t f ks) [])) :
  Z prog (.loop 0 F237l0 (qf5 J 0) (qjk x s))=Z prog (.loop 0 F237l0 (qf5 J 1) (qiC x s (.cons k n t f ks .nil))):=by
 have o:=L[0].one
 have c:=L[0].cl
 have hc:=qiB h0
 have hlt:(0:Int)<L.length:=by omega
 have hr:qa4 1 56=true:=by decide
 generalize L[0]=y at *
 generalize n4C L=C at *
 generalize L.length=m at *
 simp only[nd,qjk,qiC,qf5,qkP,qkQ,hd] at zc ⊢
 conv=>lhs; rw[qar]
 simp[qaq,qbp,qay,V.len,hlt,h0,hc,o,c,hJ,hJ',zc,qdG,qlj,hr,List.range_succ,show IntKind.i64.wrap 1=1 from rfl]
 all_goals exact qda (by simp[gcF,List.range_succ])
theorem qjl {x:N4} {s:ByteArray} {L:List N4} (hd:x.d = .sl (n4C L) L.length false) {i:Nat} (h1:1<=i) (hi:i<L.length) (h3:i<3) {A:Fo} (hA:A.len=i) {J J':Int} (hJ:0<J) (hJ':IntKind.i64.wrap (J-1)=J') {k n:Int} {t:ByteArray} {f:Bool} {ks:Fo}
  (zc:Z prog (.call 237 [.dat (.agg [.lit (.int .i64 L[i].k),.lit (.int .i64 L[i].n),.lit (.string L[i].s),L[i].d]),.int J'] [])=some (.ret (nd k n t f ks) [])) :
  Z prog (.loop 0 F237l0 (qf5 J i) (qiC x s A))=Z prog (.loop 0 F237l0 (qf5 J ((i+1:Nat):Int)) (qiC x s (A.app (.cons k n t f ks .nil)))):=by
 have o:=L[i].one
 have c:=L[i].cl
 have hc:=qiB hi
 have hlt:(i:Int)<L.length:=by omega
 have hlt3:(i:Int)<3:=by omega
 have hr:qa4 (i+1) 56=true:=by simp only[qa4,decide_eq_true_eq]; omega
 have w1:IntKind.i64.wrap ((i:Int)+1)=((i+1:Nat):Int):=by rw[qb5 _ (by omega)]; omega
 have hl:=qgB A
 simp only[qiC,qgA,qfn,hA]
 rw[hA] at hl
 generalize ((i+1:Nat):Int)=i1 at *
 generalize L[i]=y at *
 generalize n4C L=C at *
 generalize L.length=m at *
 generalize A.cells=D at *
 simp only[nd,qf5,qkP,qkQ,hd] at zc ⊢
 conv=>lhs; rw[qar]
 simp[qaq,qbp,qay,V.len,hlt,hlt3,hi,hc,o,c,hJ,hJ',zc,qdG,qlj,hr,hl,w1,List.range_succ]
 all_goals exact qda (by simp[gcF,List.range_succ])
theorem qhx {x:N4} {s:ByteArray} {L:List N4} (hd:x.d = .sl (n4C L) L.length false) {A:Fo} {J:Int} (hJ:0<J) {i:Nat} (h : ¬ i<L.length \/ ¬ i<3):Z prog (.loop 0 F237l0 (qf5 J i) (qiC x s A))=some (.out (.exit 0) (qf5 J i++[(27,.bool false)]) (qiC x s A)):=by
 have hl : ∀ σ,V.len σ .sl (.dat x.d)=some L.length:=fun σ=>by rw[hd]; rfl
 have o:=x.one
 have k:=x.cl
 rw[qar]
 by_cases h1:(i:Int)<L.length
 ·have h2 : ¬ (i:Int)<3:=by omega
  simp[qaq,qbp,hl,h1,h2,hJ,o,k,List.range_succ]
 ·simp[qaq,qbp,hl,h1,hJ,o,k,List.range_succ]
end
end Go.Pm
end SWh
section SX4
namespace Go.Pm
open Go
def NodeV (w:World) (y:N4) (cs:List Value):Prop:=(∀ j,qd8 j y.d)/\RepDs (qgL w) w [.lit (.int .i64 y.k),.lit (.int .i64 y.n),.lit (.string y.s),y.d] cs/\cs.length=4 /\ ∀ v∈cs,v.oneCell'=true
theorem qkg (a:Addr) (i m:Nat):(a.add i).add m=a.add (i+m):=by
 unfold Addr.add
 by_cases h1:i=0
 ·subst h1; simp
 ·by_cases h2:m=0
  ·subst h2; simp
  ·rw[if_neg h1,if_neg h2,if_neg (by omega)]
   simp only[Nat.add_assoc]
theorem qhW {F:Nat->Nat} {w:World} {a b c d:D} {l:List D} {cs vs:List Value} (h:RepDs F w [a,b,c,d] cs) (hl:RepDs F w l vs):RepDs F w (a::b::c::d::l) (cs++vs):=by
 obtain⟨x1,r1,rfl,h1,x2,r2,rfl,h2,x3,r3,rfl,h3,x4,r4,rfl,h4,rfl⟩:=h
 exact⟨_,_,rfl,h1,_,_,rfl,h2,_,_,rfl,h3,_,_,rfl,h4,hl⟩
section
variable {H:Type} {enc:TypeId × Value->H} {P:Program} {w:World} {base:Nat} {spare:Nat->Bool} {held:Bool} {tn:TypeId} {f0 f1 f2 f3:Field}
theorem qgm {a:Addr} {len:Nat} (h : ∀ i,i<len -> ∃ (cs:List Value) (y:N4),w.cells? base (a.add (i*4)) 4=some cs/\NodeV w y cs) : ∀ (k i:Nat),i+k=len -> ∃ (L:List N4) (vs:List Value),L.length=k/\(∀ y∈L,∀ j,qd8 j y.d)/\RepDs (qgL w) w (n4C L) vs/\vs.length=4*k/\(∀ v∈vs,v.oneCell'=true) /\ ∀ (m:Nat) (v:Value),vs[m]?=some v->w.cell? (a.add (i*4+m))=some v
 | 0,i,_=>⟨[],[],rfl,by simp,rfl,rfl,by simp,by simp⟩
 | k+1,i,hi=>by
  obtain⟨cs,y,hc,hk,hr,hl,ho⟩:=h i (by omega)
  obtain⟨L,vs,l1,l2,l3,l4,l5,l6⟩:=qgm h k (i+1) (by omega)
  obtain⟨_,_,hcell⟩:=World.cells?_some hc
  refine⟨y::L,cs++vs,by simp[l1],?_,qhW hr l3,by rw[List.length_append,hl,l4]; omega,?_,?_⟩
  ·intro z hz
   rcases List.mem_cons.1 hz with rfl | hz
   ·exact hk
   ·exact l2 z hz
  ·intro v hv
   rcases List.mem_append.1 hv with hv | hv
   ·exact ho v hv
   ·exact l5 v hv
  ·intro m v hv
   by_cases hm:m<4
   ·rw[List.getElem?_append_left (by omega)] at hv
    rw[<- hv,<- hcell m hm]
    rw[qkg]
   ·rw[List.getElem?_append_right (by omega),hl] at hv
    have:=l6 (m-4) v hv
    rw[<- this]
    congr 2
    omega
theorem node_rep (hN:P.underlying tn=some (.struct #[f0,f1,f2,f3])) (hone:Go.Deep.oneCellFields P #[f0,f1,f2,f3]=true) (hC:P.cellsOf tn=4)
  (h0:P.underlying f0.type=some (.int .i64)) (h1:P.underlying f1.type=some (.int .i64)) (h2:P.underlying f2.type=some .string) (h3:P.underlying f3.type=some (.slice tn)) :
  ∀ (fuel:Nat) (cs:List Value) (x:DataW H × List MemPlace),DataW.trod enc P w base spare held fuel tn cs=some x -> ∃ y,NodeV w y cs
 | fuel,cs,x,h=>by
  obtain⟨xs,n,hfu,-,hl,hlen,hf⟩:=DataW.trod_struct hN h
  rw[hC] at hl
  obtain⟨c0,c1,c2,c3,rfl⟩ : ∃ a b c d,cs=[a,b,c,d]:=by
   match cs,hl with
   | [a,b,c,d],_=>exact⟨a,b,c,d,rfl⟩
  have get : ∀ i (f:Field),#[f0,f1,f2,f3][i]?=some f -> ∃ z,DataW.trod enc P w base spare held n f.type (([c0,c1,c2,c3].drop i).take 1)=some z:=fun i f hi=>by
   obtain⟨o,k⟩:=Go.Deep.hone_of hone i f hi
   have:=hf i f hi
   rw[o,k] at this
   have hlt:i<xs.length:=by
    have:=(Array.getElem?_eq_some_iff.1 hi).1
    rw[hlen]
    exact this
   exact⟨xs[i],by rw[this,List.getElem?_eq_getElem hlt]⟩
  obtain⟨z0,t0⟩:=get 0 f0 rfl
  obtain⟨z1,t1⟩:=get 1 f1 rfl
  obtain⟨z2,t2⟩:=get 2 f2 rfl
  obtain⟨z3,t3⟩:=get 3 f3 rfl
  obtain⟨k,e0,-,-⟩:=DataW.trod_int h0 t0
  obtain⟨m,e1,-,-⟩:=DataW.trod_int h1 t1
  obtain⟨s,e2,-,-⟩:=DataW.trod_string h2 t2
  obtain rfl:c0 = .int .i64 k:=by simpa using e0
  obtain rfl:c1 = .int .i64 m:=by simpa using e1
  obtain rfl:c2 = .string s:=by simpa using e2
  have fin : ∀ (d:D) (c:Value),c3=c->V.one (.dat d)=true->V.cells (.dat d)=[.dat d]->(∀ j,qd8 j d)->RepD (qgL w) w d c->c.oneCell'=true -> ∃ y,NodeV w y [.int .i64 k,.int .i64 m,.string s,c3]:=by
   rintro d _ rfl q1 q2 q3 q4 q5
   refine⟨⟨k,m,s,d,q1,q2⟩,q3,⟨_,_,rfl,⟨rfl,rfl⟩,_,_,rfl,⟨rfl,rfl⟩,_,_,rfl,⟨rfl,rfl⟩,_,_,rfl,q4,rfl⟩,rfl,?_⟩
   intro v hv
   simp only[List.mem_cons,List.not_mem_nil,or_false] at hv
   rcases hv with rfl | rfl | rfl | rfl
   ·rfl
   ·rfl
   ·rfl
   ·exact q5
  rcases DataW.trod_slice h3 t3 with ⟨hc,-⟩ | ⟨a,len,cap,elems,rest,n',hn',hc,-,-,hle,-,hel,helem,-,-⟩
  ·exact fin (.lit (.slice none 0 0)) _ (by simpa using hc) rfl rfl (fun j=>match j with | 0=>⟨0,fun σ => rfl⟩ | j+1 => .inl ⟨_,_,rfl⟩) ⟨rfl,rfl⟩ rfl
  ·have hc3:c3 = .slice (some a) len cap:=by simpa using hc
   by_cases hz:len=0
   ·subst hz
    exact fin (.lit (.slice (some a) 0 cap)) _ hc3 rfl rfl (fun j=>match j with | 0=>⟨0,fun σ => rfl⟩ | j+1 => .inl ⟨_,_,rfl⟩) ⟨rfl,rfl⟩ rfl
   ·have hall : ∀ i,i<len -> ∃ (cs:List Value) (y:N4),w.cells? base (a.add (i*4)) 4=some cs/\NodeV w y cs:=fun i hi=>by
     have he:=helem i hi
     rw[hC,List.getElem?_eq_getElem (by omega),Option.bind_eq_some_iff] at he
     obtain⟨ds,hd,ht⟩:=he
     obtain⟨y,hy⟩:=node_rep hN hone hC h0 h1 h2 h3 n' ds _ ht
     exact⟨ds,y,hd,hy⟩
    obtain⟨L,vs,l1,l2,l3,l4,l5,l6⟩:=qgm hall len 0 (by omega)
    have hfirst:w.cell? a=some (vs[0]'(by omega)):=by
     have:=l6 0 _ (List.getElem?_eq_getElem (by omega))
     simpa [Addr.add] using this
    have hs:a.spot=none:=World.cell?_spot hfirst
    obtain⟨b,o,sp⟩:=a
    simp only at hs
    subst hs
    have hcell : ∀ i v,vs[i]?=some v->w.cell? ⟨b,o+i,none⟩=some v:=fun i v hv=>by
     have:=l6 i v hv
     rw[Nat.zero_mul,Nat.zero_add] at this
     by_cases h0:i=0
     ·subst h0; simpa [Addr.add] using this
     ·simpa [Addr.add,h0] using this
    refine fin (.sl (n4C L) len false) _ hc3 rfl rfl (fun j=>match j with | 0=>⟨len,fun σ => rfl⟩ | j+1 => .inr ⟨L,by rw[l1],fun y hy=>l2 y hy j⟩) ⟨b,o,cap,vs,rfl,hle,(fun h=>by cases h),l3,hcell,fun hp=>?_,l5⟩ rfl
    have hlast:=hcell (vs.length-1) _ (List.getElem?_eq_getElem (by omega))
    unfold World.cell? at hlast
    simp only[qgL]
    split at hlast
    ·rename_i c _ _ hb
     rw[hb]
     simp only[Option.isSome_none,Bool.false_eq_true,if_false] at hlast
     have hlt:o+(vs.length-1)<c.size:=by
      rcases Nat.lt_or_ge (o+(vs.length-1)) c.size with h' | h'
      ·exact h'
      ·rw[Array.getElem?_eq_none h'] at hlast; cases hlast
     simp only
     omega
    ·cases hlast
 termination_by fuel=>fuel
 decreasing_by omega
theorem nodeV_rep {fid:Fid} {y:N4} {cs:List Value} (h:NodeV w y cs):Rep fid (qc2 w) (.dat (.agg [.lit (.int .i64 y.k),.lit (.int .i64 y.n),.lit (.string y.s),y.d])) (.agg cs.toArray):=⟨cs,rfl,h.2.1⟩
end
end Go.Pm
end SX4
section SWk
namespace Go.Pm
open F
set_option maxHeartbeats 8000000
theorem qiu : ∀ {j:Nat} {d:D},qd8 j d -> ∃ n:Nat,∀ σ,V.len σ .sl (.dat d)=some (n:Int)
 | 0,_,h=>h
 | j+1,_,.inl ⟨o,c,h⟩=>⟨0,fun σ=>by rw[h]; rfl⟩
 | j+1,_,.inr ⟨L,h,_⟩=>⟨L.length,fun σ=>by rw[h]; rfl⟩
section
variable {prog:Nat->Option PFun} (H:Has prog) (hke:Sub tKe prog)
theorem qhq {j:Nat} (hj:j<=2) (ih:qnh prog j) {x:N4} {s:ByteArray} {L:List N4} (hd:x.d = .sl (n4C L) L.length false) (hk : ∀ y∈L,qd8 j y.d) : ∀ (m i:Nat) (A:Fo),i+m=3->1<=i->i<=L.length->A.len=i->A.size<=i*(1+qi0 j) ->
  ∃ (B:Fo) (i':Int),1<=B.len/\B.size<=3*(1+qi0 j)/\Z prog (.loop 0 F237l0 (qf5 ((j+1:Nat):Int) i) (qiC x s A))=some (.out (.exit 0) (qf5 ((j+1:Nat):Int) i'++[(27,.bool false)]) (qiC x s B))
 | 0,i,A,hi,h1,hl,hA,hs=>⟨A,i,by omega,by
   obtain rfl:i=3:=by omega
   exact hs,qhx hd (by omega) (.inr (by omega))⟩
 | m+1,i,A,hi,h1,hl,hA,hs=>by
  by_cases hlt:i<L.length
  ·obtain⟨t,f,ks,hsz,z⟩:=ih L[i] (hk _ (List.getElem_mem hlt))
   have zz:=qjl (s:=s) hd h1 hlt (by omega) hA (J:=((j+1:Nat):Int)) (J':=j) (by omega) (by rw[qb5 _ (by omega)]; omega) z
   have hm:(i+1)*(1+qi0 j)=i*(1+qi0 j)+(1+qi0 j):=by rw[Nat.add_mul,Nat.one_mul]
   obtain⟨B,i',b1,b2,b3⟩:=qhq hj ih hd hk m (i+1) (A.app (.cons L[i].k L[i].n t f ks .nil)) (by omega) (by omega) (by omega) (by rw[qfn,hA]; rfl) (by rw[qg3,hm]; simp only[qaP,qbo]; omega)
   exact⟨B,i',b1,b2,zz.trans b3⟩
  ·refine⟨A,i,by omega,?_,qhx hd (by omega) (.inl hlt)⟩
   have:i*(1+qi0 j)<=3*(1+qi0 j):=Nat.mul_le_mul_right _ (by omega)
   omega
include H hke
theorem qgo {x:N4} {J:Int} (hJ:0<=J/\J<=100) (zl : ∀ s:ByteArray,Z prog (.loop 0 F237l0 (qf5 J 0) (qjk x s))=some (.out (.exit 0) (qf5 J 0++[(27,.bool false)]) (qjk x s))) :
  ∃ (s:ByteArray),Z prog (.call 237 [.dat (.agg [.lit (.int .i64 x.k),.lit (.int .i64 x.n),.lit (.string x.s),x.d]),.int J] [])=some (.ret (nd x.k x.n s false .nil) []):=by
 obtain⟨s,hs,z⟩:=qik H x.s (m:=5) (by omega)
 have zl:=zl s
 have o:=x.one
 have c:=x.cl
 refine⟨s,?_⟩
 simp only[qf5,qjk,qkP,qkQ,Int.cast_ofNat_Int] at zl z
 refine Z_call (hke 237 F237 rfl) rfl ?_
 simp -implicitDefEqProofs [F237,o,c,z,zl,List.range_succ]
theorem qiv {x:N4} {J i':Int} {B:ByteArray->Fo} (hJ:0<=J/\J<=100) (hB : ∀ s,1<=(B s).len) (zl : ∀ s:ByteArray,∃ i',Z prog (.loop 0 F237l0 (qf5 J 0) (qjk x s))=some (.out (.exit 0) (qf5 J i'++[(27,.bool false)]) (qiC x s (B s)))) :
  ∃ (s:ByteArray),Z prog (.call 237 [.dat (.agg [.lit (.int .i64 x.k),.lit (.int .i64 x.n),.lit (.string x.s),x.d]),.int J] [])=some (.ret (nd x.k x.n s false (B s)) []):=by
 obtain⟨s,hs,z⟩:=qik H x.s (m:=5) (by omega)
 obtain⟨i',zl⟩:=zl s
 have hB:=hB s
 have o:=x.one
 have c:=x.cl
 refine⟨s,?_⟩
 have hk:kd false (B s).len (B s).cells = .sl (B s).cells (B s).len false:=by
  cases h:(B s).len with
  | zero=>omega
  | succ n=>rfl
 rw[nd,hk]
 simp only[qf5,qjk,qiC,qkP,qkQ,Int.cast_ofNat_Int] at zl z
 generalize (B s).cells=C at *
 generalize (B s).len=n at *
 refine Z_call (hke 237 F237 rfl) rfl ?_
 simp -implicitDefEqProofs [F237,o,c,z,zl,List.range_succ]
theorem qfN : ∀ j,j<=3->qnh prog j
 | 0,_=>fun x hk=>by
  obtain⟨n,hn⟩:=qiu hk
  obtain⟨s,z⟩:=qgo H hke (x:=x) (J:=0) (by omega) (fun s=>qhw hn (.inr (.inr (by omega))))
  exact⟨s,false,.nil,Nat.zero_le _,z⟩
 | j+1,hj=>fun x hk=>by
  have hJ:(0:Int)<=((j+1:Nat):Int)/\((j+1:Nat):Int)<=100:=by omega
  by_cases he : ∃ L:List N4,x.d = .sl (n4C L) L.length false/\(∀ y∈L,qd8 j y.d)/\0<L.length
  ·obtain⟨L,hd,hL,h0⟩:=he
   have ih:=qfN j (by omega)
   obtain⟨t,f,ks,hsz,z⟩:=ih L[0] (hL _ (List.getElem_mem h0))
   have zz:=fun s=>qiD (s:=s) hd h0 (J:=((j+1:Nat):Int)) (J':=j) (by omega) (by rw[qb5 _ (by omega)]; omega) z
   have zr:=fun s=>qhq (j:=j) (by omega) ih (s:=s) hd hL 2 1 (.cons L[0].k L[0].n t f ks .nil) rfl (by omega) (by omega) rfl (by simp only[qaP,qbo]; omega)
   have hB : ∀ s,1<=(Classical.choose (zr s)).len:=fun s=>(Classical.choose_spec (Classical.choose_spec (zr s))).1
   obtain⟨s,zc⟩:=qiv H hke (x:=x) (i':=0) (B:=fun s=>Classical.choose (zr s)) hJ hB (fun s=>⟨Classical.choose (Classical.choose_spec (zr s)),(zz s).trans (Classical.choose_spec (Classical.choose_spec (zr s))).2.2⟩)
   exact⟨s,false,_,(Classical.choose_spec (Classical.choose_spec (zr s))).2.1,zc⟩
  ·have hn : ∀ σ,V.len σ .sl (.dat x.d)=some ((0:Nat):Int):=by
    rcases hk with ⟨o,c,h⟩ | ⟨L,h,hL⟩
    ·intro σ; rw[h]; rfl
    ·have:L.length=0:=by
      cases hl:L.length with
      | zero=>rfl
      | succ n=>exact absurd ⟨L,h,hL,by omega⟩ he
     intro σ; rw[h,this]; rfl
   obtain⟨s,z⟩:=qgo H hke (x:=x) hJ (fun s=>qhw hn (.inl (by omega)))
   exact⟨s,false,.nil,Nat.zero_le _,z⟩
end
end Go.Pm
end SWk
section SWl
namespace Go.Pm
open F
set_option maxHeartbeats 8000000
def NdAt (cs:List D) (i:Nat) (N:Nd):Prop:=N.ks.size<=5000 /\ ∃ r,cs.drop (i*4) = .lit (.int .i64 N.k) :: .lit (.int .i64 N.n) :: .lit (.string N.s)::N.d::r
theorem qiE (a b:Nd):ndEq a.k a.n a.s a.ks b.k b.n b.s b.ks=ndEq b.k b.n b.s b.ks a.k a.n a.s a.ks:=by
 unfold ndEq
 rw[qf2 (a:=a.ks)]
 congr 1
 rw[Bool.eq_iff_iff]
 simp only[Bool.and_eq_true,decide_eq_true_eq,eq_comm]
section
variable {prog:Nat->Option PFun} (H:Has prog)
include H
theorem qjm {cs:List D} {i k:Nat} {A B:Nd} (hi:i<6) (hk:k<6) (hA:NdAt cs i A) (hB:NdAt cs k B) :
  Z prog (.loop 0 F223l1 [(15,.dat (.sl cs 6 true)),(16,.int i),(17,.int k)] [])=Z prog (.loop 0 F223l1 [(15,.dat (.sl cs 6 true)),(16,.int i),(17,.int ((k+1:Nat):Int))] []):=by
 obtain⟨sa,ra,hA⟩:=hA
 obtain⟨sb,rb,hB⟩:=hB
 have c1:=qjX hA
 have c2:=qjX hB
 have z1:=qie H.e (qfI (a:=A.ks) (b:=B.ks) (by omega) A.k A.n A.s A.f B.k B.n B.s B.f)
 have z2:=qie H.e (qfI (a:=B.ks) (b:=A.ks) (by omega) B.k B.n B.s B.f A.k A.n A.s A.f)
 have z3:=qie H.e (qjb (a:=A.ks) (b:=B.ks) (by omega) A.k A.n A.s A.f B.k B.n B.s B.f)
 rw[qiE B A] at z2
 have w1:IntKind.i64.wrap ((k:Int)+1)=((k+1:Nat):Int):=by rw[qb5 _ (by omega)]; omega
 have q1:(k:Int)<6:=by omega
 have q2:(i:Int)<6:=by omega
 simp only[nd] at z1 z2 z3
 simp only[Nd.d] at c1 c2
 generalize ((k+1:Nat):Int)=k1 at *
 generalize ndEq A.k A.n A.s A.ks B.k B.n B.s B.ks=Q at *
 clear hA hB
 conv=>lhs; rw[qar]
 cases Q<;>simp -implicitDefEqProofs [qaq,qfa,qay,qbV,c1,c2,hi,hk,q1,q2,z1,z2,z3,w1,List.range_succ]
omit H in
theorem qlw {cs:List D} {i:Nat}:Z prog (.loop 0 F223l1 [(15,.dat (.sl cs 6 true)),(16,.int i),(17,.int 6)] [])=some (.out (.exit 2) [(15,.dat (.sl cs 6 true)),(16,.int i),(17,.int 6),(54,.bool false)] []):=by
 rw[qar]
 simp -implicitDefEqProofs [qaq,qfa,qbV,List.range_succ]
theorem qlx {cs:List D} (h : ∀ i,i<6 -> ∃ N,NdAt cs i N) {i:Nat} (hi:i<6):Z prog (.loop 0 F223l1 [(15,.dat (.sl cs 6 true)),(16,.int i),(17,.int 0)] [])=some (.out (.exit 2) [(15,.dat (.sl cs 6 true)),(16,.int i),(17,.int 6),(54,.bool false)] []):=by
 obtain⟨A,hA⟩:=h i hi
 have st : ∀ k,k<6->_:=fun k hk=>qjm H hi hk hA (Classical.choose_spec (h k hk))
 exact (st 0 (by omega)).trans ((st 1 (by omega)).trans ((st 2 (by omega)).trans ((st 3 (by omega)).trans ((st 4 (by omega)).trans ((st 5 (by omega)).trans qlw)))))
theorem qjn {cs:List D} (h : ∀ i,i<6 -> ∃ N,NdAt cs i N) {i:Nat} (hi:i<6):Z prog (.loop 0 F223l0 [(15,.dat (.sl cs 6 true)),(16,.int i)] [])=Z prog (.loop 0 F223l0 [(15,.dat (.sl cs 6 true)),(16,.int ((i+1:Nat):Int))] []):=by
 obtain⟨A,sa,ra,hA⟩:=h i hi
 have c1:=qjX hA
 have z1:=qie H.e (qfI (a:=A.ks) (b:=A.ks) (by omega) A.k A.n A.s A.f A.k A.n A.s A.f)
 rw[qiW] at z1
 have w1:IntKind.i64.wrap ((i:Int)+1)=((i+1:Nat):Int):=by rw[qb5 _ (by omega)]; omega
 have q2:(i:Int)<6:=by omega
 have zr:=qlx H h hi
 simp only[nd] at z1
 simp only[Nd.d] at c1
 generalize ((i+1:Nat):Int)=k1 at *
 clear hA
 conv=>lhs; rw[qar]
 simp -implicitDefEqProofs [qaq,qfb,qay,qbV,c1,hi,q2,z1,zr,w1,List.range_succ]
theorem qjo {cs:List D} (h : ∀ i,i<6 -> ∃ N,NdAt cs i N):Z prog (.loop 0 F223l0 [(15,.dat (.sl cs 6 true)),(16,.int 0)] [])=some (.out (.exit 0) [(15,.dat (.sl cs 6 true)),(16,.int 6),(48,.bool false)] []):=by
 have st : ∀ i,i<6->_:=fun i hi=>qjn H h hi
 refine (st 0 (by omega)).trans ((st 1 (by omega)).trans ((st 2 (by omega)).trans ((st 3 (by omega)).trans ((st 4 (by omega)).trans ((st 5 (by omega)).trans ?_)))))
 show Z prog (.loop 0 F223l0 [(15,.dat (.sl cs 6 true)),(16,.int 6)] [])=_
 rw[qar]
 simp -implicitDefEqProofs [qaq,qfb,qbV,List.range_succ]
theorem qiF {cs:List D} (h : ∀ i,i<6 -> ∃ N,NdAt cs i N) (σ : S):Z prog (.loop 0 F223l0 [(15,.dat (.sl cs 6 true)),(16,.int 0)] σ)=some (.out (.exit 0) [(15,.dat (.sl cs 6 true)),(16,.int 6),(48,.bool false)] []):=
 (qda (fr':=[(15,.dat (.sl cs 6 true)),(16,.int 0)]) (σ':=[]) (by simp[gcF])).trans (qjo H h)
theorem qly {v:D} {xs:List Int} (hv:RowV v xs) (hx : ∀ x∈xs,I64 x) (hl:xs.length<=9223372036854775807) : ∃ (N:Nd) (i':Int),N.ks.size<=1000/\Z prog (.call 177 [.ptr 0 0,.int 3] [.cells [.dat v,.int 0]])=some (.ret N.v [.cells [.dat v,.int i']]):=by
 obtain⟨e,i',⟨_,_,_,hs,_⟩,_,z⟩:=qjQ (v:=v) (B:=9223372036854775807) hx ⟨hv,by omega,by omega⟩ 3 3 0 (by omega) (by omega) (by omega)
 refine⟨⟨e.kind,e.num,e.str,e.flag,e.kfo⟩,i',?_,?_⟩
 ·have:=qky e .nil
  rw[qea] at this
  have m:mxs ((3:Int).toNat)=15:=rfl
  simp only[qaP,qbo] at this
  simp only
  omega
 ·have:=qie H.b z
  rw[qkx] at this
  exact this
theorem qfR (hke:Sub tKe prog) (zl:Z prog (.call 229 [] [])=some (.ret (.bool true) [])) {x y:N4} (hxk:qd8 3 x.d) (hyk:qd8 3 y.d) {v u:D} {xs ys:List Int} (hv:RowV v xs) (hx : ∀ x∈xs,I64 x) (hl:xs.length<=9223372036854775807) (hu:RowV u ys) (hy : ∀ x∈ys,I64 x) (hl':ys.length<=9223372036854775807) :
  Z prog (.call 223 [.dat (.agg [.lit (.int .i64 x.k),.lit (.int .i64 x.n),.lit (.string x.s),x.d]),.dat (.agg [.lit (.int .i64 y.k),.lit (.int .i64 y.n),.lit (.string y.s),y.d]),.dat v,.dat u] [])=some (.ret (.bool true) []):=by
 obtain⟨sx,fx,kx,bx,zx⟩:=qfN H hke 3 (by omega) x hxk
 obtain⟨sy,fy,ky,bY,zy⟩:=qfN H hke 3 (by omega) y hyk
 obtain⟨P,ip,sp,zp⟩:=qly H hv hx hl
 obtain⟨Q,iq,sq,zq⟩:=qly H hu hy hl'
 have c3:qi0 3=39:=rfl
 obtain⟨cs,hcs⟩ : ∃ cs,cs=(Fo.cons x.k x.n sx fx kx (.cons y.k y.n sy fy ky (.cons P.k P.n P.s P.f P.ks (.cons Q.k Q.n Q.s Q.f Q.ks (.cons 7 0 ⟨#[]⟩ true (.cons x.k x.n sx fx kx (.cons P.k P.n P.s P.f P.ks .nil)) (.cons 7 0 ⟨#[]⟩ true (.cons x.k x.n sx fx kx (.cons Q.k Q.n Q.s Q.f Q.ks .nil)) .nil)))))).cells:=⟨_,rfl⟩
 have hat : ∀ i,i<6 -> ∃ N,NdAt cs i N:=by
  intro i hi
  subst hcs
  obtain rfl | rfl | rfl | rfl | rfl | rfl:i=0\/i=1\/i=2\/i=3\/i=4\/i=5:=by omega
  ·exact⟨⟨x.k,x.n,sx,fx,kx⟩,by simp only; omega,_,rfl⟩
  ·exact⟨⟨y.k,y.n,sy,fy,ky⟩,by simp only; omega,_,rfl⟩
  ·exact⟨P,by omega,_,rfl⟩
  ·exact⟨Q,by omega,_,rfl⟩
  ·exact⟨⟨7,0,⟨#[]⟩,true,.cons x.k x.n sx fx kx (.cons P.k P.n P.s P.f P.ks .nil)⟩,by simp only[qaP,qbo]; omega,_,rfl⟩
  ·exact⟨⟨7,0,⟨#[]⟩,true,.cons x.k x.n sx fx kx (.cons Q.k Q.n Q.s Q.f Q.ks .nil)⟩,by simp only[qaP,qbo]; omega,_,rfl⟩
 have zz:=qiF H hat
 have o1:=x.one
 have o2:=x.cl
 have o3:=y.one
 have o4:=y.cl
 have o5:=hv.one
 have o6:=hv.cells
 have o7:=hu.one
 have o8:=hu.cells
 simp only[qa2,qbX,qbn,qcV,qmk,Nat.zero_add,Nat.reduceAdd] at hcs
 simp only[hcs] at zz
 simp only[nd,Nd.v,Int.cast_ofNat_Int] at zx zy zp zq
 clear hat hcs
 obtain⟨d1,e1⟩ : ∃ d,d=kd fx kx.len kx.cells:=⟨_,rfl⟩
 obtain⟨d2,e2⟩ : ∃ d,d=kd fy ky.len ky.cells:=⟨_,rfl⟩
 obtain⟨d3,e3⟩ : ∃ d,d=kd P.f P.ks.len P.ks.cells:=⟨_,rfl⟩
 obtain⟨d4,e4⟩ : ∃ d,d=kd Q.f Q.ks.len Q.ks.cells:=⟨_,rfl⟩
 rw[<- e1] at zx
 simp only[<- e1] at zz
 rw[<- e2] at zy
 simp only[<- e2] at zz
 rw[<- e3] at zp
 simp only[<- e3] at zz
 rw[<- e4] at zq
 simp only[<- e4] at zz
 have a1:V.one (.dat d1)=true:=by rw[e1]; exact qhI ..
 have a2:V.one (.dat d2)=true:=by rw[e2]; exact qhI ..
 have a3:V.one (.dat d3)=true:=by rw[e3]; exact qhI ..
 have a4:V.one (.dat d4)=true:=by rw[e4]; exact qhI ..
 have b1:V.cells (.dat d1)=[.dat d1]:=by rw[e1]; exact qeg ..
 have b2:V.cells (.dat d2)=[.dat d2]:=by rw[e2]; exact qeg ..
 have b3:V.cells (.dat d3)=[.dat d3]:=by rw[e3]; exact qeg ..
 have b4:V.cells (.dat d4)=[.dat d4]:=by rw[e4]; exact qeg ..
 clear e1 e2 e3 e4
 refine Z_call (hke 223 F223 rfl) rfl ?_
 simp -implicitDefEqProofs [F223,o1,o2,o3,o4,o5,o6,o7,o8,a1,a2,a3,a4,b1,b2,b3,b4,zx,zy,zp,zq,zz,zl,List.range_succ]
end
end Go.Pm
end SWl
section STb13
namespace Go.Pm.F
def prog13d:Nat->Option PFun
 | 17=>some F17
 | 136=>some F136
 | 176=>some F176
 | 177=>some F177
 | 178=>some F178
 | 223=>some F223
 | 225=>some F225
 | 228=>some F228
 | 229=>some F229
 | 231=>some F231
 | 235=>some F235
 | 237=>some F237
 | 238=>some F238
 | 239=>some F239
 | 240=>some F240
 | 241=>some F241
 | 242=>some F242
 | 243=>some F243
 | 244=>some F244
 | 245=>some F245
 | 249=>some F249
 | 250=>some F250
 | 251=>some F251
 | 252=>some F252
 | 253=>some F253
 | 254=>some F254
 | 255=>some F255
 | 256=>some F256
 | 257=>some F257
 | 258=>some F258
 | 259=>some F259
 | 260=>some F260
 | 264=>some F264
 | 265=>some F265
 | 266=>some F266
 | 267=>some F267
 | 268=>some F268
 | 269=>some F269
 | 270=>some F270
 | 271=>some F271
 | 272=>some F272
 | 273=>some F273
 | 274=>some F274
 | 275=>some F275
 | 276=>some F276
 | 277=>some F277
 | 278=>some F278
 | 279=>some F279
 | 280=>some F280
 | 281=>some F281
 | 282=>some F282
 | 283=>some F283
 | 284=>some F284
 | 285=>some F285
 | 286=>some F286
 | 287=>some F287
 | 288=>some F288
 | 289=>some F289
 | 290=>some F290
 | 291=>some F291
 | 292=>some F292
 | 293=>some F293
 | 294=>some F294
 | 295=>some F295
 | 297=>some F297
 | 298=>some F298
 | 299=>some F299
 | 300=>some F300
 | 303=>some F303
 | 304=>some F304
 | 307=>some F307
 | 308=>some F308
 | 309=>some F309
 | _=>none
theorem qeQ : ∀ f pf,tR f=some pf->prog13d f=some pf:=fun f pf h=>by
 unfold tR at h
 split at h<;>first | (cases h; rfl) | cases h
theorem qeR : ∀ f pf,tS f=some pf->prog13d f=some pf:=fun f pf h=>by
 unfold tS at h
 split at h<;>first | (cases h; rfl) | cases h
theorem qeS : ∀ f pf,tP f=some pf->prog13d f=some pf:=fun f pf h=>by
 unfold tP at h
 split at h<;>first | (cases h; rfl) | cases h
theorem qeT : ∀ f pf,tQ f=some pf->prog13d f=some pf:=fun f pf h=>by
 unfold tQ at h
 split at h<;>first | (cases h; rfl) | cases h
theorem qdn : ∀ f pf,qd6 f=some pf->prog13d f=some pf:=fun f pf h=>by
 unfold qd6 at h
 split at h<;>first | (cases h; rfl) | cases h
end Go.Pm.F
end STb13
section SUm
namespace Go.Pm
open F
theorem qeU:Sub tE prog13d:=fun f pf h=>by
 unfold tE at h
 split at h<;>first | (cases h; rfl) | cases h
theorem qeV:Sub tK prog13d:=fun f pf h=>by
 unfold tK at h
 split at h<;>first | (cases h; rfl) | cases h
theorem qeq:Sub tKd prog13d:=fun f pf h=>by
 unfold tKd at h
 split at h<;>first | (cases h; rfl) | cases h
theorem has13d:HasD prog13d:=⟨⟨qdn,qeQ,qeR,qeS,qeT,qeU,qeV⟩,qeq⟩
end Go.Pm
end SUm
section SUt
namespace Go.Pm
open F
theorem qjy:Z prog13d (.call 229 [] [])=some (.ret (.bool true) []):=qj0 (n:=3000) (by kernel_rfl)
end Go.Pm
end SUt
section SWn
namespace Go.Pm
open F
theorem qeJ:Sub tKe prog13d:=fun f pf h=>by
 unfold tKe at h
 split at h<;>first | (cases h; rfl) | cases h
theorem equalLaw_Z {x y:N4} (hxk:qd8 3 x.d) (hyk:qd8 3 y.d) {v u:D} {xs ys:List Int} (hv:RowV v xs) (hx : ∀ x∈xs,I64 x) (hl:xs.length<=9223372036854775807) (hu:RowV u ys) (hy : ∀ x∈ys,I64 x) (hl':ys.length<=9223372036854775807) :
  Z prog13d (.call 223 [.dat (.agg [.lit (.int .i64 x.k),.lit (.int .i64 x.n),.lit (.string x.s),x.d]),.dat (.agg [.lit (.int .i64 y.k),.lit (.int .i64 y.n),.lit (.string y.s),y.d]),.dat v,.dat u] [])=some (.ret (.bool true) []):=qfR has13d.toHas qeJ qjy hxk hyk hv hx hl hu hy hl'
end Go.Pm
end SWn
