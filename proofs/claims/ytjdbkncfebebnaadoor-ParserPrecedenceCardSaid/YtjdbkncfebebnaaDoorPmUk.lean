/- The rule language in plain Lean: an error has a code that is not 0. No program in sight. The abstract machine's program, printed by a program of our own: group 4. The reference's names. The code's names: a round of the range. The code's Variables, first part. The abstract machine's program, printed by a program of our own: group 01. The abstract machine's program, printed by a program of our own: group 3g. The abstract machine's program, printed by a program of our own: group 5. The abstract machine's programs: tables of functions. What a tree costs written down: bytes and tokens. No program in sight. Chapter 13's generator: choices, expressions. Chapter 13's generator: all expressions. -/
import Derived.Test.YtjdbkncfebebnaaDoorPmYh
import Derived.Test.YtjdbkncfebebnaaDoorPmEt
import Derived.Test.YtjdbkncfebebnaaDoorPmFx
import Derived.Test.YtjdbkncfebebnaaDoorPmY
set_option linter.unusedSimpArgs false
set_option linter.unusedVariables false
section SUk
namespace Go.Pm
def NZ {α : Type}:Rz α -> Prop
 | .ok _ _=>True
 | .er _ c=>c≠0
def NZo {α : Type}:Option (Rz α)->Prop
 | some x=>NZ x
 | none=>True
theorem qdi {α : Type} {c:Nat} (h:c≠0) (ts:List Tk):NZ (failP c ts:Rz α):=by
 cases ts with
 | nil=>exact h
 | cons t r=>
  show (if t.bad=0 then c else t.bad)≠0
  split
  ·exact h
  ·assumption
theorem qd2 (x:ByteArray) (ts:List Tk):NZ (qas 12 x ts):=by
 cases ts with
 | nil=>exact (show (12:Nat)≠0 by omega)
 | cons t r=>
  simp only[qas]
  split
  ·trivial
  ·exact qdi (by omega) _
theorem qjw (x:ByteArray) (lv:Nat) (ts:List Tk):NZ (qct 12 2 x lv ts):=by
 unfold qct
 split
 ·exact qdi (by omega) _
 ·exact qd2 x ts
theorem qkz {α : Type} (a : α) (ts:List Tk):NZ (qa0 12 a ts):=by
 have h:=qd2 (bs [59]) ts
 unfold qa0
 cases hx:qas 12 (bs [59]) ts with
 | ok=>trivial
 | er i c=>rw[hx] at h; exact h
theorem qoe (f:Bool) : ∀ n:Nat,(∀ p lv ts,NZo (qak 12 2 f n p lv ts))/\(∀ p lv e ts,NZo (qb2 12 2 f n p lv e ts))/\(∀ lv ts,NZo (qbb 12 2 f n lv ts))
 | 0=>⟨fun _ _ _=>by simp[qak,NZo],fun _ _ _ _=>by simp[qb2,NZo],fun _ _=>by simp[qbb,NZo]⟩
 | n+1=>by
  obtain⟨h1,h2,h3⟩:=qoe f n
  refine⟨fun p lv ts=>?_,fun p lv e ts=>?_,fun lv ts=>?_⟩
  ·simp only[qak]
   split
   ·have ho:=qjw (ustr (p==7)) (lv+1) ts
    split
    ·rename_i e; rw[e] at ho; exact ho
    ·rename_i r e
     have hx:=h1 p (lv+1) r
     split
     ·trivial
     ·exact hx
   split
   ·have hx:=h1 (p+1) lv ts
    split
    ·exact h2 _ _ _ _
    ·exact hx
   split
   ·exact qdi (by omega) _
   split
   ·trivial
   split
   ·trivial
   split
   ·trivial
   split
   ·trivial
   split
   ·have hx:=h3 lv ts.tail
    split
    ·trivial
    ·exact hx
   split
   ·trivial
   have ho:=qjw (bs [40]) (lv+1) ts
   split
   ·rename_i e; rw[e] at ho; exact ho
   ·rename_i r e
    have hx:=h1 1 (lv+1) r
    split
    ·rename_i r' _
     have hy:=qd2 (bs [41]) r'
     split
     ·trivial
     ·rename_i e; rw[e] at hy; exact hy
    ·exact hx
  ·simp only[qb2]
   split
   ·split
    ·trivial
    ·exact qdi (by omega) _
   ·split
    ·trivial
    ·have hx:=h1 (p+1) lv ts.tail
     split
     ·split
      ·trivial
      ·exact h2 _ _ _ _
     ·exact hx
  ·simp only[qbb]
   have ho:=qjw (bs [91]) (lv+1) ts
   split
   ·rename_i e; rw[e] at ho; exact ho
   ·rename_i r e
    have hx:=h1 1 (lv+1) r
    split
    ·rename_i r' _
     have hy:=qd2 (bs [93]) r'
     split
     ·trivial
     ·rename_i e; rw[e] at hy; exact hy
    ·exact hx
theorem qof (f fi fb:Bool) : ∀ n:Nat,(∀ lv ts,NZo (qbZ 12 2 f fi fb n lv ts))/\(∀ lv ts,NZo (qaP 12 2 f fi fb n lv ts))/\(∀ lv a ts,NZo (qbx 12 2 f fi fb n lv a ts))
 | 0=>⟨fun _ _=>by simp[qbZ,NZo],fun _ _=>by simp[qaP,NZo],fun _ _ _=>by simp[qbx,NZo]⟩
 | n+1=>by
  obtain⟨h1,h2,h3⟩:=qof f fi fb n
  obtain⟨x1,_,x3⟩:=qoe f n
  have two : ∀ {g:E->Ss} (lv:Nat) (r:List Tk),NZo (match qak 12 2 f n 1 lv r with
    | some (.ok b r2)=>some (qa0 12 (g b) r2)
    | some (.er i k)=>some (.er i k)
    | none=>none):=fun {g} lv r=>by
   have hx:=x1 1 lv r
   split
   ·exact qkz _ _
   ·rename_i e; rw[e] at hx; exact hx
   ·trivial
  have three : ∀ {g:E->Ss} (x:ByteArray) (lv:Nat) (r:List Tk),NZo (match qas 12 x r with
    | .ok _ r1=>match qak 12 2 f n 1 lv r1 with
     | some (.ok b r2)=>some (qa0 12 (g b) r2)
     | some (.er i k)=>some (.er i k)
     | none=>none
    | .er i k=>some (.er i k)):=fun {g} x lv r=>by
   have hx:=qd2 x r
   split
   ·exact two _ _
   ·rename_i e; rw[e] at hx; exact hx
  refine⟨fun lv ts=>?_,fun lv ts=>?_,fun lv a ts=>?_⟩
  ·simp only[qbZ]
   split
   ·exact qdi (by omega) _
   split
   ·have hx:=x1 1 lv ts.tail
    split
    ·rename_i c r _
     have hb:=h2 (lv+1) r
     split
     ·rename_i b r1 _
      split
      ·exact qdi (by omega) _
      ·split
       ·have hb2:=h2 (lv+1) r1.tail
        split
        ·trivial
        ·rename_i e; rw[e] at hb2; exact hb2
        ·trivial
       ·trivial
     ·rename_i e; rw[e] at hb; exact hb
     ·trivial
    ·rename_i e; rw[e] at hx; exact hx
    ·trivial
   split
   ·have hx:=x1 1 lv ts.tail
    split
    ·rename_i c r _
     have hb:=h2 (lv+1) r
     split
     ·trivial
     ·rename_i e; rw[e] at hb; exact hb
     ·trivial
    ·rename_i e; rw[e] at hx; exact hx
    ·trivial
   split
   ·have hx:=x1 1 lv ts.tail
    split
    ·exact three _ _ _
    ·rename_i e; rw[e] at hx; exact hx
    ·trivial
   split
   ·exact qkz _ _
   split
   ·have hx:=x3 lv ts.tail
    split
    ·exact three _ _ _
    ·rename_i e; rw[e] at hx; exact hx
    ·trivial
   split
   ·exact three _ _ _
   ·exact qdi (by omega) _
  ·simp only[qaP]
   have ho:=qjw (bs [123]) lv ts
   split
   ·rename_i e; rw[e] at ho; exact ho
   ·exact h3 _ _ _
  ·simp only[qbx]
   split
   ·exact qdi (by omega) _
   ·split
    ·trivial
    ·have hx:=h1 lv ts
     split
     ·exact h3 _ _ _
     ·rename_i e; rw[e] at hx; exact hx
     ·trivial
theorem qog (f fi fb:Bool) : ∀ (n:Nat) h ts,NZo (qcl 12 2 4 f fi fb n h ts)
 | 0,h,ts=>by simp[qcl,NZo]
 | n+1,h,ts=>by
  simp only[qcl]
  split
  ·exact qdi (by omega) _
  ·split
   ·trivial
   ·have hx:=qd2 (bs [111,110]) ts
    split
    ·rename_i e; rw[e] at hx; exact hx
    ·rename_i r _
     split
     ·exact qdi (by omega) _
     ·split
      ·exact qdi (by omega) _
      ·split
       ·exact qdi (by omega) _
       ·have hb:=(qof f fi fb n).2.1 1 r.tail
        split
        ·exact qog f fi fb n _ _
        ·rename_i e; rw[e] at hb; exact hb
        ·trivial
end Go.Pm
end SUk
section SF4
namespace Go.Pm.F
variable (C:Task->Option Res) (q:Nat) (fr:Fr) (σ : S)
@[simp] def F15a0x:PC:=(rn [jj 7 (.alloc [zN,zN,eN,sN]),st 4 7 18] [3,4,7])
def F15a0:PC:=F15a0x
@[simp] def F15b0x:PC:=(.block 3 (.seq (.seq (rn [fa 19 0 7,l1 20 19,bk 21 .neq 20 1,mv 22 21,jt 23 22 (.fieldAddr 0 (.t 7)),jt 24 22 (.load false 1 (.t 23)),jt 25 22 (.bin .neq (.t 24) (kk 10)),jj 26 (.pick (.t 22) (.t 25) kF)] [3,4,7,26]) (.cond (.t 26) (.exit 3) (.skip))) (.seq (rn [l1 28 4,fa 29 2 7,l1 30 29,jj 31 (.lookup .s zN (.t 28) (.t 30) true),mv 27 31,ex 32 27 0,ex 33 27 1,mv 8 32,mv 9 33] [3,4,7,9]) (.seq (rn [mv 34 9,jj 35 (.un .not (.t 34))] [3,4,7,35]) (.cond (.t 35) (.seq (rn [l1 36 4,fa 37 2 7,l1 38 37,l1 39 3,ls 40 39,jn (.mapset .s (.t 36) (.t 38) (.t 40))] [3,7]) (rn [l1 41 3,fa 42 2 7,l1 43 42,jj 44 (.bslice 1 [eN] [(0,1,(.t 43))]),jj 45 (.append 1 16 (.t 41) (.t 44)),st 1 3 45] [])) (.skip))))))
def F15b0:PC:=F15b0x
end Go.Pm.F
end SF4
section SE3
namespace Go.Pm
open F
inductive NmSt:S->V->S->Nat->List ByteArray->Ob->Prop
 | a (l:List ByteArray) (x:Ob):NmSt [] (.dat (quh l)) [x] 0 l x
 | b (l:List ByteArray) (x:Ob) (m:Nat) (h:l≠[]):NmSt [] (.gsl (strC l) l.length 1 0) [.tip m,x] 1 l x
end Go.Pm
end SE3
section SE4
namespace Go.Pm
open F
attribute [local simp] dkey
def mapM:Nat->List ByteArray->List (Value × V)
 | _,[]=>[]
 | i,s::l=>(.string s,.int i)::mapM (i+1) l
theorem qia : ∀ (l:List ByteArray) (i:Nat),qhM (mapM i l)=[]
 | [],i=>rfl
 | x::l,i=>by simp[mapM,qia l]
theorem qj6 (r:Nat->Nat) : ∀ (l:List ByteArray) (i:Nat),qrD r (mapM i l)=mapM i l
 | [],i=>rfl
 | x::l,i=>by simp[mapM,qj6 r l]
attribute [local simp] qia qj6 dkey
end Go.Pm
end SE4
section SE6
namespace Go.Pm
open F
attribute [local simp] qia qj6 dkey
abbrev qyh (r:D) (i:Int):Ob := .loop ⟨[(3,.ptr 2 0),(4,.ptr 3 0),(12,.dat r),(13,.int i),(17,.fn 38 [] [.ptr 1 0])],[18],F15a0,F15b0,0,none⟩
abbrev T1 (r:D) (j:Int) (bx:Ob) (l:List ByteArray):S:=[qyh r j,bx,.cells [.gsl (strC l) l.length 1 4],.cells [.mp 5],.tip l.length,.map (mapM 0 l)]
end Go.Pm
end SE6
section SF01
namespace Go.Pm.F
variable (C:Task->Option Res) (q:Nat) (fr:Fr) (σ : S)
def F17:PFun:=⟨2,[.tmp 4],.seq (rn [mx 4 (kk 0)] [0,1]) (.seq (.seq (rn [mv 5 0,bk 6 .lss 5 0] [0,1,6]) (.cond (.t 6) (rn [mv 7 0,bk 8 .add 7 1,jj 9 (.un .neg (.t 8)),mv 0 9] [0,1]) (.skip))) (.seq (rn [mv 10 0,mv 11 1,bn 12 .rem 10 11,mv 4 12] [4]) (.ret))),false,false,false⟩
@[simp] def F20l0x:PC:=(.seq (.seq (rn [mv 10 5,bk 11 .neq 10 0] [0,3,4,5,11]) (.cond (.t 11) (.skip) (.exit 0))) (.seq (.block 1 (.seq (rn [mv 14 5,bk 15 .rem 14 10,mv 6 15] [0,3,4,5,6]) (.seq (.seq (rn [mv 16 6,bk 17 .lss 16 0] [0,3,4,5,6,17]) (.cond (.t 17) (rn [mv 18 6,jj 19 (.un .neg (.t 18)),mv 6 19] [0,3,4,5,6]) (.skip))) (rn [mv 20 3,mv 21 6,mv 22 6,bk 23 .add 22 1,jj 24 (.sliceS (.t 20) (some (.t 21)) (some (.t 23))),mv 25 4,bn 26 .add 24 25,mv 4 26] [0,3,4,5])))) (rn [mv 12 5,bk 13 .quo 12 10,mv 5 13] [0,3,4,5])))
def F20l0:PC:=F20l0x
theorem qls:run C q F20l0 fr σ = run C q F20l0x fr σ := rfl
def F20:PFun:=⟨1,[.tmp 2],.seq (rn [jj 2 (.mov (.c (.string ⟨#[]⟩)))] [0]) (.seq (.seq (rn [mv 7 0,bk 8 .eql 7 0] [0,8]) (.cond (.t 8) (.seq (rn [jj 2 (.mov (.c (.string ⟨#[48]⟩)))] [2]) (.ret)) (.skip))) (.seq (rn [jj 3 (.mov (.c (.string ⟨#[48,49,50,51,52,53,54,55,56,57]⟩)))] [0,3]) (.seq (rn [jj 4 (.mov (.c (.string ⟨#[]⟩)))] [0,3,4]) (.seq (.seq (rn [mv 9 0,mv 5 9] [0,3,4,5]) (.block 0 (.loop F20l0))) (.seq (.seq (rn [mv 27 0,bk 28 .lss 27 0] [4,28]) (.cond (.t 28) (.seq (rn [mv 29 4,jj 30 (.bin .add (.c (.string ⟨#[45]⟩)) (.t 29)),mv 2 30] [2]) (.ret)) (.skip))) (.seq (rn [mv 31 4,mv 2 31] [2]) (.ret))))))),false,false,false⟩
def F23:PFun:=⟨2,[.tmp 4],.seq (rn [jj 4 (.mov (.c (.slice none 0 0)))] [0,1]) (.seq (rn [jj 5 (.mov (.c (.slice none 0 0)))] [0,1,5]) (.seq (rn [mv 6 5,mv 7 0,mv 8 0,ls 9 8,mv 10 1,jj 11 (.min [(.t 9),(.t 10)]),jj 12 (.slice 1 (.t 7) none (some (.t 11))),jj 13 (.append 1 8 (.t 6) (.t 12)),mv 4 13] [4]) (.ret))),false,false,false⟩
end Go.Pm.F
end SF01
section SF3g
namespace Go.Pm.F
variable (C:Task->Option Res) (q:Nat) (fr:Fr) (σ : S)
@[simp] def F123l0x:PC:=(.seq (.seq (rn [mv 10 5,bk 11 .lss 10 3] [2,3,4,5,11]) (.cond (.t 11) (.skip) (.exit 0))) (.seq (.block 1 (.seq (rn [mv 14 3,jj 15 (.call 136 [(.t 14),(kk 4)]),bk 16 .gtr 15 0] [2,3,4,5,16]) (.cond (.t 16) (rn [mv 17 5,mv 18 3,jj 19 (.call 137 [(.t 18),(kk 2),(kk 3)]),fa 20 0 4,jj 21 (.indexAddrA 3 4 (.t 20) (.t 17)),st 4 21 19] [2,3,4,5]) (.skip)))) (rn [mv 12 5,bk 13 .add 12 1,mv 5 13] [2,3,4,5])))
def F123l0:PC:=F123l0x
theorem qcT:run C q F123l0 fr σ = run C q F123l0x fr σ := rfl
def F123:PFun:=⟨1,[.cell 2 true 12],.seq (rn [jj 2 (.alloc [zN,zN,eN,sN,zN,zN,eN,sN,zN,zN,eN,sN])] [0,2]) (.seq (rn [mv 6 0,jj 7 (.call 23 [(.t 6),(kk 60)]),jj 8 (.build [sN,zN] [(0,1,(.t 7))]),bx 9 8,mv 3 9] [2,3]) (.seq (rn [jj 4 (.alloc [zN,zN,eN,sN,zN,zN,eN,sN,zN,zN,eN,sN])] [2,3,4]) (.seq (.seq (rn [mx 5 (kk 0)] [2,3,4,5]) (.block 0 (.loop F123l0))) (.seq (rn [la 22 12 4,st 12 2 22] [2]) (.ret))))),false,false,false⟩
def F136:PFun:=⟨2,[.tmp 4],.seq (rn [mx 4 (kk 0)] [0,1]) (.seq (.seq (.region (some []) [mv 6 0,nc 7 6,fa 8 1 7,l1 9 8,mv 10 0,nc 11 10,fa 12 0 11,l1 13 12,ls 14 13,bn 15 .geq 9 14] [0,1,15]) (.cond (.t 15) (.seq (rn [mx 4 (kk 0)] [4]) (.ret)) (.skip))) (.seq (.region (some []) [mv 16 0,nc 17 16,fa 18 0 17,l1 19 18,mv 20 0,nc 21 20,fa 22 1 21,l1 23 22,jj 24 (.indexAddr 1 (.t 19) (.t 23)),l1 25 24,jj 26 (.call 17 [(.t 25),(kk 1000000)]),mv 5 26] [0,1,5] [10]) (.seq (rn [mv 27 0,nc 28 27,fa 29 1 28,l1 30 29,bk 31 .add 30 1,nc 32 27,fa 33 1 32,st 1 33 31] [1,5]) (.seq (rn [mv 34 5,mv 35 1,bn 36 .rem 34 35,mv 4 36] [4]) (.ret))))),false,false,false⟩
@[simp] def F137l0x:PC:=(.seq (.seq (rn [mv 14 8,bk 15 .gtr 14 0] [0,1,6,7,8,15]) (.cond (.t 15) (.skip) (.exit 0))) (.seq (.block 1 (.region (some []) [fa 18 3 7,⟨some 19,.load false 1 (.t 18),none,[4]⟩,mv 20 0,mv 21 1,cl 22 162 [20,21],jj 23 (.bslice 1 [zN,zN,eN,sN] [(0,4,(.t 22))]),jj 24 (.append 4 56 (.t 19) (.t 23)),fa 25 3 7,st 1 25 24] [0,1,6,7,8] [4])) (rn [mv 16 8,bk 17 .sub 16 1,mv 8 17] [0,1,6,7,8])))
def F137l0:PC:=F137l0x
theorem qe7:run C q F137l0 fr σ = run C q F137l0x fr σ := rfl
def F137:PFun:=⟨3,[.cell 6 true 4],.seq (rn [jj 6 (.alloc [zN,zN,eN,sN])] [0,1,2,6]) (.seq (rn [jj 9 (.build [zN,zN,eN,sN] [(0,1,(kk 7))]),jj 7 (.alloc [zN,zN,eN,sN]),st 4 7 9] [0,1,2,6,7]) (.seq (.seq (rn [mv 10 0,mv 11 2,bk 12 .add 11 1,cl 13 136 [10,12],mv 8 13] [0,1,6,7,8]) (.block 0 (.loop F137l0))) (.seq (rn [la 26 4 7,st 4 6 26] [6]) (.ret)))),false,false,false⟩
def F162:PFun:=⟨2,[.cell 4 true 4],.seq (rn [jj 4 (.alloc [zN,zN,eN,sN])] [0,1,4]) (.seq (rn [mv 13 0,jj 14 (.call 136 [(.t 13),(kk 10)]),mv 5 14] [0,1,4,5]) (.seq (.seq (rn [mv 15 1,bk 16 .leq 15 0] [0,1,4,5,16]) (.cond (.t 16) (rn [mv 17 5,bk 18 .rem 17 7,mv 5 18] [0,1,4,5]) (.skip))) (.seq (.seq (rn [mv 19 5] [0,1,4,19]) (.block 0 (.seq (.seq (rn [bk 21 .eql 19 0,mv 20 21] [0,1,4,19,20]) (.cond (.t 20) (.skip) (rn [bk 22 .eql 19 1,mv 20 22] [0,1,4,19,20]))) (.cond (.t 20) (.seq (.region (some []) [jj 23 (.bslice 4 [eN,eN,eN,eN] [(0,1,(.c (.string ⟨#[105]⟩))),(1,1,(.c (.string ⟨#[110]⟩))),(2,1,(.c (.string ⟨#[115,117,109]⟩))),(3,1,(.c (.string ⟨#[118,51]⟩)))]),mv 24 0,jj 25 (.call 136 [(.t 24),(kk 4)]),jj 26 (.indexAddr 1 (.t 23) (.t 25)),⟨some 27,.load false 1 (.t 26),none,[6]⟩,mv 28 0,jj 29 (.call 177 [(.t 28),(kk 2)]),jj 30 (.call 176 [(kk 1),(.t 27),(.t 29)]),st 4 4 30] [4] [6,7]) (.ret)) (.seq (.seq (rn [bk 32 .eql 19 2,mv 31 32] [0,1,4,19,31]) (.cond (.t 31) (.skip) (.seq (rn [bk 33 .eql 19 3,mv 31 33] [0,1,4,19,31]) (.cond (.t 31) (.skip) (rn [bk 34 .eql 19 4,mv 31 34] [0,1,4,19,31]))))) (.cond (.t 31) (.seq (rn [jj 35 (.bslice 6 [eN,eN,eN,eN,eN,eN] [(0,1,(.c (.string ⟨#[120]⟩))),(1,1,(.c (.string ⟨#[121]⟩))),(2,1,(.c (.string ⟨#[118,120]⟩))),(3,1,(.c (.string ⟨#[118,121]⟩))),(4,1,(.c (.string ⟨#[97]⟩))),(5,1,(.c (.string ⟨#[98]⟩)))]),mv 36 0,jj 37 (.call 136 [(.t 36),(kk 6)]),jj 38 (.indexAddr 1 (.t 35) (.t 37)),l1 39 38,mv 6 39] [0,4,6]) (.seq (rn [mv 40 0,jj 41 (.call 177 [(.t 40),(kk 1)]),jj 7 (.alloc [zN,zN,eN,sN]),st 4 7 41] [0,4,6,7]) (.seq (.region (some []) [mv 42 6,⟨some 43,.load true 4 (.t 7),none,[3]⟩,mv 44 0,jj 45 (.call 177 [(.t 44),(kk 2)]),jj 46 (.call 178 [(kk 2),(.t 42),(.t 43),(.t 45)]),st 4 4 46] [4] [3,4]) (.ret)))) (.seq (rn [bk 48 .eql 19 5,mv 47 48] [0,1,4,19,47]) (.cond (.t 47) (.seq (rn [mv 49 0,jj 50 (.call 177 [(.t 49),(kk 0)]),jj 8 (.alloc [zN,zN,eN,sN]),st 4 8 50] [0,4,8]) (.seq (.region (some []) [⟨some 51,.load true 4 (.t 8),none,[2]⟩,mv 52 0,jj 53 (.call 177 [(.t 52),(kk 1)]),jj 54 (.call 178 [(kk 5),(.c (.string ⟨#[]⟩)),(.t 51),(.t 53)]),st 4 4 54] [4] [2,3]) (.ret))) (.seq (rn [bk 56 .eql 19 6,mv 55 56] [0,1,4,19,55]) (.cond (.t 55) (.seq (.seq (rn [mv 57 0,jj 58 (.call 136 [(.t 57),(kk 3)]),bk 59 .gtr 58 0] [0,4,59]) (.cond (.t 59) (.seq (rn [mv 60 0,jj 61 (.call 177 [(.t 60),(kk 1)]),jj 62 (.call 176 [(kk 1),(.c (.string ⟨#[110]⟩)),(.t 61)]),st 4 4 62] [4]) (.ret)) (.skip))) (.seq (rn [jj 63 (.build [zN,zN,eN,sN] [(0,1,(kk 6))]),st 4 4 63] [4]) (.ret))) (.seq (rn [bk 65 .eql 19 7,mv 64 65] [0,1,4,64]) (.cond (.t 64) (.seq (rn [mv 66 0,jj 67 (.call 179 [(.t 66),(kk 1)]),jj 9 (.alloc [zN,zN,eN,sN]),st 4 9 67] [0,1,4,9]) (.seq (.region (some []) [⟨some 68,.load true 4 (.t 9),none,[4]⟩,mv 69 0,mv 70 1,bk 71 .sub 70 1,jj 72 (.call 137 [(.t 69),(.t 71),(kk 2)]),jj 73 (.call 178 [(kk 4),(.c (.string ⟨#[]⟩)),(.t 68),(.t 72)]),st 4 4 73] [4] [4,5]) (.ret))) (.skip))))))))))))) (.seq (rn [mv 74 0,jj 75 (.call 179 [(.t 74),(kk 2)]),jj 10 (.alloc [zN,zN,eN,sN]),st 4 10 75] [0,1,4,10]) (.seq (rn [mv 76 0,mv 77 1,bk 78 .sub 77 1,jj 79 (.call 137 [(.t 76),(.t 78),(kk 2)]),jj 11 (.alloc [zN,zN,eN,sN]),st 4 11 79] [0,1,4,10,11]) (.seq (rn [jj 80 (.build [zN,zN,eN,sN] [(0,1,(kk 7))]),jj 12 (.alloc [zN,zN,eN,sN]),st 4 12 80] [0,1,4,10,11,12]) (.seq (.seq (rn [mv 81 0,jj 82 (.call 136 [(.t 81),(kk 2)]),bk 83 .eql 82 1] [0,1,4,10,11,12,83]) (.cond (.t 83) (rn [mv 84 0,mv 85 1,bk 86 .sub 85 1,jj 87 (.call 137 [(.t 84),(.t 86),(kk 2)]),st 4 12 87] [4,10,11,12]) (.skip))) (.seq (rn [la 88 4 10,la 89 4 11,la 90 4 12,jj 91 (.bslice 3 [zN,zN,eN,sN,zN,zN,eN,sN,zN,zN,eN,sN] [(0,4,(.t 88)),(4,4,(.t 89)),(8,4,(.t 90))]),jj 92 (.build [zN,zN,eN,sN] [(0,1,(kk 3)),(3,1,(.t 91))]),st 4 4 92] [4]) (.ret))))))))),false,false,false⟩
def F176:PFun:=⟨3,[.cell 6 true 4],.seq (rn [bx 5 2,jj 6 (.alloc [zN,zN,eN,sN])] [0,1,5,6]) (.seq (rn [mv 7 0,mv 8 1,la 9 4 5,jj 10 (.bslice 1 [zN,zN,eN,sN] [(0,4,(.t 9))]),jj 11 (.build [zN,zN,eN,sN] [(0,1,(.t 7)),(2,1,(.t 8)),(3,1,(.t 10))]),st 4 6 11] [6]) (.ret)),false,false,false⟩
def F177:PFun:=⟨2,[.cell 4 true 4],.seq (rn [jj 4 (.alloc [zN,zN,eN,sN])] [0,1,4]) (.seq (rn [mv 9 0,jj 10 (.call 136 [(.t 9),(kk 12)]),mv 5 10] [0,1,4,5]) (.seq (.seq (rn [mv 11 1,bk 12 .leq 11 0] [0,1,4,5,12]) (.cond (.t 12) (rn [mv 13 5,bk 14 .rem 13 6,mv 5 14] [0,1,4,5]) (.skip))) (.seq (.seq (rn [mv 15 5] [0,1,4,15]) (.block 0 (.seq (.seq (rn [bk 17 .eql 15 0,mv 16 17] [0,1,4,15,16]) (.cond (.t 16) (.skip) (rn [bk 18 .eql 15 1,mv 16 18] [0,1,4,15,16]))) (.cond (.t 16) (.seq (rn [jj 19 (.bslice 8 [zN,zN,zN,zN,zN,zN,zN,zN] [(0,1,(kk 0)),(1,1,(kk 1)),(2,1,(kk 2)),(3,1,(kk 3)),(4,1,(kk 7)),(5,1,(kk 100)),(6,1,(kk 1024)),(7,1,(kk 2147483647))]),mv 20 0,jj 21 (.call 136 [(.t 20),(kk 8)]),jj 22 (.indexAddr 1 (.t 19) (.t 21)),l1 23 22,jj 24 (.build [zN,zN,eN,sN] [(0,1,(kk 8)),(1,1,(.t 23))]),st 4 4 24] [4]) (.ret)) (.seq (.seq (rn [bk 26 .eql 15 2,mv 25 26] [0,1,4,15,25]) (.cond (.t 25) (.skip) (rn [bk 27 .eql 15 3,mv 25 27] [0,1,4,15,25]))) (.cond (.t 25) (.seq (rn [jj 28 (.bslice 4 [eN,eN,eN,eN] [(0,1,(.c (.string ⟨#[105]⟩))),(1,1,(.c (.string ⟨#[110]⟩))),(2,1,(.c (.string ⟨#[115,117,109]⟩))),(3,1,(.c (.string ⟨#[118,51]⟩)))]),mv 29 0,jj 30 (.call 136 [(.t 29),(kk 4)]),jj 31 (.indexAddr 1 (.t 28) (.t 30)),l1 32 31,jj 33 (.build [zN,zN,eN,sN] [(0,1,(kk 10)),(2,1,(.t 32))]),st 4 4 33] [4]) (.ret)) (.seq (.seq (rn [bk 35 .eql 15 4,mv 34 35] [0,1,4,15,34]) (.cond (.t 34) (.skip) (rn [bk 36 .eql 15 5,mv 34 36] [0,1,4,15,34]))) (.cond (.t 34) (.seq (rn [jj 37 (.bslice 3 [eN,eN,eN] [(0,1,(.c (.string ⟨#[115,101,108,102]⟩))),(1,1,(.c (.string ⟨#[111,116,104,101,114]⟩))),(2,1,(.c (.string ⟨#[116,105,99,107]⟩)))]),mv 38 0,jj 39 (.call 136 [(.t 38),(kk 3)]),jj 40 (.indexAddr 1 (.t 37) (.t 39)),l1 41 40,jj 42 (.build [zN,zN,eN,sN] [(0,1,(kk 12)),(2,1,(.t 41))]),st 4 4 42] [4]) (.ret)) (.seq (.seq (rn [bk 44 .eql 15 6,mv 43 44] [0,1,4,15,43]) (.cond (.t 43) (.skip) (rn [bk 45 .eql 15 7,mv 43 45] [0,1,4,15,43]))) (.cond (.t 43) (.seq (rn [jj 46 (.bslice 8 [eN,eN,eN,eN,eN,eN,eN,eN] [(0,1,(.c (.string ⟨#[120]⟩))),(1,1,(.c (.string ⟨#[121]⟩))),(2,1,(.c (.string ⟨#[118,120]⟩))),(3,1,(.c (.string ⟨#[118,121]⟩))),(4,1,(.c (.string ⟨#[97]⟩))),(5,1,(.c (.string ⟨#[98]⟩))),(6,1,(.c (.string ⟨#[104,105,116]⟩))),(7,1,(.c (.string ⟨#[115,116,105,108,108]⟩)))]),mv 47 0,jj 48 (.call 136 [(.t 47),(kk 8)]),jj 49 (.indexAddr 1 (.t 46) (.t 48)),l1 50 49,mv 6 50] [0,1,4,6]) (.seq (rn [mv 51 6,mv 52 0,mv 53 1,bk 54 .sub 53 1,cl 55 177 [52,54],jj 56 (.call 176 [(kk 11),(.t 51),(.t 55)]),st 4 4 56] [4]) (.ret))) (.seq (rn [bk 58 .eql 15 8,mv 57 58] [0,1,4,57]) (.cond (.t 57) (.seq (rn [mv 59 0,mv 60 1,bk 61 .sub 60 1,cl 62 177 [59,61],jj 63 (.call 176 [(kk 13),(.c (.string ⟨#[45]⟩)),(.t 62)]),st 4 4 63] [4]) (.ret)) (.skip))))))))))))) (.seq (rn [jj 64 (.bslice 4 [eN,eN,eN,eN] [(0,1,(.c (.string ⟨#[43]⟩))),(1,1,(.c (.string ⟨#[45]⟩))),(2,1,(.c (.string ⟨#[42]⟩))),(3,1,(.c (.string ⟨#[47]⟩)))]),mv 65 0,jj 66 (.call 136 [(.t 65),(kk 4)]),jj 67 (.indexAddr 1 (.t 64) (.t 66)),l1 68 67,mv 7 68] [0,1,4,7]) (.seq (rn [mv 69 0,mv 70 1,bk 71 .sub 70 1,cl 72 177 [69,71],jj 8 (.alloc [zN,zN,eN,sN]),st 4 8 72] [0,1,4,7,8]) (.seq (.region (some []) [mv 73 7,⟨some 74,.load true 4 (.t 8),none,[5]⟩,mv 75 0,mv 76 1,bk 77 .sub 76 1,cl 78 177 [75,77],jj 79 (.call 178 [(kk 14),(.t 73),(.t 74),(.t 78)]),st 4 4 79] [4] [5,6]) (.ret))))))),false,false,false⟩
def F178:PFun:=⟨4,[.cell 8 true 4],.seq (rn [bx 6 2,bx 7 3,jj 8 (.alloc [zN,zN,eN,sN])] [0,1,6,7,8]) (.seq (rn [mv 9 0,mv 10 1,la 11 4 6,la 12 4 7,jj 13 (.bslice 2 [zN,zN,eN,sN,zN,zN,eN,sN] [(0,4,(.t 11)),(4,4,(.t 12))]),jj 14 (.build [zN,zN,eN,sN] [(0,1,(.t 9)),(2,1,(.t 10)),(3,1,(.t 13))]),st 4 8 14] [8]) (.ret)),false,false,false⟩
def F179:PFun:=⟨2,[.cell 4 true 4],.seq (rn [jj 4 (.alloc [zN,zN,eN,sN])] [0,1,4]) (.seq (rn [mv 10 0,jj 11 (.call 136 [(.t 10),(kk 8)]),mv 5 11] [0,1,4,5]) (.seq (.seq (rn [mv 12 1,bk 13 .leq 12 0] [0,1,4,5,13]) (.cond (.t 13) (rn [mv 14 5,bk 15 .rem 14 4,mv 5 15] [0,1,4,5]) (.skip))) (.seq (.seq (rn [mv 16 5] [0,1,4,16]) (.block 0 (.seq (rn [bk 18 .eql 16 0,mv 17 18] [0,1,4,16,17]) (.cond (.t 17) (.seq (rn [mv 19 0,jj 20 (.call 136 [(.t 19),(kk 2)]),jj 21 (.build [zN,zN,eN,sN] [(0,1,(kk 9)),(1,1,(.t 20))]),st 4 4 21] [4]) (.ret)) (.seq (.seq (rn [bk 23 .eql 16 1,mv 22 23] [0,1,4,16,22]) (.cond (.t 22) (.skip) (.seq (rn [bk 24 .eql 16 2,mv 22 24] [0,1,4,16,22]) (.cond (.t 22) (.skip) (.seq (rn [bk 25 .eql 16 3,mv 22 25] [0,1,4,16,22]) (.cond (.t 22) (.skip) (rn [bk 26 .eql 16 4,mv 22 26] [0,1,4,16,22]))))))) (.cond (.t 22) (.seq (rn [jj 27 (.bslice 6 [eN,eN,eN,eN,eN,eN] [(0,1,(.c (.string ⟨#[60]⟩))),(1,1,(.c (.string ⟨#[60,61]⟩))),(2,1,(.c (.string ⟨#[62]⟩))),(3,1,(.c (.string ⟨#[62,61]⟩))),(4,1,(.c (.string ⟨#[61,61]⟩))),(5,1,(.c (.string ⟨#[33,61]⟩)))]),mv 28 0,jj 29 (.call 136 [(.t 28),(kk 6)]),jj 30 (.indexAddr 1 (.t 27) (.t 29)),l1 31 30,mv 6 31] [0,1,4,6]) (.seq (rn [mv 32 0,mv 33 1,bk 34 .sub 33 1,cl 35 177 [32,34],jj 7 (.alloc [zN,zN,eN,sN]),st 4 7 35] [0,1,4,6,7]) (.seq (.region (some []) [mv 36 6,⟨some 37,.load true 4 (.t 7),none,[5]⟩,mv 38 0,mv 39 1,bk 40 .sub 39 1,cl 41 177 [38,40],jj 42 (.call 178 [(kk 14),(.t 36),(.t 37),(.t 41)]),st 4 4 42] [4] [5,6]) (.ret)))) (.seq (rn [bk 44 .eql 16 5,mv 43 44] [0,1,4,43]) (.cond (.t 43) (.seq (rn [mv 45 0,mv 46 1,bk 47 .sub 46 1,cl 48 179 [45,47],jj 49 (.call 176 [(kk 13),(.c (.string ⟨#[33]⟩)),(.t 48)]),st 4 4 49] [4]) (.ret)) (.skip))))))))) (.seq (rn [jj 50 (.bslice 2 [eN,eN] [(0,1,(.c (.string ⟨#[38,38]⟩))),(1,1,(.c (.string ⟨#[124,124]⟩)))]),mv 51 0,jj 52 (.call 136 [(.t 51),(kk 2)]),jj 53 (.indexAddr 1 (.t 50) (.t 52)),l1 54 53,mv 8 54] [0,1,4,8]) (.seq (rn [mv 55 0,mv 56 1,bk 57 .sub 56 1,cl 58 179 [55,57],jj 9 (.alloc [zN,zN,eN,sN]),st 4 9 58] [0,1,4,8,9]) (.seq (.region (some []) [mv 59 8,⟨some 60,.load true 4 (.t 9),none,[5]⟩,mv 61 0,mv 62 1,bk 63 .sub 62 1,cl 64 179 [61,63],jj 65 (.call 178 [(kk 14),(.t 59),(.t 60),(.t 64)]),st 4 4 65] [4] [5,6]) (.ret))))))),false,false,false⟩
end Go.Pm.F
end SF3g
section SF5
namespace Go.Pm.F
variable (C:Task->Option Res) (q:Nat) (fr:Fr) (σ : S)
def effRows15:List (List Int):=[[0,0],[0,1],[0,1],[1,0],[1,1],[2,0],[0,1],[0,1],[0,1],[2,1],[2,1],[2,1],[2,1],[1,1],[2,1],[2,1],[2,1],[1,1],[0,0],[1,0],[2,0],[0,0]]
def qir:List D:=effRows15.flatten.map fun n => .lit (.int .i64 n)
end Go.Pm.F
end SF5
section STb15
namespace Go.Pm.F
def qbz:Nat->Option PFun
 | 17=>some F17
 | 136=>some F136
 | 176=>some F176
 | 177=>some F177
 | 178=>some F178
 | 179=>some F179
 | 192=>some F192
 | 193=>some F193
 | _=>none
end Go.Pm.F
end STb15
section SGc
namespace Go.Pm
def E.cost:E->Nat
 | .int n=>(decB n.toNat).length+1
 | .bool n=>if n=0 then 6 else 5
 | .var s=>s.size+1
 | .name s=>s.size+1
 | .field _ s e=>s.size+5+e.cost
 | .un _ _ e=>6+e.cost
 | .bin _ o a b=>o.str.size+5+(a.cost+b.cost)
def Ss.cost:Ss->Nat
 | .nil=>0
 | .assign _ s e r=>s.size+5+e.cost+r.cost
 | .store _ s a b r=>s.size+9+(a.cost+b.cost)+r.cost
 | .effect _ a b r=>11+(a.cost+b.cost)+r.cost
 | .stop r=>7+r.cost
 | .cond w _ c b r=>(if w then 6 else 3)+c.cost+b.cost+r.cost
 | .block _ b r=>4+b.cost+((if qcF r then 5 else 0)+r.cost)
def Co (c0:Int) (cost:Nat) (xs:List Int) (i i':Int):Prop:=i<=i'/\(i'<=i\/i'<=xs.length)/\(cost:Int)<=c0+24*(i'-i)
end Go.Pm
end SGc
section SG1
namespace Go.Pm
open F
theorem qkn {n m:Int} (h1:I64 n) (hm:1<=m):Z qbz (.call 17 [.int n,.int m] [])=some (.ret (.int (around n m)) []):=by
 refine Z_call (pf:=F17) rfl rfl ?_
 unfold around
 have hm0 : ¬ m=0:=by omega
 by_cases h:n<0
 ·have w1:IntKind.i64.wrap (n+1)=n+1:=qag _ (by unfold I64 at h1; omega)
  have w2:IntKind.i64.wrap (-(n+1)) = -(n+1):=qag _ (by unfold I64 at h1; omega)
  simp[F17,h,hm0,w1,w2]
 ·simp[F17,h,hm0]
abbrev qr4 (v:D) (i:Int):S:=[.cells [.dat v,.int i]]
abbrev gst (xs:List Int) (i:Int):S:=qr4 (qem xs) i
def qaD (xs:List Int) (i m:Int):Int:=if (xs.length:Int)<=i then 0 else (around (xs.getD i.toNat 0) 1000000).tmod m
def qaE (xs:List Int) (i:Int):Int:=if (xs.length:Int)<=i then i else i+1
structure Bnd (v:D) (xs:List Int) (B:Int):Prop where
 row:RowV v xs
 len:(xs.length:Int)<=B
 big:B<=9223372036854775807
theorem qnX (xs:List Int):RowV (qem xs) xs:=by
 cases xs
 ·exact .inl ⟨_,rfl,rfl⟩
 ·exact .inr rfl
theorem qbC {xs:List Int} (h:xs.length<=100):Bnd (qem xs) xs 100:=⟨qnX xs,by omega,by omega⟩
theorem qaA {v:D} {xs:List Int} {i B:Int} (h:0<=i/\i<=B) (hl:Bnd v xs B):0<=qaE xs i/\qaE xs i<=B:=by
 have:=hl.len
 unfold qaE; split<;>omega
theorem qav (xs:List Int) (i:Int):(qaE xs i=i+1/\i<xs.length)\/(qaE xs i=i /\ ∀ m,qaD xs i m=0):=by
 unfold qaE qaD
 split
 ·exact .inr ⟨rfl,fun m=>rfl⟩
 ·exact .inl ⟨rfl,by omega⟩
theorem qbm {xs:List Int} {i m:Int} (hx : ∀ x∈xs,I64 x) (hm:1<=m):0<=qaD xs i m/\qaD xs i m<m:=by
 unfold qaD
 split
 ·omega
 ·have h0:I64 (xs.getD i.toNat 0):=by
   rw[List.getD_eq_getElem?_getD]
   cases h:xs[i.toNat]? with
   | none=>simp[I64]
   | some y=>exact hx _ (List.mem_of_getElem? h)
  have:=qib (m:=1000000) h0 (by omega)
  exact qhv this.1 hm
theorem qbt {v:D} {xs:List Int} {i m B:Int} (hx : ∀ x∈xs,I64 x) (hl:Bnd v xs B) (hi:0<=i/\i<=B) (hm:1<=m) :
  Z qbz (.call 136 [.ptr 0 0,.int m] (qr4 v i))=some (.ret (.int (qaD xs i m)) (qr4 v (qaE xs i))):=by
 refine Z_call (pf:=F136) rfl rfl ?_
 have hm0:m≠0:=by omega
 have hb:=hl.len
 have hb2:=hl.big
 rcases hl.row with ⟨o,rfl,rfl⟩ | rfl
 ·have h:(0:Int)<=i:=hi.1
  simp[F136,h,qaD,qaE,V.len]
 by_cases h:(xs.length:Int)<=i
 ·simp[F136,h,qaD,qaE,V.len]
 ·have a1:=qdW (qcK xs) xs.length false i hi.1 (by omega)
  have hlt:i.toNat<xs.length:=by omega
  have a2:=qkP xs i.toNat hlt
  have a3:=qkn (n:=xs[i.toNat]) (m:=1000000) (hx _ (List.getElem_mem hlt)) (by omega)
  have w1:=qag (i+1) (by omega)
  simp[F136,w1,h,qaD,qaE,V.len,a1,a2,a3,hm0,hlt]
section
variable (k:Int) (s:ByteArray) (a b a' b':Int) (t t':ByteArray) (d d':D)
theorem qpG (h1:V.one (.dat d)=true) (h2:V.cells (.dat d)=[.dat d]) :
  Z qbz (.call 176 [.int k,.str s,.dat (.agg [.lit (.int .i64 a),.lit (.int .i64 b),.lit (.string t),d])] []) =
   some (.ret (.dat (.agg [.lit (.int .i64 k),.lit (.int .i64 0),.lit (.string s),.sl [.lit (.int .i64 a),.lit (.int .i64 b),.lit (.string t),d] 1 true])) []):=by
 refine Z_call (pf:=F176) rfl rfl ?_
 simp[F176,h1,h2]
theorem qnY (h1:V.one (.dat d)=true) (h2:V.cells (.dat d)=[.dat d]) (h3:V.one (.dat d')=true) (h4:V.cells (.dat d')=[.dat d']) :
  Z qbz (.call 178 [.int k,.str s,.dat (.agg [.lit (.int .i64 a),.lit (.int .i64 b),.lit (.string t),d]),.dat (.agg [.lit (.int .i64 a'),.lit (.int .i64 b'),.lit (.string t'),d'])] []) =
   some (.ret (.dat (.agg [.lit (.int .i64 k),.lit (.int .i64 0),.lit (.string s),.sl [.lit (.int .i64 a),.lit (.int .i64 b),.lit (.string t),d,.lit (.int .i64 a'),.lit (.int .i64 b'),.lit (.string t'),d'] 2 true])) []):=by
 refine Z_call (pf:=F178) rfl rfl ?_
 simp[F178,h1,h2,h3,h4,List.range_succ]
end
def qnZ:List ByteArray:=[⟨#[105]⟩,⟨#[110]⟩,⟨#[115,117,109]⟩,⟨#[118,51]⟩]
def qvQ:List ByteArray:=qnZ++[⟨#[118]⟩]
def qlr:List ByteArray:=[⟨#[115,101,108,102]⟩,⟨#[111,116,104,101,114]⟩,⟨#[116,105,99,107]⟩]
def qhh:List ByteArray:=[⟨#[120]⟩,⟨#[121]⟩,⟨#[118,120]⟩,⟨#[118,121]⟩,⟨#[97]⟩,⟨#[98]⟩]
def qgs:List ByteArray:=qhh++[⟨#[104,105,116]⟩,⟨#[115,116,105,108,108]⟩]
def E.fine:E->Prop
 | .int n=>0<=n/\n<=2147483647
 | .bool n=>n=0\/n=1
 | .var s=>s∈qvQ
 | .name s=>s∈qlr
 | .field _ s e=>s∈qgs/\e.fine/\e.ty=1
 | .un _ neg e=>e.fine/\e.ty=if neg then 1 else 2
 | .bin _ o a b=>a.fine/\b.fine/\a.ty=o.opd/\b.ty=o.opd
def E.dp:E->Nat
 | .field _ _ e=>e.dp+1
 | .un _ _ e=>e.dp+1
 | .bin _ _ a b=>max a.dp b.dp+1
 | _=>0
def mxs:Nat->Nat
 | 0=>1
 | n+1=>2*mxs n+1
theorem qik (n:Nat):1<=mxs n:=by cases n<;>simp[mxs]
def GIb (B:Int) (v:D) (xs:List Int) (d i:Int):Prop := ∃ (e:E) (i':Int),(e.fine/\e.ty=1/\e.dp<=d.toNat/\e.size<=mxs d.toNat/\Co 2 e.cost xs i i')/\(0<=i'/\i'<=B) /\
 Z qbz (.call 177 [.ptr 0 0,.int d] (qr4 v i))=some (.ret e.node (qr4 v i'))
def GBb (B:Int) (v:D) (xs:List Int) (d i:Int):Prop := ∃ (e:E) (i':Int),(e.fine/\e.ty=2/\e.dp<=d.toNat+1/\e.size<=mxs (d.toNat+1)/\Co 6 e.cost xs i i')/\(0<=i'/\i'<=B) /\
 Z qbz (.call 179 [.ptr 0 0,.int d] (qr4 v i))=some (.ret e.node (qr4 v i'))
abbrev GI (xs:List Int):=GIb 100 (qem xs) xs
abbrev GB (xs:List Int):=GBb 100 (qem xs) xs
theorem qil {l:List ByteArray} {p:Int} (h:0<=p/\p<l.length) : ∃ s∈l,cutCells (strC l) p.toNat 1=some [.lit (.string s)]:=
 ⟨_,List.getElem_mem (by omega:p.toNat<l.length),qgq l p.toNat (by omega)⟩
def nums:List Int:=[0,1,2,3,7,100,1024,2147483647]
def quj:List Bop:=[.add,.sub,.mul,.div]
theorem qtP {p:Int} (h:0<=p/\p<4) : ∃ o∈quj,cutCells (strC [⟨#[43]⟩,⟨#[45]⟩,⟨#[42]⟩,⟨#[47]⟩]) p.toNat 1=some [.lit (.string (Bop.str o))]:=by
 obtain rfl | rfl | rfl | rfl:p=0\/p=1\/p=2\/p=3:=by omega
 ·exact⟨.add,by simp[quj],rfl⟩
 ·exact⟨.sub,by simp[quj],rfl⟩
 ·exact⟨.mul,by simp[quj],rfl⟩
 ·exact⟨.div,by simp[quj],rfl⟩
section
variable {v:D} {xs:List Int} {i d B:Int} (hx : ∀ x∈xs,I64 x) (hl:Bnd v xs B) (hi:0<=i/\i<=B)
include hx hl hi
def qjn (xs:List Int) (d i:Int):Int:=if d<=0 then (qaD xs i 12).tmod 6 else qaD xs i 12
theorem qpH (h:qjn xs d i=0\/qjn xs d i=1):GIb B v xs d i:=by
 have n1:=qbt (i:=i) (m:=12) hx hl hi (by omega)
 have r1:=qaA hi hl
 have n2:=qbt (i:=qaE xs i) (m:=8) hx hl r1 (by omega)
 have r2:=qaA r1 hl
 have p:=qbm (i:=qaE xs i) (m:=8) hx (by omega)
 have hat:=qdW (qcK nums) 8 true (qaD xs (qaE xs i) 8) p.1 (by omega)
 have hc:=qkP nums (qaD xs (qaE xs i) 8).toNat (by simp[nums]; omega)
 have hm : ∀ n∈nums,0<=n/\n<=2147483647:=by decide
 have hn:=hm _ (List.getElem_mem (l:=nums) (n:=(qaD xs (qaE xs i) 8).toNat) (by simp[nums]; omega))
 have hlen:(qaD xs (qaE xs i) 8).toNat<nums.length:=by simp[nums]; omega
 have hco:Co 2 (E.cost (.int (nums[(qaD xs (qaE xs i) 8).toNat]'hlen))) xs i (qaE xs (qaE xs i)):=by
  have hcs : ∀ n∈nums,E.cost (.int n)<=11:=by decide +kernel
  have h11:=hcs _ (List.getElem_mem hlen)
  have h0 : ∀ (k:Nat) (hk:k<nums.length),k=0->E.cost (.int (nums[k]'hk))=2:=fun k hk e=>by subst e; exact (by decide +kernel:E.cost (.int 0)=2)
  have hz:=h0 _ hlen
  unfold Co
  rcases qav xs i with ⟨e1,l1⟩ | ⟨e1,l1⟩
  ·rcases qav xs (qaE xs i) with ⟨e2,l2⟩ | ⟨e2,l2⟩<;>omega
  ·have e3:qaD xs (qaE xs i) 8=0:=by rw[e1]; exact l1 8
   have e4:=hz (by rw[e3]; rfl)
   rcases qav xs (qaE xs i) with ⟨e2,l2⟩ | ⟨e2,l2⟩<;>omega
 generalize nums[(qaD xs (qaE xs i) 8).toNat]'_=vv at hc hn hco
 simp only[nums,qcK,List.map] at hat hc
 refine⟨.int vv,_,⟨hn,rfl,Nat.zero_le _,qik _,hco⟩,r2,?_⟩
 refine Z_call (pf:=F177) rfl rfl ?_
 unfold qjn at h
 by_cases hd:d<=0
 ·rw[if_pos hd] at h
  rcases h with h | h<;>simp[F177,n1,n2,hd,h,hat,hc]
 ·rw[if_neg hd] at h
  rcases h with h | h<;>simp[F177,n1,n2,hd,h,hat,hc]
theorem qpI (h:qjn xs d i=2\/qjn xs d i=3):GIb B v xs d i:=by
 have n1:=qbt (i:=i) (m:=12) hx hl hi (by omega)
 have r1:=qaA hi hl
 have n2:=qbt (i:=qaE xs i) (m:=4) hx hl r1 (by omega)
 have r2:=qaA r1 hl
 have p:=qbm (i:=qaE xs i) (m:=4) hx (by omega)
 have hat:=qdW (strC qnZ) 4 true (qaD xs (qaE xs i) 4) p.1 (by omega)
 obtain⟨s,hs,hc⟩:=qil (l:=qnZ) (p:=qaD xs (qaE xs i) 4) (by simpa [qnZ] using p)
 simp only[qnZ,strC,List.map] at hat hc
 have hsel:qaD xs i 12≠0:=fun h0=>by
  unfold qjn at h
  rw[h0] at h
  split at h<;>simp at h
 have hco:Co 2 (E.cost (.var s)) xs i (qaE xs (qaE xs i)):=by
  have hcs : ∀ s∈qnZ,s.size<=5:=by decide
  have h5:=hcs s hs
  show _/\_/\((s.size+1:Nat):Int)<=_
  rcases qav xs i with ⟨e1,l1⟩ | ⟨e1,l1⟩
  ·rcases qav xs (qaE xs i) with ⟨e2,l2⟩ | ⟨e2,l2⟩<;>omega
  ·exact absurd (l1 12) hsel
 refine⟨.var s,_,⟨List.mem_append_left _ hs,rfl,Nat.zero_le _,qik _,hco⟩,r2,?_⟩
 refine Z_call (pf:=F177) rfl rfl ?_
 unfold qjn at h
 by_cases hd:d<=0
 ·rw[if_pos hd] at h
  rcases h with h | h<;>simp[F177,n1,n2,hd,h,hat,hc]
 ·rw[if_neg hd] at h
  rcases h with h | h<;>simp[F177,n1,n2,hd,h,hat,hc]
theorem qnj (h:qjn xs d i=4\/qjn xs d i=5):GIb B v xs d i:=by
 have n1:=qbt (i:=i) (m:=12) hx hl hi (by omega)
 have r1:=qaA hi hl
 have n2:=qbt (i:=qaE xs i) (m:=3) hx hl r1 (by omega)
 have r2:=qaA r1 hl
 have p:=qbm (i:=qaE xs i) (m:=3) hx (by omega)
 have hat:=qdW (strC qlr) 3 true (qaD xs (qaE xs i) 3) p.1 (by omega)
 obtain⟨s,hs,hc⟩:=qil (l:=qlr) (p:=qaD xs (qaE xs i) 3) (by simpa [qlr] using p)
 simp only[qlr,strC,List.map] at hat hc
 have hsel:qaD xs i 12≠0:=fun h0=>by
  unfold qjn at h
  rw[h0] at h
  split at h<;>simp at h
 have hco:Co 2 (E.cost (.name s)) xs i (qaE xs (qaE xs i)):=by
  have hcs : ∀ s∈qlr,s.size<=5:=by decide
  have h5:=hcs s hs
  show _/\_/\((s.size+1:Nat):Int)<=_
  rcases qav xs i with ⟨e1,l1⟩ | ⟨e1,l1⟩
  ·rcases qav xs (qaE xs i) with ⟨e2,l2⟩ | ⟨e2,l2⟩<;>omega
  ·exact absurd (l1 12) hsel
 refine⟨.name s,_,⟨hs,rfl,Nat.zero_le _,qik _,hco⟩,r2,?_⟩
 refine Z_call (pf:=F177) rfl rfl ?_
 unfold qjn at h
 by_cases hd:d<=0
 ·rw[if_pos hd] at h
  rcases h with h | h<;>simp[F177,n1,n2,hd,h,hat,hc]
 ·rw[if_neg hd] at h
  rcases h with h | h<;>simp[F177,n1,n2,hd,h,hat,hc]
theorem qpJ (hd : ¬ d<=0) (hd2:d<=1000) (ih : ∀ j,0<=j/\j<=B->GIb B v xs (d-1) j) (h:qaD xs i 12=6\/qaD xs i 12=7):GIb B v xs d i:=by
 have n1:=qbt (i:=i) (m:=12) hx hl hi (by omega)
 have r1:=qaA hi hl
 have n2:=qbt (i:=qaE xs i) (m:=8) hx hl r1 (by omega)
 have r2:=qaA r1 hl
 have p:=qbm (i:=qaE xs i) (m:=8) hx (by omega)
 have hat:=qdW (strC qgs) 8 true (qaD xs (qaE xs i) 8) p.1 (by omega)
 obtain⟨s,hs,hc⟩:=qil (l:=qgs) (p:=qaD xs (qaE xs i) 8) (by simpa [qgs,qhh] using p)
 simp only[qgs,qhh,strC,List.map,List.cons_append,List.nil_append] at hat hc
 obtain⟨e,i',h1,h2,h3⟩:=ih _ r2
 have o:=qpG 11 s e.kind e.num e.str e.kids (by simp) (by simp)
 have w1:=qag (d-1) (by omega)
 have ed:d.toNat=(d-1).toNat+1:=by omega
 have hco:Co 2 (E.cost (.field true s e)) xs i i':=by
  have hcs : ∀ s∈qgs,s.size<=5:=by decide
  have h5:=hcs s hs
  obtain⟨q1,q2,q3⟩:=h1.2.2.2.2
  show _/\_/\((s.size+5+e.cost:Nat):Int)<=_
  rcases qav xs i with ⟨e1,l1⟩ | ⟨e1,l1⟩
  ·rcases qav xs (qaE xs i) with ⟨e2,l2⟩ | ⟨e2,l2⟩<;>omega
  ·exact absurd (l1 12) (by omega)
 refine⟨.field true s e,i',⟨⟨hs,h1.1,h1.2.1⟩,by simp[h1.2.1],by rw[ed]; simp only[E.dp]; omega,by rw[ed]; simp only[mxs,qjk]; omega,hco⟩,h2,?_⟩
 refine Z_call (pf:=F177) rfl rfl ?_
 rcases h with h | h<;>simp[F177,n1,n2,hd,h,hat,hc,h3,o,w1]
theorem qtQ (hd : ¬ d<=0) (hd2:d<=1000) (ih : ∀ j,0<=j/\j<=B->GIb B v xs (d-1) j) (h:qaD xs i 12=8):GIb B v xs d i:=by
 have n1:=qbt (i:=i) (m:=12) hx hl hi (by omega)
 have r1:=qaA hi hl
 obtain⟨e,i',h1,h2,h3⟩:=ih _ r1
 have o:=qpG 13 ⟨#[45]⟩ e.kind e.num e.str e.kids (by simp) (by simp)
 have w1:=qag (d-1) (by omega)
 have ed:d.toNat=(d-1).toNat+1:=by omega
 have hco:Co 2 (E.cost (.un true true e)) xs i i':=by
  obtain⟨q1,q2,q3⟩:=h1.2.2.2.2
  show _/\_/\((6+e.cost:Nat):Int)<=_
  rcases qav xs i with ⟨e1,l1⟩ | ⟨e1,l1⟩
  ·omega
  ·exact absurd (l1 12) (by omega)
 refine⟨.un true true e,i',⟨⟨h1.1,h1.2.1⟩,by simp[h1.2.1],by rw[ed]; simp only[E.dp]; omega,by rw[ed]; simp only[mxs,qkj]; omega,hco⟩,h2,?_⟩
 refine Z_call (pf:=F177) rfl rfl ?_
 simp[F177,n1,hd,h,h3,o,w1,ustr]
theorem qtR (hd : ¬ d<=0) (hd2:d<=1000) (ih : ∀ j,0<=j/\j<=B->GIb B v xs (d-1) j) (h:9<=qaD xs i 12):GIb B v xs d i:=by
 have n1:=qbt (i:=i) (m:=12) hx hl hi (by omega)
 have r1:=qaA hi hl
 have n2:=qbt (i:=qaE xs i) (m:=4) hx hl r1 (by omega)
 have r2:=qaA r1 hl
 have p:=qbm (i:=qaE xs i) (m:=4) hx (by omega)
 have hat:=qdW (strC [⟨#[43]⟩,⟨#[45]⟩,⟨#[42]⟩,⟨#[47]⟩]) 4 true (qaD xs (qaE xs i) 4) p.1 (by omega)
 obtain⟨o,ho,hc⟩:=qtP p
 simp only[strC,List.map] at hat hc
 obtain⟨a,i1,h1,h2,h3⟩:=ih _ r2
 obtain⟨b,i2,h4,h5,h6⟩:=ih _ h2
 have ot:=qnY 14 o.str a.kind a.num b.kind b.num a.str b.str a.kids b.kids (by simp) (by simp) (by simp) (by simp)
 have w1:=qag (d-1) (by omega)
 have ed:d.toNat=(d-1).toNat+1:=by omega
 have ho1:o.opd=1/\o.res=1:=by
  simp only[quj,List.mem_cons,List.not_mem_nil,or_false] at ho
  rcases ho with rfl | rfl | rfl | rfl<;>exact⟨rfl,rfl⟩
 have hco:Co 2 (E.cost (.bin true o a b)) xs i i2:=by
  have ho2:o.str.size<=2:=by cases o<;>decide
  obtain⟨q1,q2,q3⟩:=h1.2.2.2.2
  obtain⟨q4,q5,q6⟩:=h4.2.2.2.2
  show _/\_/\((o.str.size+5+(a.cost+b.cost):Nat):Int)<=_
  rcases qav xs i with ⟨e1,l1⟩ | ⟨e1,l1⟩
  ·rcases qav xs (qaE xs i) with ⟨e2,l2⟩ | ⟨e2,l2⟩<;>omega
  ·exact absurd (l1 12) (by omega)
 refine⟨.bin true o a b,i2,⟨⟨h1.1,h4.1,by rw[ho1.1]; exact h1.2.1,by rw[ho1.1]; exact h4.2.1⟩,by simp[h1.2.1,h4.2.1,ho1.1,ho1.2],by rw[ed]; simp only[E.dp]; omega,by rw[ed]; simp only[mxs,qgp]; omega,hco⟩,h5,?_⟩
 refine Z_call (pf:=F177) rfl rfl ?_
 have k0 : ¬ qaD xs i 12=0:=by omega
 have k1 : ¬ qaD xs i 12=1:=by omega
 have k2 : ¬ qaD xs i 12=2:=by omega
 have k3 : ¬ qaD xs i 12=3:=by omega
 have k4 : ¬ qaD xs i 12=4:=by omega
 have k5 : ¬ qaD xs i 12=5:=by omega
 have k6 : ¬ qaD xs i 12=6:=by omega
 have k7 : ¬ qaD xs i 12=7:=by omega
 have k8 : ¬ qaD xs i 12=8:=by omega
 simp[F177,n1,n2,hd,k0,k1,k2,k3,k4,k5,k6,k7,k8,hat,hc,h3,h6,ot,w1]
end
end Go.Pm
end SG1
section SG2
namespace Go.Pm
open F
theorem qmQ {v:D} {xs:List Int} {B:Int} (hx : ∀ x∈xs,I64 x) (hl:Bnd v xs B) : ∀ (n:Nat) (d i:Int),d<=n->n<=1000->(0<=i/\i<=B)->GIb B v xs d i
 | n,d,i,hd,hn,hi=>by
  have p:=qbm (i:=i) (m:=12) hx (by omega)
  by_cases h0:d<=0
  ·have q:=qhv p.1 (m:=6) (by omega)
   have e:qjn xs d i=(qaD xs i 12).tmod 6:=if_pos h0
   by_cases h1:qjn xs d i<2
   ·exact qpH hx hl hi (by omega)
   by_cases h2:qjn xs d i<4
   ·exact qpI hx hl hi (by omega)
   ·exact qnj hx hl hi (by omega)
  ·have e:qjn xs d i=qaD xs i 12:=if_neg h0
   by_cases h1:qjn xs d i<2
   ·exact qpH hx hl hi (by omega)
   by_cases h2:qjn xs d i<4
   ·exact qpI hx hl hi (by omega)
   by_cases h3:qjn xs d i<6
   ·exact qnj hx hl hi (by omega)
   cases n with
   | zero=>omega
   | succ n=>
    have ih : ∀ j,0<=j/\j<=B->GIb B v xs (d-1) j:=fun j hj=>qmQ hx hl n (d-1) j (by omega) (by omega) hj
    by_cases h4:qjn xs d i<8
    ·exact qpJ hx hl hi h0 (by omega) ih (by omega)
    by_cases h5:qjn xs d i=8
    ·exact qtQ hx hl hi h0 (by omega) ih (by omega)
    ·exact qtR hx hl hi h0 (by omega) ih (by omega)
def qrN:List Bop:=[.lt,.le,.gt,.ge,.eq,.ne]
theorem qsT {p:Int} (h:0<=p/\p<6) : ∃ o∈qrN,cutCells (strC [⟨#[60]⟩,⟨#[60,61]⟩,⟨#[62]⟩,⟨#[62,61]⟩,⟨#[61,61]⟩,⟨#[33,61]⟩]) p.toNat 1=some [.lit (.string (Bop.str o))]:=by
 obtain rfl | rfl | rfl | rfl | rfl | rfl:p=0\/p=1\/p=2\/p=3\/p=4\/p=5:=by omega
 ·exact⟨.lt,by simp[qrN],rfl⟩
 ·exact⟨.le,by simp[qrN],rfl⟩
 ·exact⟨.gt,by simp[qrN],rfl⟩
 ·exact⟨.ge,by simp[qrN],rfl⟩
 ·exact⟨.eq,by simp[qrN],rfl⟩
 ·exact⟨.ne,by simp[qrN],rfl⟩
def qwc:List Bop:=[.and,.or]
theorem qsU {p:Int} (h:0<=p/\p<2) : ∃ o∈qwc,cutCells (strC [⟨#[38,38]⟩,⟨#[124,124]⟩]) p.toNat 1=some [.lit (.string (Bop.str o))]:=by
 obtain rfl | rfl:p=0\/p=1:=by omega
 ·exact⟨.and,by simp[qwc],rfl⟩
 ·exact⟨.or,by simp[qwc],rfl⟩
def qoU (xs:List Int) (d i:Int):Int:=if d<=0 then (qaD xs i 8).tmod 4 else qaD xs i 8
section
variable {v:D} {xs:List Int} {i d B:Int} (hx : ∀ x∈xs,I64 x) (hl:Bnd v xs B) (hi:0<=i/\i<=B)
include hx hl hi
theorem qmR (h:qoU xs d i=0):GBb B v xs d i:=by
 have n1:=qbt (i:=i) (m:=8) hx hl hi (by omega)
 have r1:=qaA hi hl
 have n2:=qbt (i:=qaE xs i) (m:=2) hx hl r1 (by omega)
 have r2:=qaA r1 hl
 have p:=qbm (i:=qaE xs i) (m:=2) hx (by omega)
 have hco:Co 6 (E.cost (.bool (qaD xs (qaE xs i) 2))) xs i (qaE xs (qaE xs i)):=by
  have hb:E.cost (.bool (qaD xs (qaE xs i) 2))<=6:=by simp only[E.cost]; split<;>omega
  unfold Co
  rcases qav xs i with ⟨e1,l1⟩ | ⟨e1,l1⟩<;>rcases qav xs (qaE xs i) with ⟨e2,l2⟩ | ⟨e2,l2⟩<;>omega
 refine⟨.bool (qaD xs (qaE xs i) 2),_,⟨by show _\/_; omega,rfl,Nat.zero_le _,qik _,hco⟩,r2,?_⟩
 refine Z_call (pf:=F179) rfl rfl ?_
 unfold qoU at h
 by_cases hd:d<=0
 ·rw[if_pos hd] at h
  simp[F179,n1,n2,hd,h]
 ·rw[if_neg hd] at h
  simp[F179,n1,n2,hd,h]
theorem qmS (hd2:d<=1000) (hd3 : -1000<=d) (ih : ∀ j,0<=j/\j<=B->GIb B v xs (d-1) j) (h:1<=qoU xs d i/\qoU xs d i<=4):GBb B v xs d i:=by
 have n1:=qbt (i:=i) (m:=8) hx hl hi (by omega)
 have r1:=qaA hi hl
 have n2:=qbt (i:=qaE xs i) (m:=6) hx hl r1 (by omega)
 have r2:=qaA r1 hl
 have p:=qbm (i:=qaE xs i) (m:=6) hx (by omega)
 have hat:=qdW (strC [⟨#[60]⟩,⟨#[60,61]⟩,⟨#[62]⟩,⟨#[62,61]⟩,⟨#[61,61]⟩,⟨#[33,61]⟩]) 6 true (qaD xs (qaE xs i) 6) p.1 (by omega)
 obtain⟨o,ho,hc⟩:=qsT p
 simp only[strC,List.map] at hat hc
 obtain⟨a,i1,h1,h2,h3⟩:=ih _ r2
 obtain⟨b,i2,h4,h5,h6⟩:=ih _ h2
 have ot:=qnY 14 o.str a.kind a.num b.kind b.num a.str b.str a.kids b.kids (by simp) (by simp) (by simp) (by simp)
 have w1:=qag (d-1) (by omega)
 have ed:(d-1).toNat<=d.toNat:=by omega
 have hm:mxs (d-1).toNat<=mxs d.toNat:=by
  by_cases h0:d<=0
  ·rw[show (d-1).toNat=0 by omega]; exact qik _
  ·rw[show d.toNat=(d-1).toNat+1 by omega]; simp only[mxs]; omega
 have ho1:o.opd=1/\o.res=2:=by
  simp only[qrN,List.mem_cons,List.not_mem_nil,or_false] at ho
  rcases ho with rfl | rfl | rfl | rfl | rfl | rfl<;>exact⟨rfl,rfl⟩
 have hco:Co 6 (E.cost (.bin true o a b)) xs i i2:=by
  have ho2:o.str.size<=2:=by cases o<;>decide
  obtain⟨q1,q2,q3⟩:=h1.2.2.2.2
  obtain⟨q4,q5,q6⟩:=h4.2.2.2.2
  show _/\_/\((o.str.size+5+(a.cost+b.cost):Nat):Int)<=_
  rcases qav xs i with ⟨e1,l1⟩ | ⟨e1,l1⟩
  ·rcases qav xs (qaE xs i) with ⟨e2,l2⟩ | ⟨e2,l2⟩<;>omega
  ·exact absurd (l1 8) (fun h0=>by
    unfold qoU at h
    rw[h0] at h
    split at h<;>simp at h)
 refine⟨.bin true o a b,i2,⟨⟨h1.1,h4.1,by rw[ho1.1]; exact h1.2.1,by rw[ho1.1]; exact h4.2.1⟩,by simp[h1.2.1,h4.2.1,ho1.1,ho1.2],by simp only[E.dp]; omega,by simp only[mxs,qgp]; omega,hco⟩,h5,?_⟩
 refine Z_call (pf:=F179) rfl rfl ?_
 unfold qoU at h
 by_cases hd:d<=0
 ·rw[if_pos hd] at h
  obtain h' | h' | h' | h':(qaD xs i 8).tmod 4=1\/(qaD xs i 8).tmod 4=2\/(qaD xs i 8).tmod 4=3\/(qaD xs i 8).tmod 4=4:=by omega
  all_goals simp[F179,n1,n2,hd,h',hat,hc,h3,h6,ot,w1]
 ·rw[if_neg hd] at h
  obtain h' | h' | h' | h':qaD xs i 8=1\/qaD xs i 8=2\/qaD xs i 8=3\/qaD xs i 8=4:=by omega
  all_goals simp[F179,n1,n2,hd,h',hat,hc,h3,h6,ot,w1]
theorem qqF (hd : ¬ d<=0) (hd2:d<=1000) (ih : ∀ j,0<=j/\j<=B->GBb B v xs (d-1) j) (h:qaD xs i 8=5):GBb B v xs d i:=by
 have n1:=qbt (i:=i) (m:=8) hx hl hi (by omega)
 have r1:=qaA hi hl
 obtain⟨e,i',h1,h2,h3⟩:=ih _ r1
 have o:=qpG 13 ⟨#[33]⟩ e.kind e.num e.str e.kids (by simp) (by simp)
 have w1:=qag (d-1) (by omega)
 have ed:d.toNat=(d-1).toNat+1:=by omega
 have hco:Co 6 (E.cost (.un true false e)) xs i i':=by
  obtain⟨q1,q2,q3⟩:=h1.2.2.2.2
  show _/\_/\((6+e.cost:Nat):Int)<=_
  rcases qav xs i with ⟨e1,l1⟩ | ⟨e1,l1⟩
  ·omega
  ·exact absurd (l1 8) (by omega)
 refine⟨.un true false e,i',⟨⟨h1.1,h1.2.1⟩,by simp[h1.2.1],by rw[ed]; simp only[E.dp]; omega,by rw[ed]; have:=h1.2.2.2.1; simp only[mxs,qkj] at *; omega,hco⟩,h2,?_⟩
 refine Z_call (pf:=F179) rfl rfl ?_
 simp[F179,n1,hd,h,h3,o,w1,ustr]
theorem qqG (hd : ¬ d<=0) (hd2:d<=1000) (ih : ∀ j,0<=j/\j<=B->GBb B v xs (d-1) j) (h:qaD xs i 8=6\/qaD xs i 8=7):GBb B v xs d i:=by
 have n1:=qbt (i:=i) (m:=8) hx hl hi (by omega)
 have r1:=qaA hi hl
 have n2:=qbt (i:=qaE xs i) (m:=2) hx hl r1 (by omega)
 have r2:=qaA r1 hl
 have p:=qbm (i:=qaE xs i) (m:=2) hx (by omega)
 have hat:=qdW (strC [⟨#[38,38]⟩,⟨#[124,124]⟩]) 2 true (qaD xs (qaE xs i) 2) p.1 (by omega)
 obtain⟨o,ho,hc⟩:=qsU p
 simp only[strC,List.map] at hat hc
 obtain⟨a,i1,h1,h2,h3⟩:=ih _ r2
 obtain⟨b,i2,h4,h5,h6⟩:=ih _ h2
 have ot:=qnY 14 o.str a.kind a.num b.kind b.num a.str b.str a.kids b.kids (by simp) (by simp) (by simp) (by simp)
 have w1:=qag (d-1) (by omega)
 have ed:d.toNat=(d-1).toNat+1:=by omega
 have ho1:o.opd=2/\o.res=2:=by
  simp only[qwc,List.mem_cons,List.not_mem_nil,or_false] at ho
  rcases ho with rfl | rfl<;>exact⟨rfl,rfl⟩
 have hco:Co 6 (E.cost (.bin true o a b)) xs i i2:=by
  have ho2:o.str.size<=2:=by cases o<;>decide
  obtain⟨q1,q2,q3⟩:=h1.2.2.2.2
  obtain⟨q4,q5,q6⟩:=h4.2.2.2.2
  show _/\_/\((o.str.size+5+(a.cost+b.cost):Nat):Int)<=_
  rcases qav xs i with ⟨e1,l1⟩ | ⟨e1,l1⟩
  ·rcases qav xs (qaE xs i) with ⟨e2,l2⟩ | ⟨e2,l2⟩<;>omega
  ·exact absurd (l1 8) (by omega)
 refine⟨.bin true o a b,i2,⟨⟨h1.1,h4.1,by rw[ho1.1]; exact h1.2.1,by rw[ho1.1]; exact h4.2.1⟩,by simp[h1.2.1,h4.2.1,ho1.1,ho1.2],by rw[ed]; simp only[E.dp]; omega,by rw[ed]; have:=h1.2.2.2.1; have:=h4.2.2.2.1; simp only[mxs,qgp] at *; omega,hco⟩,h5,?_⟩
 refine Z_call (pf:=F179) rfl rfl ?_
 rcases h with h | h<;>simp[F179,n1,n2,hd,h,hat,hc,h3,h6,ot,w1]
end
theorem qlX {v:D} {xs:List Int} {B:Int} (hx : ∀ x∈xs,I64 x) (hl:Bnd v xs B) : ∀ (n:Nat) (d i:Int),d<=n -> -100<=d->n<=1000->(0<=i/\i<=B)->GBb B v xs d i
 | n,d,i,hd,hd',hn,hi=>by
  have p:=qbm (i:=i) (m:=8) hx (by omega)
  have ihI : ∀ j,0<=j/\j<=B->GIb B v xs (d-1) j:=fun j hj=>qmQ hx hl n (d-1) j (by omega) (by omega) hj
  by_cases h0:d<=0
  ·have q:=qhv p.1 (m:=4) (by omega)
   have e:qoU xs d i=(qaD xs i 8).tmod 4:=if_pos h0
   by_cases h1:qoU xs d i=0
   ·exact qmR hx hl hi h1
   ·exact qmS hx hl hi (by omega) (by omega) ihI (by omega)
  ·have e:qoU xs d i=qaD xs i 8:=if_neg h0
   by_cases h1:qoU xs d i=0
   ·exact qmR hx hl hi h1
   by_cases h2:qoU xs d i<=4
   ·exact qmS hx hl hi (by omega) (by omega) ihI (by omega)
   cases n with
   | zero=>omega
   | succ n=>
    have ih : ∀ j,0<=j/\j<=B->GBb B v xs (d-1) j:=fun j hj=>qlX hx hl n (d-1) j (by omega) (by omega) (by omega) hj
    by_cases h4:qaD xs i 8=5
    ·exact qqF hx hl hi h0 (by omega) ih h4
    ·exact qqG hx hl hi h0 (by omega) ih (by omega)
theorem qnE {xs:List Int} (hx : ∀ x∈xs,I64 x) (hl:xs.length<=100) (n:Nat) (d i:Int) (hd:d<=n) (hn:n<=1000) (hi:0<=i/\i<=100):GI xs d i:=qmQ hx (qbC hl) n d i hd hn hi
theorem qrO {xs:List Int} (hx : ∀ x∈xs,I64 x) (hl:xs.length<=100) (n:Nat) (d i:Int) (hd:d<=n) (hd' : -100<=d) (hn:n<=1000) (hi:0<=i/\i<=100):GB xs d i:=qlX hx (qbC hl) n d i hd hd' hn hi
end Go.Pm
end SG2
