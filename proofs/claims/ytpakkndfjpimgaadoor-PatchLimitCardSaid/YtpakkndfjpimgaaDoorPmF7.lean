/- The abstract machine's program, printed by a program of our own: group 7. The abstract machine's program, printed by a program of our own: group x. The abstract machine's programs: tables of functions. Chapter 17: what programOf makes of the sources that the laws build. Chapter 17: the book: New, Add, Versions. Chapter 17: Versions. The abstract machine's program, printed by a program of our own: group 7r. The abstract machine's program, printed by a program of our own: group 01. The abstract machine's program, printed by a program of our own: group Law17. Chapter 17's law PatchLimit. The abstract machine's program, printed by a program of our own: group xp. The abstract machine's programs: tables of functions. Chapter 17's law PatchLimit, over the whole table. -/
import Derived.Test.YtpakkndfjpimgaaDoorPmY
import Derived.Test.YtpakkndfjpimgaaDoorPmF3
import Derived.KernelRfl
set_option linter.unusedSimpArgs false
set_option linter.unusedVariables false
section SF7
namespace Go.Pm.F
variable (C:Task->Option Res) (q:Nat) (fr:Fr) (σ : S)
def F317:PFun:=⟨1,[.tmp 2,.tmp 3],.seq (rn [jj 2 (.mov (.c (.pointer none))),mx 3 (kk 0)] [0]) (.seq (rn [mv 7 0,cl 8 322 [7],mv 6 8,ex 9 6 0,ex 10 6 1,jj 4 (.alloc [sN,zN,zN,zN]),st 4 4 9,mv 5 10] [4,5]) (.seq (.seq (rn [mv 11 5,bk 12 .neq 11 0] [4,5,12]) (.cond (.t 12) (.seq (rn [mv 13 5,jj 2 (.mov (.c (.pointer none))),mv 3 13] [2,3]) (.ret)) (.skip))) (.seq (rn [la 14 4 4,jj 15 (.build [zN,sN,zN,zN,zN] [(0,1,(kk 0)),(1,4,(.t 14))]),jj 16 (.bslice 1 [zN,sN,zN,zN,zN] [(0,5,(.t 15))]),jj 17 (.build [sN] [(0,1,(.t 16))]),bx 18 17,mv 2 18,mx 3 (kk 0)] [2,3]) (.ret)))),false,false,false⟩
def F318:PFun:=⟨3,[.tmp 6],.seq (rn [mx 6 (kk 0)] [0,1,2]) (.seq (.seq (rn [mv 9 0,nc 10 9,fa 11 0 10,l1 12 11,ls 13 12,bk 14 .gtr 13 8] [0,1,2,14]) (.cond (.t 14) (.seq (rn [mx 6 (kk 2)] [6]) (.ret)) (.skip))) (.seq (.seq (.region (some []) [mv 15 1,mv 16 0,nc 17 16,fa 18 0 17,l1 19 18,mv 20 0,nc 21 20,fa 22 0 21,l1 23 22,ls 24 23,bk 25 .sub 24 1,jj 26 (.indexAddr 5 (.t 19) (.t 25)),fa 27 0 26,l1 28 27,bn 29 .leq 15 28] [0,1,2,29]) (.cond (.t 29) (.seq (rn [mx 6 (kk 5)] [6]) (.ret)) (.skip))) (.seq (rn [mv 31 2,cl 32 322 [31],mv 30 32,ex 33 30 0,ex 34 30 1,jj 7 (.alloc [sN,zN,zN,zN]),st 4 7 33,mv 8 34] [0,1,7,8]) (.seq (.seq (rn [mv 35 8,bk 36 .neq 35 0] [0,1,7,8,36]) (.cond (.t 36) (.seq (rn [mv 37 8,mv 6 37] [6]) (.ret)) (.skip))) (.seq (.region (some []) [mv 38 0,mv 39 0,nc 40 39,fa 41 0 40,l1 42 41,mv 43 1,la 44 4 7,jj 45 (.build [zN,sN,zN,zN,zN] [(0,1,(.t 43)),(1,4,(.t 44))]),jj 46 (.bslice 1 [zN,sN,zN,zN,zN] [(0,5,(.t 45))]),jj 47 (.append 5 56 (.t 42) (.t 46)),nc 48 38,fa 49 0 48,st 1 49 47] []) (.seq (rn [mx 6 (kk 0)] [6]) (.ret))))))),false,false,false⟩
@[simp] def F320l0x:PC:=(.seq (rn [bn 18 .lss 17 16] [3,15,16,17,18]) (.seq (.cond (.t 18) (.skip) (.exit 0)) (.seq (.block 1 (.seq (rn [mv 19 17,jj 20 (.indexAddr 5 (.t 15) (.t 17)),la 21 5 20,jj 5 (.alloc [zN,sN,zN,zN,zN]),mv 4 19,st 5 5 21] [3,4,5,15,16,17]) (rn [mv 22 3,mv 23 4,fa 24 0 5,l1 25 24,jj 26 (.indexAddr 1 (.t 22) (.t 23)),st 1 26 25] [3,15,16,17]))) (rn [bk 27 .add 17 1,mv 17 27] [3,15,16,17]))))
def F320l0:PC:=F320l0x
theorem qcy:run C q F320l0 fr σ = run C q F320l0x fr σ := rfl
def F320:PFun:=⟨1,[.tmp 2],.seq (rn [jj 2 (.mov (.c (.slice none 0 0)))] [0]) (.seq (rn [mv 6 0,nc 7 6,fa 8 0 7,l1 9 8,ls 10 9,jj 11 (.mkslice false [zN] 8 (.t 10) (.t 10)),mv 3 11] [0,3]) (.seq (.seq (rn [mv 12 0,nc 13 12,fa 14 0 13,l1 15 14,ls 16 15,mx 17 (kk 0)] [3,15,16,17]) (.block 0 (.loop F320l0))) (.seq (rn [mv 28 3,mv 2 28] [2]) (.ret)))),false,false,false⟩
def F322:PFun:=⟨1,[.cell 2 true 4,.tmp 3],.seq (rn [jj 2 (.alloc [sN,zN,zN,zN]),mx 3 (kk 0)] [0,2]) (.seq (rn [mv 8 0,jj 9 (.call 324 [(.t 8),(kk 0),(.f 325)]),mv 7 9,ex 10 7 0,ex 11 7 1,jj 4 (.alloc [zN,zN,eN,sN,zN,zN,eN,sN,zN,zN,eN,sN]),st 12 4 10,mv 5 11] [2,4,5]) (.seq (rn [la 13 12 4,mv 14 5,jj 15 (.call 326 [(.t 13),(.t 14),(.f 327)]),mv 12 15,ex 16 12 0,ex 17 12 1,jj 6 (.alloc [zN,zN,eN,sN,zN,zN,eN,sN,zN,zN,eN,sN]),st 12 6 16,mv 5 17] [2,5,6]) (.seq (rn [la 18 12 6,mv 19 5,jj 20 (.call 328 [(.t 18),(.t 19),(.f 131)]),ex 21 20 0,ex 22 20 1,st 4 2 21,mv 3 22] [2,3]) (.ret)))),false,false,false⟩
def F323:PFun:=⟨2,[.tmp 4,.cell 5 true 4],.seq (rn [bx 2 0,bx 3 1,mx 4 (kk 0),jj 5 (.alloc [sN,zN,zN,zN])] [2,3,5]) (.seq (rn [l1 9 2,nc 10 9,fa 11 0 10,l1 12 11,ls 13 12,jj 14 (.mkfn 330 [] [(.t 2),(.t 3)]),cl 15 329 [13,14],mv 6 15] [2,5,6]) (.seq (rn [mv 16 6,bk 17 .sub 16 1,jj 18 (.max [(.t 17),(kk 0)]),mv 7 18] [2,5,7]) (.seq (rn [l1 19 2,nc 20 19,fa 21 0 20,l1 22 21,mv 23 7,jj 24 (.indexAddr 5 (.t 22) (.t 23)),fa 25 1 24,la 26 4 25,jj 8 (.alloc [sN,zN,zN,zN]),st 4 8 26] [5,7,8]) (.seq (.region (some []) [mv 27 7,fa 28 0 8,l1 29 28,cl 30 331 [29],fa 31 1 8,⟨some 32,.load true 3 (.t 31),none,[3]⟩,jj 33 (.build [sN,zN,zN,zN] [(0,1,(.t 30)),(1,3,(.t 32))]),mv 4 27,st 4 5 33] [4,5]) (.ret))))),false,false,false⟩
def F324:PFun:=⟨3,[.cell 6 true 12,.tmp 7],.seq (rn [jj 6 (.alloc [zN,zN,eN,sN,zN,zN,eN,sN,zN,zN,eN,sN]),mx 7 (kk 0)] [0,1,2,6]) (.seq (.seq (rn [mv 9 1,bk 10 .neq 9 0] [0,1,2,6,10]) (.cond (.t 10) (.seq (rn [jj 8 (.alloc [zN,zN,eN,sN,zN,zN,eN,sN,zN,zN,eN,sN])] [1,6,8]) (.seq (rn [la 11 12 8,mv 12 1,st 12 6 11,mv 7 12] [6,7]) (.ret))) (.skip))) (.seq (rn [mv 13 2,mv 14 0,jj 15 (.callv (.t 13) [(.t 14)]),ex 16 15 0,ex 17 15 1,st 12 6 16,mv 7 17] [6,7]) (.ret))),false,false,false⟩
def F325:PFun:=⟨1,[.cell 2 true 12,.tmp 3],.seq (rn [jj 2 (.alloc [zN,zN,eN,sN,zN,zN,eN,sN,zN,zN,eN,sN]),mx 3 (kk 0)] [0,2]) (.seq (rn [mv 8 0,cl 9 228 [8],mv 7 9,ex 10 7 0,ex 11 7 1,ex 12 7 2,jj 4 (.alloc [zN,zN,eN,sN,zN,zN,eN,sN,zN,zN,eN,sN]),st 12 4 10,mv 5 11,mv 6 12] [2,4,6]) (.seq (rn [la 13 12 4,mv 14 6,st 12 2 13,mv 3 14] [2,3]) (.ret))),false,false,false⟩
def F326:PFun:=⟨3,[.cell 6 true 12,.tmp 7],.seq (rn [bx 3 0,jj 6 (.alloc [zN,zN,eN,sN,zN,zN,eN,sN,zN,zN,eN,sN]),mx 7 (kk 0)] [1,2,3,6]) (.seq (.seq (rn [mv 9 1,bk 10 .neq 9 0] [1,2,3,6,10]) (.cond (.t 10) (.seq (rn [jj 8 (.alloc [zN,zN,eN,sN,zN,zN,eN,sN,zN,zN,eN,sN])] [1,6,8]) (.seq (rn [la 11 12 8,mv 12 1,st 12 6 11,mv 7 12] [6,7]) (.ret))) (.skip))) (.seq (rn [mv 13 2,la 14 12 3,jj 15 (.callv (.t 13) [(.t 14)]),ex 16 15 0,ex 17 15 1,st 12 6 16,mv 7 17] [6,7]) (.ret))),false,false,false⟩
def F327:PFun:=⟨1,[.cell 2 true 12,.tmp 3],.seq (rn [bx 1 0,jj 2 (.alloc [zN,zN,eN,sN,zN,zN,eN,sN,zN,zN,eN,sN]),mx 3 (kk 0)] [1,2]) (.seq (.region (some []) [⟨some 4,.load true 12 (.t 1),none,[2]⟩,la 5 12 1,cl 6 12 [5],st 12 2 4,mv 3 6] [2,3] [2]) (.ret)),false,false,false⟩
def F328:PFun:=⟨3,[.cell 6 true 4,.tmp 7],.seq (rn [bx 3 0,jj 6 (.alloc [sN,zN,zN,zN]),mx 7 (kk 0)] [1,2,3,6]) (.seq (.seq (rn [mv 9 1,bk 10 .neq 9 0] [1,2,3,6,10]) (.cond (.t 10) (.seq (rn [jj 8 (.alloc [sN,zN,zN,zN])] [1,6,8]) (.seq (rn [la 11 4 8,mv 12 1,st 4 6 11,mv 7 12] [6,7]) (.ret))) (.skip))) (.seq (rn [mv 13 2,la 14 12 3,jj 15 (.callv (.t 13) [(.t 14)]),ex 16 15 0,ex 17 15 1,st 4 6 16,mv 7 17] [6,7]) (.ret))),false,false,false⟩
def F330:PFun:=⟨3,[.tmp 4],.seq (rn [mx 4 kF] [0,1,2]) (.seq (.region (some []) [l1 5 1,nc 6 5,fa 7 0 6,l1 8 7,mv 9 0,jj 10 (.indexAddr 5 (.t 8) (.t 9)),fa 11 0 10,l1 12 11,l1 13 2,bn 14 .gtr 12 13,mv 4 14] [4]) (.ret)),false,false,false⟩
end Go.Pm.F
end SF7
section SFx
namespace Go.Pm.F
variable (C:Task->Option Res) (q:Nat) (fr:Fr) (σ : S)
def F268:PFun:=⟨2,[.tmp 4],.seq (rn [mx 4 (kk 0)] [0,1]) (.seq (rn [mv 5 0,mv 6 1,cl 7 275 [5,6],mv 4 7] [4]) (.ret)),false,false,false⟩
def F275:PFun:=⟨2,[.tmp 4],.seq (rn [mx 4 (kk 0)] [0,1]) (.seq (rn [mv 5 0,mv 6 1,jj 7 (.idxb (.t 5) (.t 6)),mv 4 7] [4]) (.ret)),false,false,false⟩
def F276:PFun:=⟨2,[.tmp 4],.seq (rn [mx 4 kF] [0,1]) (.seq (rn [mv 5 0,mv 6 1,cl 7 284 [5,6],bk 8 .geq 7 0,mv 4 8] [4]) (.ret)),false,false,false⟩
@[simp] def F284l0x:PC:=(.seq (rn [bn 9 .lss 8 7] [0,1,7,8,9]) (.seq (.cond (.t 9) (.skip) (.exit 0)) (.seq (.block 1 (.seq (rn [mv 10 8,mv 5 10] [0,1,5,7,8]) (.seq (rn [mv 11 1,mv 12 0,mv 13 5,jj 14 (.indexAddr 1 (.t 12) (.t 13)),l1 15 14,bn 16 .eql 11 15] [0,1,5,7,8,16]) (.cond (.t 16) (.seq (rn [mv 17 5,mv 4 17] [4]) (.ret)) (.skip))))) (rn [bk 18 .add 8 1,mv 8 18] [0,1,7,8]))))
def F284l0:PC:=F284l0x
def F284:PFun:=⟨2,[.tmp 4],.seq (rn [mx 4 (kk 0)] [0,1]) (.seq (.seq (rn [mv 6 0,ls 7 6,mx 8 (kk 0)] [0,1,7,8]) (.block 0 (.loop F284l0))) (.seq (rn [mx 4 (kk (-1))] [4]) (.ret))),false,false,false⟩
end Go.Pm.F
end SFx
section STB
namespace Go.Pm.F
def tB:Nat->Option PFun
 | 12=>some F12
 | 15=>some F15
 | 26=>some F26
 | 27=>some F27
 | 30=>some F30
 | 32=>some F32
 | 35=>some F35
 | 37=>some F37
 | 38=>some F38
 | 39=>some F39
 | 131=>some F131
 | 134=>some F134
 | 139=>some F139
 | 140=>some F140
 | 147=>some F147
 | 148=>some F148
 | 164=>some F164
 | 165=>some F165
 | 166=>some F166
 | 167=>some F167
 | 168=>some F168
 | 169=>some F169
 | 180=>some F180
 | 181=>some F181
 | 182=>some F182
 | 183=>some F183
 | 184=>some F184
 | 185=>some F185
 | 186=>some F186
 | 187=>some F187
 | 188=>some F188
 | 189=>some F189
 | 190=>some F190
 | 191=>some F191
 | 200=>some F200
 | 201=>some F201
 | 204=>some F204
 | 228=>some F228
 | 239=>some F239
 | 240=>some F240
 | 241=>some F241
 | 242=>some F242
 | 249=>some F249
 | 250=>some F250
 | 251=>some F251
 | 252=>some F252
 | 253=>some F253
 | 254=>some F254
 | 255=>some F255
 | 256=>some F256
 | 264=>some F264
 | 265=>some F265
 | 266=>some F266
 | 267=>some F267
 | 268=>some F268
 | 269=>some F269
 | 270=>some F270
 | 271=>some F271
 | 275=>some F275
 | 276=>some F276
 | 277=>some F277
 | 278=>some F278
 | 279=>some F279
 | 280=>some F280
 | 281=>some F281
 | 284=>some F284
 | 285=>some F285
 | 286=>some F286
 | 287=>some F287
 | 289=>some F289
 | 290=>some F290
 | 292=>some F292
 | 297=>some F297
 | 303=>some F303
 | 304=>some F304
 | 307=>some F307
 | 308=>some F308
 | 309=>some F309
 | 317=>some F317
 | 318=>some F318
 | 320=>some F320
 | 322=>some F322
 | 324=>some F324
 | 325=>some F325
 | 326=>some F326
 | 327=>some F327
 | 328=>some F328
 | _=>none
end Go.Pm.F
end STB
section SZa
namespace Go.Pm
open F
def srcB:Nat->ByteArray
 | 0=>⟨#[]⟩
 | 1=>⟨#[111,110,32,116,105,99,107,123,118,97,61,49,59,125]⟩
 | 2=>⟨#[111,110,32,97,99,116,123,120,91,115,101,108,102,93,61,111,116,104,101,114,59,125]⟩
 | 3=>⟨#[111,110,32,116,105,99,107,123,118,97,61,118,97,43,49,59,105,102,32,118,97,60,51,123,115,116,111,112,59,125,125]⟩
 | 4=>⟨#[111,110,32,104,105,116,123,97,91,115,101,108,102,93,61,97,91,115,101,108,102,93,43,98,91,111,116,104,101,114,93,59,125,111,110,32,116,105,99,107,123,101,102,102,101,99,116,32,49,44,116,105,99,107,59,125]⟩
 | 5=>⟨#[111,110,32,97,99,116,123,101,102,102,101,99,116,32,50,44,115,101,108,102,59,125]⟩
 | 6=>⟨#[111,110,32,116,105,99,107,123]⟩
 | 7=>⟨#[111,110,32,116,105,99,107,123,118,97,61,116,114,117,101,59,125]⟩
 | 8=>⟨#[111,110,32,111,110]⟩
 | _=>⟨#[111,110,32,116,105,99,107,123,104,105,116,91,48,93,61,49,59,125]⟩
def qko:Nat->List Int
 | 1=>[1,1,3,0,21,0]
 | 2=>[6,0,7,0,5,0,21,0]
 | 3=>[2,0,1,1,9,0,3,0,2,0,1,3,14,0,19,10,21,0,18,10,21,0]
 | 4=>[1,1,8,0,20,0,21,0,6,0,6,0,4,4,7,0,4,5,9,0,5,4,21,0]
 | 5=>[1,2,6,0,20,0,21,0]
 | _=>[]
def qiF:Nat->Int × Int × Int
 | 0=>(-1,-1,-1)
 | 1=>(-1,0,-1)
 | 2=>(0,-1,-1)
 | 3=>(-1,0,-1)
 | 4=>(-1,0,4)
 | 5=>(0,-1,-1)
 | _=>(0,0,0)
def qgL:Nat->Int
 | 0=>0
 | 1=>0
 | 2=>0
 | 3=>0
 | 4=>0
 | 5=>0
 | 6=>12
 | 7=>13
 | 8=>12
 | _=>13
def qiY (l:List Int):D:=match l with
 | [] => .lit (.slice none 0 0)
 | x::r => .sl (intsC (x::r)) ((x::r).length / 2) false
abbrev qgY (i:Nat):V := .dat (.agg [qiY (qko i),.lit (.int .i64 (qiF i).1),.lit (.int .i64 (qiF i).2.1),.lit (.int .i64 (qiF i).2.2)])
theorem qiZ:Z tB (.call 322 [.str (srcB 0)] [])=some (.ret (.tup [qgY 0,.int (qgL 0)]) []):=qff (n:=3000) (by kernel_rfl)
theorem qi0:Z tB (.call 322 [.str (srcB 1)] [])=some (.ret (.tup [qgY 1,.int (qgL 1)]) []):=qff (n:=3000) (by kernel_rfl)
theorem qi1:Z tB (.call 322 [.str (srcB 2)] [])=some (.ret (.tup [qgY 2,.int (qgL 2)]) []):=qff (n:=3000) (by kernel_rfl)
theorem qi2:Z tB (.call 322 [.str (srcB 3)] [])=some (.ret (.tup [qgY 3,.int (qgL 3)]) []):=qff (n:=3000) (by kernel_rfl)
theorem qi3:Z tB (.call 322 [.str (srcB 4)] [])=some (.ret (.tup [qgY 4,.int (qgL 4)]) []):=qff (n:=3000) (by kernel_rfl)
theorem qi4:Z tB (.call 322 [.str (srcB 5)] [])=some (.ret (.tup [qgY 5,.int (qgL 5)]) []):=qff (n:=3000) (by kernel_rfl)
theorem qi5:Z tB (.call 322 [.str (srcB 6)] [])=some (.ret (.tup [qgY 6,.int (qgL 6)]) []):=qff (n:=3000) (by kernel_rfl)
theorem qi6:Z tB (.call 322 [.str (srcB 7)] [])=some (.ret (.tup [qgY 7,.int (qgL 7)]) []):=qff (n:=3000) (by kernel_rfl)
theorem qi7:Z tB (.call 322 [.str (srcB 8)] [])=some (.ret (.tup [qgY 8,.int (qgL 8)]) []):=qff (n:=3000) (by kernel_rfl)
theorem qi8:Z tB (.call 322 [.str (srcB 9)] [])=some (.ret (.tup [qgY 9,.int (qgL 9)]) []):=qff (n:=3000) (by kernel_rfl)
theorem qhz : ∀ i,i<10->Z tB (.call 322 [.str (srcB i)] [])=some (.ret (.tup [qgY i,.int (qgL i)]) [])
 | 0,_=>qiZ
 | 1,_=>qi0
 | 2,_=>qi1
 | 3,_=>qi2
 | 4,_=>qi3
 | 5,_=>qi4
 | 6,_=>qi5
 | 7,_=>qi6
 | 8,_=>qi7
 | 9,_=>qi8
 | _+10,h=>by omega
end Go.Pm
end SZa
section SZb
namespace Go.Pm
open F
set_option maxHeartbeats 4000000
structure Vr where
 t:Int
 c:D
 a:Int
 b:Int
 e:Int
 one:V.one (.dat c)=true
 cl:V.cells (.dat c)=[.dat c]
def vrC:List Vr->List D
 | []=>[]
 | v::r => .lit (.int .i64 v.t)::v.c :: .lit (.int .i64 v.a) :: .lit (.int .i64 v.b) :: .lit (.int .i64 v.e)::vrC r
theorem qgR : ∀ a b:List Vr,vrC (a++b)=vrC a++vrC b
 | [],b=>rfl
 | v::a,b=>by simp[vrC,qgR a b]
theorem qgS : ∀ a:List Vr,(vrC a).length=a.length*5
 | []=>rfl
 | v::a=>by simp[vrC,qgS a]; omega
theorem qeK : ∀ (L:List Vr) (i:Nat),(vrC L).drop (i*5)=vrC (L.drop i)
 | L,0=>by simp
 | [],i+1=>by simp[vrC]
 | v::L,i+1=>by
  rw[show (i+1)*5=i*5+1+1+1+1+1 by omega]
  simp only[vrC,List.drop_succ_cons,qeK L i]
theorem qhw {L:List Vr} {i:Nat} (h:i<L.length):qam (vrC L) (i*5) 1=some [.lit (.int .i64 L[i].t)]:=by
 unfold qam
 rw[qeK,List.drop_eq_getElem_cons h]
 simp[vrC]
def qa7 (L:List Vr):S:=if L.length=1 then [.cells [.dat (.sl (vrC L) 1 true)]] else [.cells [.gsl (vrC L) L.length 5 1],.tip (vrC L).length]
theorem qiR (v:Vr):qa7 [v]=[.cells [.dat (.sl (vrC [v]) 1 true)]]:=rfl
theorem qfc {L:List Vr} (h:2<=L.length):qa7 L=[.cells [.gsl (vrC L) L.length 5 1],.tip (vrC L).length]:=if_neg (by omega)
theorem qcJ (L:List Vr):(∃ C,qa7 L=[.cells [.dat (.sl C 1 true)]]) \/ ∃ C n m,qa7 L=[.cells [.gsl C n 5 1],.tip m]:=by
 unfold qa7
 split
 ·exact .inl ⟨_,rfl⟩
 ·exact .inr ⟨_,_,_,rfl⟩
def qiS (prog:Nat->Option PFun) (s:ByteArray) (v:Vr):Prop:=Z prog (.call 322 [.str s] [])=some (.ret (.tup [.dat (.agg [v.c,.lit (.int .i64 v.a),.lit (.int .i64 v.b),.lit (.int .i64 v.e)]),.int 0]) [])
section
variable {prog:Nat->Option PFun} (h7 : ∀ k pf,tB k=some pf->prog k=some pf)
include h7
theorem qj1 {s:ByteArray} {v:Vr} (hp:qiS prog s v) (h0:v.t=0):Z prog (.call 317 [.str s] [])=some (.ret (.tup [.ptr 0 0,.int 0]) (qa7 [v])):=by
 have o:=v.one
 have c:=v.cl
 unfold qiS at hp
 refine qdu (h7 317 F317 rfl) rfl ?_
 simp[F317,hp,o,c,h0,qiR,vrC,List.range_succ]
theorem qfd {L:List Vr} (hl:8<L.length) (t:Int) (s:ByteArray):Z prog (.call 318 [.ptr 0 0,.int t,.str s] (qa7 L))=some (.ret (.int 2) (qa7 L)):=by
 have h8:(8:Int)<L.length:=by omega
 rw[qfc (by omega)]
 refine qdu (h7 318 F318 rfl) rfl ?_
 simp[F318,V.len,h8,List.range_succ]
def lastT (L:List Vr):Int:=match L.getLast? with
 | some v=>v.t
 | none=>0
omit h7 in
theorem qf7 {L:List Vr} (h:0<L.length):qam (vrC L) ((L.length-1)*5) 1=some [.lit (.int .i64 (lastT L))]:=by
 rw[qhw (by omega)]
 unfold lastT
 rw[List.getLast?_eq_getElem?,List.getElem?_eq_getElem (by omega)]
theorem qgT {L:List Vr} (h0:0<L.length) (hl:L.length<=8) {t:Int} (ht:t<=lastT L) (s:ByteArray):Z prog (.call 318 [.ptr 0 0,.int t,.str s] (qa7 L))=some (.ret (.int 5) (qa7 L)):=by
 have h8 : ¬ (8:Int)<L.length:=by omega
 have hc:=qf7 h0
 have w:IntKind.i64.wrap ((L.length:Int)-1)=((L.length-1:Nat):Int):=by rw[qcD _ (by omega)]; omega
 have hlt:L.length-1<L.length:=by omega
 have hlt':((L.length-1:Nat):Int)<L.length:=by omega
 refine qdu (h7 318 F318 rfl) rfl ?_
 by_cases h1:L.length=1
 ·have e:qa7 L=[.cells [.dat (.sl (vrC L) 1 true)]]:=if_pos h1
  rw[h1] at hc
  rw[e]
  generalize vrC L=C at *
  simp at hc
  simp[F318,V.len,qay,hc,ht,List.range_succ,show IntKind.i64.wrap 0=0 from rfl]
 ·rw[qfc (by omega)]
  generalize L.length-1=n1 at *
  generalize vrC L=C at *
  generalize L.length=n at *
  simp[F318,V.len,qay,h8,hc,ht,w,hlt,hlt',List.range_succ]
theorem qiT {L:List Vr} (h0:0<L.length) (hl:L.length<=8) {v:Vr} (ht:lastT L<v.t) {s:ByteArray} (hp:qiS prog s v):Z prog (.call 318 [.ptr 0 0,.int v.t,.str s] (qa7 L))=some (.ret (.int 0) (qa7 (L++[v]))):=by
 have h8 : ¬ (8:Int)<L.length:=by omega
 have hc:=qf7 h0
 have ht' : ¬ v.t<=lastT L:=by omega
 have w:IntKind.i64.wrap ((L.length:Int)-1)=((L.length-1:Nat):Int):=by rw[qcD _ (by omega)]; omega
 have hlt:L.length-1<L.length:=by omega
 have hlt':((L.length-1:Nat):Int)<L.length:=by omega
 have o:=v.one
 have c:=v.cl
 have hL:=qgS L
 have hr:qa4 (L.length+1) 56=true:=by simp only[qa4,decide_eq_true_eq]; omega
 unfold qiS at hp
 rw[qfc (L:=L++[v]) (by simp; omega),qgR]
 refine qdu (h7 318 F318 rfl) rfl ?_
 by_cases h1:L.length=1
 ·have e:qa7 L=[.cells [.dat (.sl (vrC L) 1 true)]]:=if_pos h1
  rw[h1] at hc hL hr
  rw[e]
  generalize vrC L=C at *
  generalize lastT L=T at *
  simp at hc hL
  simp[F318,V.len,qay,hc,ht,ht',hp,o,c,qdh,qjn,hr,hL,h1,vrC,List.range_succ,show IntKind.i64.wrap 0=0 from rfl]
 ·rw[qfc (by omega),List.length_append]
  generalize L.length-1=n1 at *
  generalize vrC L=C at *
  generalize lastT L=T at *
  generalize L.length=n at *
  simp[F318,V.len,qay,h8,hc,ht,ht',hp,o,c,qdh,qjn,hr,hL,w,hlt,hlt',vrC,List.range_succ]
end
end Go.Pm
end SZb
section SZc
namespace Go.Pm
open F
set_option maxHeartbeats 4000000
def tkW (L:List Vr) (i:Nat):List V:=(L.take i).map (fun v=>V.int v.t)++List.replicate (L.length-i) (V.int 0)
theorem qg9 (L:List Vr) {i:Nat} (h:i<=L.length):(tkW L i).length=L.length:=by simp[tkW]; omega
theorem qha {L:List Vr} {i:Nat} (h:i<L.length):(tkW L i).take i++V.int L[i].t::(tkW L i).drop (i+1)=tkW L (i+1):=by
 have h1:((L.take i).map (fun v=>V.int v.t)).length=i:=by simp; omega
 unfold tkW
 rw[List.take_left' h1,List.drop_append,h1,show L.length-i=(L.length-(i+1))+1 by omega,List.replicate_succ,List.take_succ_eq_append_getElem h,List.map_append,List.append_assoc]
 simp[List.drop_eq_nil_of_le (as:=(L.take i).map (fun v=>V.int v.t)) (i:=i+1) (by rw[h1]; omega),show i+1-i=1 by omega]
 omega
def tks (L:List Vr):List Int:=L.map (·.t)
theorem qil (L:List Vr):tkW L L.length=(intsC (tks L)).map .dat:=by
 simp[tkW,tks,intsC]
theorem qet : ∀ l:List D,qaJ (l.map .dat)=some l
 | []=>rfl
 | d::l=>by simp[qaJ,qet l]
theorem qb5 (L:List Vr) (i:Nat):qal (tkW L i)=[]:=by
 have h : ∀ (l:List V),(∀ v∈l,v.locs=[])->qal l=[]:=by
  intro l
  induction l with
  | nil=>intro _; rfl
  | cons v l ih=>intro h; simp[qal,h v (by simp),ih fun u hu=>h u (by simp[hu])]
 refine h _ fun v hv=>?_
 unfold tkW at hv
 rcases List.mem_append.1 hv with hv | hv
 ·obtain⟨x,_,rfl⟩:=List.mem_map.1 hv; rfl
 ·rw[(List.mem_replicate.1 hv).2]; rfl
theorem qcP (r:Nat->Nat) (L:List Vr) (i:Nat):qbQ r (tkW L i)=tkW L i:=by
 have h : ∀ (l:List V),(∀ v∈l,v.ren r=v)->qbQ r l=l:=by
  intro l
  induction l with
  | nil=>intro _; rfl
  | cons v l ih=>intro h; simp[qbQ,h v (by simp),ih fun u hu=>h u (by simp[hu])]
 refine h _ fun v hv=>?_
 unfold tkW at hv
 rcases List.mem_append.1 hv with hv | hv
 ·obtain⟨x,_,rfl⟩:=List.mem_map.1 hv; rfl
 ·rw[(List.mem_replicate.1 hv).2]; rfl
theorem qhb {L:List Vr} {i:Nat} (h:i<L.length):qam (vrC L) (i*5) 5=some [.lit (.int .i64 L[i].t),L[i].c,.lit (.int .i64 L[i].a),.lit (.int .i64 L[i].b),.lit (.int .i64 L[i].e)]:=by
 unfold qam
 rw[qeK,List.drop_eq_getElem_cons h]
 simp[vrC]
section
variable {prog:Nat->Option PFun} (h7 : ∀ k pf,tB k=some pf->prog k=some pf)
theorem qjq {L:List Vr} {i:Nat} (h:i<L.length) (hl:L.length<=1000) {i0 i1:Int} (e0:i0=i) (e1:i1=i0+1) (g:Bool) :
  Z prog (.loop 1 F320l0 [(3,.msl 1 0 L.length L.length 1),(15,.dat (.sl (vrC L) L.length g)),(16,.int L.length),(17,.int i0)] [.cells [.dat (.sl (vrC L) L.length g)],.cells (tkW L i)]) =
  Z prog (.loop 1 F320l0 [(3,.msl 1 0 L.length L.length 1),(15,.dat (.sl (vrC L) L.length g)),(16,.int L.length),(17,.int i1)] [.cells [.dat (.sl (vrC L) L.length g)],.cells (tkW L (i+1))]):=by
 have hc:=qhb h
 have o:=L[i].one
 have c:=L[i].cl
 have hs:=qha h
 have hw:=qg9 L (i:=i) (by omega)
 have w1:IntKind.i64.wrap ((i:Int)+1)=(i:Int)+1:=qcD _ (by omega)
 have hlt:(i:Int)<L.length:=by omega
 have h5:i+1<=L.length:=h
 subst e1 e0
 generalize L[i]=v at *
 generalize vrC L=C at *
 have l1:=qb5 L i
 have l2:=qb5 L (i+1)
 have r1:=fun r=>qcP r L i
 have r2:=fun r=>qcP r L (i+1)
 generalize tkW L i=W at *
 generalize tkW L (i+1)=W' at *
 generalize L.length=n at *
 conv=>lhs; rw[qbj]
 simp[qbf,qcy,V.len,qay,hlt,h,h5,hc,o,c,hw,hs,w1,l1,l2,r1,r2,List.range_succ]
 all_goals exact qb7 (by simp[gcF,l1,l2,r1,r2,List.range_succ])
theorem qjr {L:List Vr} {i:Nat} (h:i<L.length) (hl:L.length<=1000) {i0 i1:Int} (e0:i0=i) (e1:i1=i0+1) (m:Nat) :
  Z prog (.loop 2 F320l0 [(3,.msl 2 0 L.length L.length 1),(15,.gsl (vrC L) L.length 5 1),(16,.int L.length),(17,.int i0)] [.cells [.gsl (vrC L) L.length 5 1],.tip m,.cells (tkW L i)]) =
  Z prog (.loop 2 F320l0 [(3,.msl 2 0 L.length L.length 1),(15,.gsl (vrC L) L.length 5 1),(16,.int L.length),(17,.int i1)] [.cells [.gsl (vrC L) L.length 5 1],.tip m,.cells (tkW L (i+1))]):=by
 have hc:=qhb h
 have o:=L[i].one
 have c:=L[i].cl
 have hs:=qha h
 have hw:=qg9 L (i:=i) (by omega)
 have w1:IntKind.i64.wrap ((i:Int)+1)=(i:Int)+1:=qcD _ (by omega)
 have hlt:(i:Int)<L.length:=by omega
 have h5:i+1<=L.length:=h
 subst e1 e0
 generalize L[i]=v at *
 generalize vrC L=C at *
 have l1:=qb5 L i
 have l2:=qb5 L (i+1)
 have r1:=fun r=>qcP r L i
 have r2:=fun r=>qcP r L (i+1)
 generalize tkW L i=W at *
 generalize tkW L (i+1)=W' at *
 generalize L.length=n at *
 conv=>lhs; rw[qbj]
 simp[qbf,qcy,V.len,qay,hlt,h,h5,hc,o,c,hw,hs,w1,l1,l2,r1,r2,List.range_succ]
 all_goals exact qb7 (by simp[gcF,l1,l2,r1,r2,List.range_succ])
theorem qh1 {L:List Vr} (hl:L.length<=1000) (g:Bool) : ∀ (k i:Nat),i+k=L.length->Z prog (.loop 1 F320l0 [(3,.msl 1 0 L.length L.length 1),(15,.dat (.sl (vrC L) L.length g)),(16,.int L.length),(17,.int i)] [.cells [.dat (.sl (vrC L) L.length g)],.cells (tkW L i)]) =
  some (.out (.exit 0) [(3,.msl 1 0 L.length L.length 1),(15,.dat (.sl (vrC L) L.length g)),(16,.int L.length),(17,.int L.length),(18,.bool false)] [.cells [.dat (.sl (vrC L) L.length g)],.cells (tkW L L.length)])
 | 0,i,h=>by
  obtain rfl:i=L.length:=by omega
  have l1:=qb5 L L.length
  have r1:=fun r=>qcP r L L.length
  rw[qbj]
  simp[qbf,qcy,l1,r1,List.range_succ]
 | k+1,i,h=>by
  rw[qjq (prog:=prog) (L:=L) (i:=i) (by omega) hl (i0:=i) (i1:=((i+1:Nat):Int)) rfl (by omega) g]
  exact qh1 hl g k (i+1) (by omega)
theorem qh2 {L:List Vr} (hl:L.length<=1000) (m:Nat) : ∀ (k i:Nat),i+k=L.length->Z prog (.loop 2 F320l0 [(3,.msl 2 0 L.length L.length 1),(15,.gsl (vrC L) L.length 5 1),(16,.int L.length),(17,.int i)] [.cells [.gsl (vrC L) L.length 5 1],.tip m,.cells (tkW L i)]) =
  some (.out (.exit 0) [(3,.msl 2 0 L.length L.length 1),(15,.gsl (vrC L) L.length 5 1),(16,.int L.length),(17,.int L.length),(18,.bool false)] [.cells [.gsl (vrC L) L.length 5 1],.tip m,.cells (tkW L L.length)])
 | 0,i,h=>by
  obtain rfl:i=L.length:=by omega
  have l1:=qb5 L L.length
  have r1:=fun r=>qcP r L L.length
  rw[qbj]
  simp[qbf,qcy,l1,r1,List.range_succ]
 | k+1,i,h=>by
  rw[qjr (prog:=prog) (L:=L) (i:=i) (by omega) hl (i0:=i) (i1:=((i+1:Nat):Int)) rfl (by omega) m]
  exact qh2 hl m k (i+1) (by omega)
theorem qh3 : ∀ n:Nat,(qbI n [D.lit (.int .i64 0)]).map V.dat=List.replicate n (V.int 0)
 | 0=>rfl
 | n+1=>by simp[qbI,qh3 n,List.replicate_succ]
include h7
theorem qgC {L:List Vr} (h0:0<L.length) (hl:L.length<=1000):Z prog (.call 320 [.ptr 0 0] (qa7 L))=some (.ret (.dat (.sl (intsC (tks L)) L.length false)) (qa7 L)):=by
 have hz:tkW L 0=List.replicate L.length (V.int 0):=by simp[tkW]
 have hrep:=qh3 L.length
 have l1:=qb5 L 0
 have r1:=fun r=>qcP r L 0
 have hall:=qil L
 have hd:=qet (intsC (tks L))
 have hlen:(intsC (tks L)).length=L.length:=by simp[intsC,tks]
 have hone:((intsC (tks L)).all fun d=>V.one (.dat d))=true:=by simp[intsC]
 have c1:(L.length:Int)<=1099511627776:=by omega
 have c2:(8:Int)*L.length<=281474976710656:=by omega
 refine qdu (h7 320 F320 rfl) rfl ?_
 by_cases h1:L.length=1
 ·have e:qa7 L=[.cells [.dat (.sl (vrC L) 1 true)]]:=if_pos h1
  have z:=qh1 (prog:=prog) hl true L.length 0 (by omega)
  rw[hall] at z
  rw[e]
  rw[hz,h1] at z
  rw[h1] at hrep hlen
  generalize vrC L=C at *
  generalize intsC (tks L)=T at *
  simp only[Int.cast_ofNat_Int,List.replicate_one] at z hrep
  simp[F320,V.len,h1,hrep,z,hd,hlen,hone,List.range_succ]
  exact List.take_of_length_le (by omega)
 ·have z:=qh2 (prog:=prog) hl (vrC L).length L.length 0 (by omega)
  rw[hall] at z
  rw[qfc (by omega)]
  rw[hz] at z
  generalize vrC L=C at *
  generalize intsC (tks L)=T at *
  generalize L.length=n at *
  simp only[Int.cast_ofNat_Int] at z
  simp[F320,V.len,hrep,z,hd,hlen,hone,c1,c2,List.range_succ]
  exact List.take_of_length_le (by omega)
end
end Go.Pm
end SZc
section SF7r
namespace Go.Pm.F
variable (C:Task->Option Res) (q:Nat) (fr:Fr) (σ : S)
def F319:PFun:=⟨1,[.tmp 2],.seq (rn [jj 2 (.mov (.c (.string ⟨#[]⟩)))] [0]) (.seq (rn [mv 4 0,jj 5 (.call 17 [(.t 4),(kk 60)]),mv 3 5] [3]) (.seq (rn [jj 6 (.bslice 6 [eN,eN,eN,eN,eN,eN] [(0,1,(.c (.string ⟨#[]⟩))),(1,1,(.c (.string ⟨#[111,110,32,116,105,99,107,123,118,97,61,49,59,125]⟩))),(2,1,(.c (.string ⟨#[111,110,32,97,99,116,123,120,91,115,101,108,102,93,61,111,116,104,101,114,59,125]⟩))),(3,1,(.c (.string ⟨#[111,110,32,116,105,99,107,123,118,97,61,118,97,43,49,59,105,102,32,118,97,60,51,123,115,116,111,112,59,125,125]⟩))),(4,1,(.c (.string ⟨#[111,110,32,104,105,116,123,97,91,115,101,108,102,93,61,97,91,115,101,108,102,93,43,98,91,111,116,104,101,114,93,59,125,111,110,32,116,105,99,107,123,101,102,102,101,99,116,32,49,44,116,105,99,107,59,125]⟩))),(5,1,(.c (.string ⟨#[111,110,32,97,99,116,123,101,102,102,101,99,116,32,50,44,115,101,108,102,59,125]⟩)))]),mv 7 3,bk 8 .rem 7 6,jj 9 (.indexAddr 1 (.t 6) (.t 8)),l1 10 9,mv 2 10] [2]) (.ret))),false,false,false⟩
end Go.Pm.F
end SF7r
section SF01
namespace Go.Pm.F
variable (C:Task->Option Res) (q:Nat) (fr:Fr) (σ : S)
def F17:PFun:=⟨2,[.tmp 4],.seq (rn [mx 4 (kk 0)] [0,1]) (.seq (.seq (rn [mv 5 0,bk 6 .lss 5 0] [0,1,6]) (.cond (.t 6) (rn [mv 7 0,bk 8 .add 7 1,jj 9 (.un .neg (.t 8)),mv 0 9] [0,1]) (.skip))) (.seq (rn [mv 10 0,mv 11 1,bn 12 .rem 10 11,mv 4 12] [4]) (.ret))),false,false,false⟩
@[simp] def F58l0x:PC:=(.seq (.seq (rn [mv 11 5,mv 12 0,ls 13 12,bn 14 .lss 11 13] [0,1,5,14]) (.cond (.t 14) (.skip) (.exit 0))) (.seq (.block 1 (.seq (.region (some []) [mv 17 0,mv 18 5,jj 19 (.indexAddr 1 (.t 17) (.t 18)),l1 20 19,mv 21 1,mv 22 5,jj 23 (.indexAddr 1 (.t 21) (.t 22)),l1 24 23,bn 25 .neq 20 24] [0,1,5,25]) (.cond (.t 25) (.seq (rn [mx 4 kF] [4]) (.ret)) (.skip)))) (rn [mv 15 5,bk 16 .add 15 1,mv 5 16] [0,1,5])))
def F58l0:PC:=F58l0x
def F58:PFun:=⟨2,[.tmp 4],.seq (rn [mx 4 kF] [0,1]) (.seq (.seq (rn [mv 6 0,ls 7 6,mv 8 1,ls 9 8,bn 10 .neq 7 9] [0,1,10]) (.cond (.t 10) (.seq (rn [mx 4 kF] [4]) (.ret)) (.skip))) (.seq (.seq (rn [mx 5 (kk 0)] [0,1,5]) (.block 0 (.loop F58l0))) (.seq (rn [mx 4 kT] [4]) (.ret)))),false,false,false⟩
end Go.Pm.F
end SF01
section SFLaw17
namespace Go.Pm.F
variable (C:Task->Option Res) (q:Nat) (fr:Fr) (σ : S)
@[simp] def F316l0x:PC:=(.seq (.seq (rn [mv 27 9,mv 28 7,bn 29 .leq 27 28] [5,7,8,9,29]) (.cond (.t 29) (.skip) (.exit 0))) (.seq (.block 1 (.seq (rn [mx 10 (kk 0)] [5,7,8,9,10]) (.seq (.seq (rn [mv 32 9,bk 33 .gtr 32 8] [5,7,8,9,10,33]) (.cond (.t 33) (rn [mx 10 (kk 2)] [5,7,8,9,10]) (.skip))) (.seq (rn [mv 34 5,mv 35 9,mv 36 8,bn 37 .mul 35 36,mv 38 9,cl 39 319 [38],cl 40 318 [34,37,39],mv 41 10,bn 42 .neq 40 41] [5,7,8,9,42]) (.cond (.t 42) (.seq (rn [mx 4 kF] [4]) (.ret)) (.skip)))))) (rn [mv 30 9,bk 31 .add 30 1,mv 9 31] [5,7,8,9])))
def F316l0:PC:=F316l0x
theorem qdq:run C q F316l0 fr σ = run C q F316l0x fr σ := rfl
def F316:PFun:=⟨2,[.tmp 4],.seq (rn [mx 4 kF] [0,1]) (.seq (rn [jj 13 (.call 317 [(.c (.string ⟨#[]⟩))]),mv 12 13,ex 14 12 0,ex 15 12 1,mv 5 14,mv 6 15] [0,1,5,6]) (.seq (.seq (rn [mv 16 5,jj 17 (.isnil true false (.t 16)),mv 18 17,jf 19 18 (.mov (.t 6)),jf 20 18 (.bin .neq (.t 19) (kk 0)),jj 21 (.pick (.t 18) kT (.t 20))] [0,1,5,21]) (.cond (.t 21) (.seq (rn [mx 4 kF] [4]) (.ret)) (.skip))) (.seq (rn [mv 22 0,jj 23 (.call 17 [(.t 22),(kk 13)]),mv 7 23] [1,5,7]) (.seq (rn [mv 24 1,jj 25 (.call 17 [(.t 24),(kk 1000)]),jj 26 (.bin .add (kk 1) (.t 25)),mv 8 26] [5,7,8]) (.seq (.seq (rn [mx 9 (kk 1)] [5,7,8,9]) (.block 0 (.loop F316l0))) (.seq (.seq (rn [mv 43 5,cl 44 320 [43],ls 45 44,mv 46 7,jj 47 (.min [(.t 46),(kk 8)]),jj 48 (.bin .add (kk 1) (.t 47)),bn 49 .neq 45 48] [5,7,49]) (.cond (.t 49) (.seq (rn [mx 4 kF] [4]) (.ret)) (.skip))) (.seq (rn [mv 50 5,jj 51 (.call 318 [(.t 50),(kk (-5)),(.c (.string ⟨#[111,110,32,111,110]⟩))]),mv 11 51] [7,11]) (.seq (rn [mv 52 11,bk 53 .eql 52 2,mv 54 7,bk 55 .geq 54 8,jj 56 (.eqb false (.t 53) (.t 55)),mv 57 56,jt 58 57 (.mov (.t 11)),jt 59 57 (.bin .eql (.t 58) (kk 5)),jt 60 57 (.mov (.t 7)),jt 61 57 (.bin .lss (.t 60) (kk 8)),jt 62 57 (.eqb false (.t 59) (.t 61)),jj 63 (.pick (.t 57) (.t 62) kF),mv 64 63,jt 65 64 (.call 321 []),jj 66 (.pick (.t 64) (.t 65) kF),mv 4 66] [4]) (.ret))))))))),false,false,false⟩
def F321:PFun:=⟨0,[.tmp 0],.seq (rn [mx 0 kF] []) (.seq (rn [jj 9 (.call 317 [(.c (.string ⟨#[]⟩))]),mv 8 9,ex 10 8 0,ex 11 8 1,mv 1 10,mv 2 11] [1,2]) (.seq (.seq (rn [mv 12 1,jj 13 (.isnil true false (.t 12)),mv 14 13,jf 15 14 (.mov (.t 2)),jf 16 14 (.bin .neq (.t 15) (kk 0)),jj 17 (.pick (.t 14) kT (.t 16))] [1,17]) (.cond (.t 17) (.seq (rn [mx 0 kF] [0]) (.ret)) (.skip))) (.seq (rn [mv 18 1,jj 19 (.call 318 [(.t 18),(kk 10),(.c (.string ⟨#[111,110,32,116,105,99,107,32,123,32,97,49,32,61,32,49,59,32,125]⟩))]),mv 3 19] [1,3]) (.seq (rn [mv 21 1,jj 22 (.call 323 [(.t 21),(kk 9)]),mv 20 22,ex 23 20 0,ex 24 20 1,jj 5 (.alloc [sN,zN,zN,zN]),mv 4 23,st 4 5 24] [1,3,4,5]) (.seq (rn [mv 26 1,jj 27 (.call 323 [(.t 26),(kk 10)]),mv 25 27,ex 28 25 0,ex 29 25 1,jj 7 (.alloc [sN,zN,zN,zN]),mv 6 28,st 4 7 29] [1,3,4,5,6,7]) (.seq (rn [mv 30 3,bk 31 .eql 30 0,mv 32 31,jt 33 32 (.mov (.t 4)),jt 34 32 (.bin .eql (.t 33) (kk 0)),jj 35 (.pick (.t 32) (.t 34) kF),mv 36 35,jt 37 36 (.mov (.t 6)),jt 38 36 (.bin .eql (.t 37) (kk 1)),jj 39 (.pick (.t 36) (.t 38) kF),mv 40 39,jt 41 40 (.fieldAddr 0 (.t 5)),jt 42 40 (.load false 1 (.t 41)),jt 43 40 (.len .sl (.t 42)),jt 44 40 (.bin .eql (.t 43) (kk 0)),jj 45 (.pick (.t 40) (.t 44) kF),mv 46 45,jt 47 46 (.fieldAddr 0 (.t 7)),jt 48 46 (.load false 1 (.t 47)),jt 49 46 (.len .sl (.t 48)),jt 50 46 (.bin .gtr (.t 49) (kk 0)),jj 51 (.pick (.t 46) (.t 50) kF),mv 52 51,jt 53 52 (.mov (.t 1)),jt 54 52 (.call 320 [(.t 53)]),jt 55 52 (.bslice 2 [zN,zN] [(0,1,(kk 0)),(1,1,(kk 10))]),jt 56 52 (.call 58 [(.t 54),(.t 55)]),jj 57 (.pick (.t 52) (.t 56) kF),mv 0 57] [0]) (.ret))))))),false,false,false⟩
end Go.Pm.F
end SFLaw17
section SZd
namespace Go.Pm
open F
set_option maxHeartbeats 4000000
theorem qfV {prog:Nat->Option PFun} (h17:prog 17=some F17) {n m:Int} (h1:I64 n) (hm:1<=m):Z prog (.call 17 [.int n,.int m] [])=some (.ret (.int (around n m)) []):=by
 refine qdu h17 rfl ?_
 unfold around
 have hm0 : ¬ m=0:=by omega
 by_cases h:n<0
 ·have w1:IntKind.i64.wrap (n+1)=n+1:=qcD _ (by unfold I64 at h1; omega)
  have w2:IntKind.i64.wrap (-(n+1)) = -(n+1):=qcD _ (by unfold I64 at h1; omega)
  simp[F17,h,hm0,w1,w2]
 ·simp[F17,h,hm0]
theorem qjz {prog:Nat->Option PFun} (h17:prog 17=some F17) (h19:prog 319=some F319) {n:Int} (h1:I64 n) : ∃ j:Nat,j<6/\(j:Int)=(around n 60).tmod 6/\Z prog (.call 319 [.int n] [])=some (.ret (.str (srcB j)) []):=by
 have z:=qfV h17 h1 (m:=60) (by omega)
 have r:=qd9 h1 (m:=60) (by omega)
 generalize around n 60=a at *
 have q1:=Int.tmod_nonneg 6 r.1
 have q2:=Int.tmod_lt_of_pos a (show (0:Int)<6 by omega)
 refine⟨(a.tmod 6).toNat,by omega,by omega,?_⟩
 generalize hj:a.tmod 6=j at *
 obtain rfl | rfl | rfl | rfl | rfl | rfl:j=0\/j=1\/j=2\/j=3\/j=4\/j=5:=by omega
 all_goals
  refine qdu h19 rfl ?_
  simp[F319,z,hj,qay,srcB,List.range_succ]
theorem qip (l:List Int):V.one (.dat (qiY l))=true:=by cases l<;>rfl
theorem qjA (l:List Int):V.cells (.dat (qiY l))=[.dat (qiY l)]:=by cases l<;>rfl
def vrB (t:Int) (j:Nat):Vr:=⟨t,qiY (qko j),(qiF j).1,(qiF j).2.1,(qiF j).2.2,qip _,qjA _⟩
theorem qjB {prog:Nat->Option PFun} (h7 : ∀ k pf,tB k=some pf->prog k=some pf) (t:Int) {j:Nat} (hj:j<6):qiS prog (srcB j) (vrB t j):=by
 have z:=qj2 h7 (qhz j (by omega))
 have e:qgL j=0:=by
  obtain rfl | rfl | rfl | rfl | rfl | rfl:j=0\/j=1\/j=2\/j=3\/j=4\/j=5:=by omega
  all_goals rfl
 rw[e] at z
 exact z
section
variable {prog:Nat->Option PFun} (h7 : ∀ k pf,tB k=some pf->prog k=some pf) (h17:prog 17=some F17) (h19:prog 319=some F319)
include h7 h17 h19
omit h7 in
theorem qfu {L L':List Vr} {k step i:Nat} (hk:k<=12) (hs:step<=1000) (h1:1<=i) (hi:i<=k) {i0 i1:Int} (e0:i0=i) (e1:i1=i0+1) {e:Int} (he:e=if 8<i then 2 else 0)
  (ha : ∀ j:Nat,j<6->(j:Int)=(around (i:Int) 60).tmod 6->Z prog (.call 318 [.ptr 0 0,.int ((i*step:Nat):Int),.str (srcB j)] (qa7 L))=some (.ret (.int e) (qa7 L'))) :
  Z prog (.loop 0 F316l0 [(5,.ptr 0 0),(7,.int k),(8,.int step),(9,.int i0)] (qa7 L))=Z prog (.loop 0 F316l0 [(5,.ptr 0 0),(7,.int k),(8,.int step),(9,.int i1)] (qa7 L')):=by
 subst e1 e0
 obtain⟨j,hj,hje,z⟩:=qjz h17 h19 (n:=(i:Int)) (by unfold I64; omega)
 have ha:=ha j hj hje
 clear hje
 have hm:i*step<=12*1000:=Nat.mul_le_mul (by omega) hs
 have w1:IntKind.i64.wrap ((i:Int)*(step:Int))=((i*step:Nat):Int):=by
  rw[show (i:Int)*(step:Int)=((i*step:Nat):Int) by rw[Int.natCast_mul]]
  exact qcD _ (by omega)
 have w2:IntKind.i64.wrap ((i:Int)+1)=(i:Int)+1:=qcD _ (by omega)
 have hlt:(i:Int)<=k:=by omega
 generalize ((i*step:Nat):Int)=T at *
 generalize srcB j=s at *
 conv=>lhs; rw[qbj]
 by_cases h8:8<i
 ·have h8':(8:Int)<i:=by omega
  rw[if_pos h8] at he
  subst he
  rcases qcJ L with ⟨C,e⟩ | ⟨C,n,m,e⟩<;>rcases qcJ L' with ⟨C',e'⟩ | ⟨C',n',m',e'⟩<;>rw[e,e'] at ha<;>rw[e,e']
  all_goals simp[qbf,qdq,hlt,h8',w1,w2,z,ha,List.range_succ]
  all_goals exact qb7 (by simp[gcF,List.range_succ])
 ·have h8' : ¬ (8:Int)<i:=by omega
  rw[if_neg h8] at he
  subst he
  rcases qcJ L with ⟨C,e⟩ | ⟨C,n,m,e⟩<;>rcases qcJ L' with ⟨C',e'⟩ | ⟨C',n',m',e'⟩<;>rw[e,e'] at ha<;>rw[e,e']
  all_goals simp[qbf,qdq,hlt,h8',w1,w2,z,ha,List.range_succ]
  all_goals exact qb7 (by simp[gcF,List.range_succ])
omit h7 h17 h19 in
theorem qiq {L:List Vr} {k step:Nat} {i:Int} (hi : ¬ i<=k):Z prog (.loop 0 F316l0 [(5,.ptr 0 0),(7,.int k),(8,.int step),(9,.int i)] (qa7 L))=some (.out (.exit 0) [(5,.ptr 0 0),(7,.int k),(8,.int step),(9,.int i),(29,.bool false)] (qa7 L)):=by
 rw[qbj]
 rcases qcJ L with ⟨C,e⟩ | ⟨C,n,m,e⟩<;>rw[e]<;>simp[qbf,qdq,hi,List.range_succ]
omit h7 h17 h19 in
theorem qhd (L:List Vr) (v:Vr):lastT (L++[v])=v.t:=by simp[lastT]
theorem qeZ {k step:Nat} (hk:k<=12) (hs:step<=1000) (hs1:1<=step) : ∀ (m i:Nat) (L:List Vr),i+m=k+1->1<=i->L.length=min i 9->lastT L=(((L.length-1)*step:Nat):Int) ->
  ∃ L':List Vr,L'.length=min (k+1) 9/\lastT L'=(((L'.length-1)*step:Nat):Int)/\Z prog (.loop 0 F316l0 [(5,.ptr 0 0),(7,.int k),(8,.int step),(9,.int i)] (qa7 L))=some (.out (.exit 0) [(5,.ptr 0 0),(7,.int k),(8,.int step),(9,.int ((k+1:Nat):Int)),(29,.bool false)] (qa7 L'))
 | 0,i,L,hi,h1,hl,ht=>by
  obtain rfl:i=k+1:=by omega
  exact⟨L,hl,ht,qiq (by omega)⟩
 | m+1,i,L,hi,h1,hl,ht=>by
  by_cases h8:8<i
  ·have hr:=qfu h17 h19 (L:=L) (L':=L) hk hs h1 (by omega) (i0:=i) (i1:=((i+1:Nat):Int)) rfl (by omega) (e:=2) (by rw[if_pos h8]) (fun j _ _=>qfd h7 (by omega) _ _)
   obtain⟨L',g1,g2,g3⟩:=qeZ hk hs hs1 m (i+1) L (by omega) (by omega) (by omega) ht
   exact⟨L',g1,g2,hr.trans g3⟩
  ·have hlen:L.length=i:=by omega
   have hm:(i-1)*step+step=i*step:=by
    rw[<- Nat.succ_mul]; congr 1; omega
   obtain⟨v,hv⟩ : ∃ v,v=vrB ((i*step:Nat):Int) ((around (i:Int) 60).tmod 6).toNat:=⟨_,rfl⟩
   have hvt:v.t=((i*step:Nat):Int):=by rw[hv]; rfl
   have hr:=qfu h17 h19 (L:=L) (L':=L++[v]) hk hs h1 (by omega) (i0:=i) (i1:=((i+1:Nat):Int)) rfl (by omega) (e:=0) (by rw[if_neg h8]) (fun j hj hje=>by
    have hj':((around (i:Int) 60).tmod 6).toNat=j:=by omega
    rw[<- hvt]
    exact qiT h7 (by omega) (by omega) (by rw[ht,hvt,hlen]; omega) (by rw[hv,hj']; exact qjB h7 _ hj))
   obtain⟨L',g1,g2,g3⟩:=qeZ hk hs hs1 m (i+1) (L++[v]) (by omega) (by omega) (by rw[List.length_append,hlen]; simp; omega) (by rw[qhd,hvt,List.length_append,hlen]; simp)
   exact⟨L',g1,g2,hr.trans g3⟩
theorem qfv (hF:prog 316=some F316) (zl:Z prog (.call 321 [] [])=some (.ret (.bool true) [])) {a b:Int} (ha:I64 a) (hb:I64 b):Z prog (.call 316 [.int a,.int b] [])=some (.ret (.bool true) []):=by
 have za:=qfV h17 ha (m:=13) (by omega)
 have zb:=qfV h17 hb (m:=1000) (by omega)
 have ra:=qd9 ha (m:=13) (by omega)
 have rb:=qd9 hb (m:=1000) (by omega)
 obtain⟨k,hk⟩ : ∃ k:Nat,around a 13=k:=⟨(around a 13).toNat,by omega⟩
 obtain⟨s,hs⟩ : ∃ s:Nat,around b 1000=s:=⟨(around b 1000).toNat,by omega⟩
 rw[hk] at za ra
 rw[hs] at zb rb
 have zn:=qj1 h7 (qjB h7 0 (j:=0) (by omega)) rfl
 obtain⟨L,g1,g2,g3⟩:=qeZ h7 h17 h19 (k:=k) (step:=1+s) (by omega) (by omega) (by omega) k 1 [vrB 0 0] (by omega) (by omega) rfl (by show (0:Int)=(((1-1)*(1+s):Nat):Int); simp)
 have zv:=qgC h7 (L:=L) (by omega) (by omega)
 have w1:IntKind.i64.wrap (1+(s:Int))=((1+s:Nat):Int):=by rw[qcD _ (by omega)]; omega
 have hadd : ∃ e:Int,(e=if 8<=k then 2 else 5)/\Z prog (.call 318 [.ptr 0 0,.int (-5),.str (srcB 8)] (qa7 L))=some (.ret (.int e) (qa7 L)):=by
  by_cases h8:8<=k
  ·exact⟨2,by rw[if_pos h8],qfd h7 (by omega) _ _⟩
  ·exact⟨5,by rw[if_neg h8],qgT h7 (by omega) (by omega) (by rw[g2]; omega) _⟩
 obtain⟨e,he,ze⟩:=hadd
 have e0:qa7 [vrB 0 0]=[.cells [.dat (.sl (vrC [vrB 0 0]) 1 true)]]:=rfl
 rw[e0] at zn g3
 rw[show ((1:Nat):Int)=1 from rfl] at g3
 have hlen:=g1
 refine qdu hF rfl ?_
 generalize vrC [vrB 0 0]=C0 at *
 generalize intsC (tks L)=T at *
 generalize ((1+s:Nat):Int)=st at *
 simp only[srcB] at zn ze
 have hmin:((min (k+1) 9:Nat):Int)=1+min (k:Int) 8:=by omega
 by_cases h8:8<=k
 ·rw[if_pos h8] at he
  subst he
  have h8':(8:Int)<=k:=by omega
  have h8n : ¬ (k:Int)<8:=by omega
  have hmn:min (k:Int) 8=8:=by omega
  have hif:(if (8:Int)<k then (8:Int) else k)=8:=by split<;>omega
  have w9:IntKind.i64.wrap 9=9:=rfl
  rcases qcJ L with ⟨C,e⟩ | ⟨C,n,m,e⟩<;>rw[e] at g3 zv ze
  all_goals simp[F316,za,zb,zn,w1,g3,zv,ze,zl,hlen,hmin,h8',h8n,w9,qhZ,qgN,hmn,hif,V.len,List.range_succ,show IntKind.i64.wrap 1=1 from rfl]
 ·rw[if_neg h8] at he
  subst he
  have h8' : ¬ (8:Int)<=k:=by omega
  have h8n:(k:Int)<8:=by omega
  have hmn:min (k:Int) 8=k:=by omega
  have hif:(if (8:Int)<k then (8:Int) else k)=k:=by split<;>omega
  have w9:IntKind.i64.wrap (1+(k:Int))=1+k:=qcD _ (by omega)
  rcases qcJ L with ⟨C,e⟩ | ⟨C,n,m,e⟩<;>rw[e] at g3 zv ze
  all_goals simp[F316,za,zb,zn,w1,g3,zv,ze,zl,hlen,hmin,h8',h8n,w9,qhZ,qgN,hmn,hif,V.len,List.range_succ,show IntKind.i64.wrap 1=1 from rfl]
end
end Go.Pm
end SZd
section SFxp
namespace Go.Pm.F
variable (C:Task->Option Res) (q:Nat) (fr:Fr) (σ : S)
@[simp] def F329l0x:PC:=(.seq (.seq (rn [mv 9 5,mv 10 6,bn 11 .lss 9 10] [1,5,6,11]) (.cond (.t 11) (.skip) (.exit 0))) (.block 1 (.seq (rn [mv 12 5,mv 13 6,bn 14 .add 12 13,jj 15 (.conv (.int .u64) (.t 14)),jj 16 (.bin .shr (.t 15) (.c (.int .u64 1))),jj 17 (.conv (.int .i64) (.t 16)),mv 7 17] [1,5,6,7]) (.seq (rn [mv 18 1,mv 19 7,jj 20 (.callv (.t 18) [(.t 19)]),jj 21 (.un .not (.t 20))] [1,5,6,7,21]) (.cond (.t 21) (rn [mv 22 7,bk 23 .add 22 1,mv 5 23] [1,5,6]) (rn [mv 24 7,mv 6 24] [1,5,6]))))))
def F329l0:PC:=F329l0x
def F329:PFun:=⟨2,[.tmp 4],.seq (rn [mx 4 (kk 0)] [0,1]) (.seq (rn [mv 8 0,mx 5 (kk 0),mv 6 8] [1,5,6]) (.seq (.block 0 (.loop F329l0)) (.seq (rn [mv 25 5,mv 4 25] [4]) (.ret)))),false,false,false⟩
def F331:PFun:=⟨1,[.tmp 2],.seq (rn [jj 2 (.mov (.c (.slice none 0 0)))] [0]) (.seq (.seq (rn [mv 3 0,jj 4 (.isnils false (.t 3))] [0,4]) (.cond (.t 4) (.seq (rn [jj 2 (.mov (.c (.slice none 0 0)))] [2]) (.ret)) (.skip))) (.seq (rn [jj 5 (.bslice 0 [] []),mv 6 0,jj 7 (.append 2 16 (.t 5) (.t 6)),mv 2 7] [2]) (.ret))),false,false,false⟩
end Go.Pm.F
end SFxp
section STb17
namespace Go.Pm.F
def prog17d:Nat->Option PFun
 | 12=>some F12
 | 15=>some F15
 | 17=>some F17
 | 26=>some F26
 | 27=>some F27
 | 30=>some F30
 | 32=>some F32
 | 35=>some F35
 | 37=>some F37
 | 38=>some F38
 | 39=>some F39
 | 58=>some F58
 | 131=>some F131
 | 134=>some F134
 | 139=>some F139
 | 140=>some F140
 | 147=>some F147
 | 148=>some F148
 | 164=>some F164
 | 165=>some F165
 | 166=>some F166
 | 167=>some F167
 | 168=>some F168
 | 169=>some F169
 | 180=>some F180
 | 181=>some F181
 | 182=>some F182
 | 183=>some F183
 | 184=>some F184
 | 185=>some F185
 | 186=>some F186
 | 187=>some F187
 | 188=>some F188
 | 189=>some F189
 | 190=>some F190
 | 191=>some F191
 | 200=>some F200
 | 201=>some F201
 | 204=>some F204
 | 228=>some F228
 | 239=>some F239
 | 240=>some F240
 | 241=>some F241
 | 242=>some F242
 | 249=>some F249
 | 250=>some F250
 | 251=>some F251
 | 252=>some F252
 | 253=>some F253
 | 254=>some F254
 | 255=>some F255
 | 256=>some F256
 | 264=>some F264
 | 265=>some F265
 | 266=>some F266
 | 267=>some F267
 | 268=>some F268
 | 269=>some F269
 | 270=>some F270
 | 271=>some F271
 | 275=>some F275
 | 276=>some F276
 | 277=>some F277
 | 278=>some F278
 | 279=>some F279
 | 280=>some F280
 | 281=>some F281
 | 284=>some F284
 | 285=>some F285
 | 286=>some F286
 | 287=>some F287
 | 289=>some F289
 | 290=>some F290
 | 292=>some F292
 | 297=>some F297
 | 303=>some F303
 | 304=>some F304
 | 307=>some F307
 | 308=>some F308
 | 309=>some F309
 | 316=>some F316
 | 317=>some F317
 | 318=>some F318
 | 319=>some F319
 | 320=>some F320
 | 321=>some F321
 | 322=>some F322
 | 323=>some F323
 | 324=>some F324
 | 325=>some F325
 | 326=>some F326
 | 327=>some F327
 | 328=>some F328
 | 329=>some F329
 | 330=>some F330
 | 331=>some F331
 | _=>none
end Go.Pm.F
end STb17
section SZe
namespace Go.Pm
open F
theorem qei : ∀ f pf,tB f=some pf->prog17d f=some pf:=fun f pf h=>by
 unfold tB at h
 split at h<;>first | (cases h; rfl) | cases h
theorem qhj:Z prog17d (.call 321 [] [])=some (.ret (.bool true) []):=qff (n:=3000) (by kernel_rfl)
theorem limit17_Z {a b:Int} (ha:I64 a) (hb:I64 b):Z prog17d (.call 316 [.int a,.int b] [])=some (.ret (.bool true) []):=qfv qei rfl rfl rfl qhj ha hb
end Go.Pm
end SZe
