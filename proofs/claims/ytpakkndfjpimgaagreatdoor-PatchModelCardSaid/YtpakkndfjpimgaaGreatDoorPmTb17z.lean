/- The abstract machine's programs: tables of functions. The abstract machine's programs: tables of functions. The abstract machine's programs: tables of functions. Chapter 17: what programOf makes of the sources that the laws build. Chapter 17: the book: New, Add, Versions. Chapter 17: Versions. Chapter 17: At of the book. Chapters 16 and 17: the hash of a row of words. Chapter 17: the hash of a program. Chapter 17: the reference's hash of a program. -/
import Derived.Test.YtpakkndfjpimgaaGreatDoorPmY
import Derived.Test.YtpakkndfjpimgaaGreatDoorPmF3
import Derived.Test.YtpakkndfjpimgaaGreatDoorPmF4
import Derived.Test.YtpakkndfjpimgaaGreatDoorPmF5r
import Derived.KernelRfl
set_option linter.unusedSimpArgs false
set_option linter.unusedVariables false
section STb17z
namespace Go.Pm.F
def prog17z:Nat->Option PFun
 | 9=>some F9
 | 12=>some F12
 | 13=>some F13
 | 15=>some F15
 | 16=>some F16
 | 17=>some F17
 | 26=>some F26
 | 27=>some F27
 | 28=>some F28
 | 30=>some F30
 | 31=>some F31
 | 32=>some F32
 | 33=>some F33
 | 35=>some F35
 | 37=>some F37
 | 38=>some F38
 | 39=>some F39
 | 58=>some F58
 | 70=>some F70
 | 79=>some F79
 | 80=>some F80
 | 109=>some F109
 | 110=>some F110
 | 111=>some F111
 | 112=>some F112
 | 113=>some F113
 | 122=>some F122
 | 129=>some F129
 | 131=>some F131
 | 132=>some F132
 | 134=>some F134
 | 135=>some F135
 | 139=>some F139
 | 140=>some F140
 | 142=>some F142
 | 144=>some F144
 | 145=>some F145
 | 146=>some F146
 | 147=>some F147
 | 148=>some F148
 | 149=>some F149
 | 150=>some F150
 | 151=>some F151
 | 152=>some F152
 | 153=>some F153
 | 154=>some F154
 | 155=>some F155
 | 156=>some F156
 | 157=>some F157
 | 158=>some F158
 | 159=>some F159
 | 160=>some F160
 | 161=>some F161
 | 164=>some F164
 | 165=>some F165
 | 166=>some F166
 | 167=>some F167
 | 168=>some F168
 | 169=>some F169
 | 170=>some F170
 | 171=>some F171
 | 172=>some F172
 | 173=>some F173
 | 174=>some F174
 | 175=>some F175
 | 180=>some F180
 | 181=>some F181
 | 182=>some F182
 | 183=>some F183
 | 184=>some F184
 | 185=>some F185
 | 186=>some F186
 | 187=>some F187
 | 188=>some F188
 | 189=>some F189
 | 190=>some F190
 | 191=>some F191
 | 192=>some F192
 | 193=>some F193
 | 194=>some F194
 | 195=>some F195
 | 196=>some F196
 | 197=>some F197
 | 198=>some F198
 | 199=>some F199
 | 200=>some F200
 | 201=>some F201
 | 202=>some F202
 | 203=>some F203
 | 204=>some F204
 | 228=>some F228
 | 239=>some F239
 | 240=>some F240
 | 241=>some F241
 | 242=>some F242
 | 249=>some F249
 | 250=>some F250
 | 251=>some F251
 | 252=>some F252
 | 253=>some F253
 | 254=>some F254
 | 255=>some F255
 | 256=>some F256
 | 264=>some F264
 | 265=>some F265
 | 266=>some F266
 | 267=>some F267
 | 268=>some F268
 | 269=>some F269
 | 270=>some F270
 | 271=>some F271
 | 275=>some F275
 | 276=>some F276
 | 277=>some F277
 | 278=>some F278
 | 279=>some F279
 | 280=>some F280
 | 281=>some F281
 | 284=>some F284
 | 285=>some F285
 | 286=>some F286
 | 287=>some F287
 | 289=>some F289
 | 290=>some F290
 | 292=>some F292
 | 297=>some F297
 | 303=>some F303
 | 304=>some F304
 | 307=>some F307
 | 308=>some F308
 | 309=>some F309
 | 317=>some F317
 | 318=>some F318
 | 319=>some F319
 | 320=>some F320
 | 321=>some F321
 | 322=>some F322
 | 323=>some F323
 | 324=>some F324
 | 325=>some F325
 | 326=>some F326
 | 327=>some F327
 | 328=>some F328
 | 329=>some F329
 | 330=>some F330
 | 331=>some F331
 | 332=>some F332
 | 340=>some F340
 | 341=>some F341
 | 342=>some F342
 | 343=>some F343
 | 344=>some F344
 | 345=>some F345
 | 346=>some F346
 | 349=>some F349
 | 352=>some F352
 | 353=>some F353
 | _=>none
end Go.Pm.F
end STb17z
section STC
namespace Go.Pm.F
def tC:Nat->Option PFun
 | 9=>some F9
 | 13=>some F13
 | 16=>some F16
 | 28=>some F28
 | 31=>some F31
 | 33=>some F33
 | 122=>some F122
 | 129=>some F129
 | 132=>some F132
 | 135=>some F135
 | 142=>some F142
 | 144=>some F144
 | 145=>some F145
 | 146=>some F146
 | 149=>some F149
 | 150=>some F150
 | 151=>some F151
 | 152=>some F152
 | 153=>some F153
 | 154=>some F154
 | 155=>some F155
 | 156=>some F156
 | 157=>some F157
 | 158=>some F158
 | 159=>some F159
 | 160=>some F160
 | 161=>some F161
 | 170=>some F170
 | 171=>some F171
 | 172=>some F172
 | 173=>some F173
 | 174=>some F174
 | 175=>some F175
 | 192=>some F192
 | 193=>some F193
 | 194=>some F194
 | 195=>some F195
 | 196=>some F196
 | 197=>some F197
 | 198=>some F198
 | 199=>some F199
 | 202=>some F202
 | 203=>some F203
 | 352=>some F352
 | _=>none
end Go.Pm.F
end STC
section STB
namespace Go.Pm.F
def tB:Nat->Option PFun
 | 12=>some F12
 | 15=>some F15
 | 26=>some F26
 | 27=>some F27
 | 30=>some F30
 | 32=>some F32
 | 35=>some F35
 | 37=>some F37
 | 38=>some F38
 | 39=>some F39
 | 131=>some F131
 | 134=>some F134
 | 139=>some F139
 | 140=>some F140
 | 147=>some F147
 | 148=>some F148
 | 164=>some F164
 | 165=>some F165
 | 166=>some F166
 | 167=>some F167
 | 168=>some F168
 | 169=>some F169
 | 180=>some F180
 | 181=>some F181
 | 182=>some F182
 | 183=>some F183
 | 184=>some F184
 | 185=>some F185
 | 186=>some F186
 | 187=>some F187
 | 188=>some F188
 | 189=>some F189
 | 190=>some F190
 | 191=>some F191
 | 200=>some F200
 | 201=>some F201
 | 204=>some F204
 | 228=>some F228
 | 239=>some F239
 | 240=>some F240
 | 241=>some F241
 | 242=>some F242
 | 249=>some F249
 | 250=>some F250
 | 251=>some F251
 | 252=>some F252
 | 253=>some F253
 | 254=>some F254
 | 255=>some F255
 | 256=>some F256
 | 264=>some F264
 | 265=>some F265
 | 266=>some F266
 | 267=>some F267
 | 268=>some F268
 | 269=>some F269
 | 270=>some F270
 | 271=>some F271
 | 275=>some F275
 | 276=>some F276
 | 277=>some F277
 | 278=>some F278
 | 279=>some F279
 | 280=>some F280
 | 281=>some F281
 | 284=>some F284
 | 285=>some F285
 | 286=>some F286
 | 287=>some F287
 | 289=>some F289
 | 290=>some F290
 | 292=>some F292
 | 297=>some F297
 | 303=>some F303
 | 304=>some F304
 | 307=>some F307
 | 308=>some F308
 | 309=>some F309
 | 317=>some F317
 | 318=>some F318
 | 320=>some F320
 | 322=>some F322
 | 324=>some F324
 | 325=>some F325
 | 326=>some F326
 | 327=>some F327
 | 328=>some F328
 | _=>none
end Go.Pm.F
end STB
section SZa
namespace Go.Pm
open F
def srcB:Nat->ByteArray
 | 0=>⟨#[]⟩
 | 1=>⟨#[111,110,32,116,105,99,107,123,118,97,61,49,59,125]⟩
 | 2=>⟨#[111,110,32,97,99,116,123,120,91,115,101,108,102,93,61,111,116,104,101,114,59,125]⟩
 | 3=>⟨#[111,110,32,116,105,99,107,123,118,97,61,118,97,43,49,59,105,102,32,118,97,60,51,123,115,116,111,112,59,125,125]⟩
 | 4=>⟨#[111,110,32,104,105,116,123,97,91,115,101,108,102,93,61,97,91,115,101,108,102,93,43,98,91,111,116,104,101,114,93,59,125,111,110,32,116,105,99,107,123,101,102,102,101,99,116,32,49,44,116,105,99,107,59,125]⟩
 | 5=>⟨#[111,110,32,97,99,116,123,101,102,102,101,99,116,32,50,44,115,101,108,102,59,125]⟩
 | 6=>⟨#[111,110,32,116,105,99,107,123]⟩
 | 7=>⟨#[111,110,32,116,105,99,107,123,118,97,61,116,114,117,101,59,125]⟩
 | 8=>⟨#[111,110,32,111,110]⟩
 | _=>⟨#[111,110,32,116,105,99,107,123,104,105,116,91,48,93,61,49,59,125]⟩
def qlm:Nat->List Int
 | 1=>[1,1,3,0,21,0]
 | 2=>[6,0,7,0,5,0,21,0]
 | 3=>[2,0,1,1,9,0,3,0,2,0,1,3,14,0,19,10,21,0,18,10,21,0]
 | 4=>[1,1,8,0,20,0,21,0,6,0,6,0,4,4,7,0,4,5,9,0,5,4,21,0]
 | 5=>[1,2,6,0,20,0,21,0]
 | _=>[]
def qk2:Nat->Int × Int × Int
 | 0=>(-1,-1,-1)
 | 1=>(-1,0,-1)
 | 2=>(0,-1,-1)
 | 3=>(-1,0,-1)
 | 4=>(-1,0,4)
 | 5=>(0,-1,-1)
 | _=>(0,0,0)
def qcR:Nat->Int
 | 0=>0
 | 1=>0
 | 2=>0
 | 3=>0
 | 4=>0
 | 5=>0
 | 6=>12
 | 7=>13
 | 8=>12
 | _=>13
def qeI (l:List Int):D:=match l with
 | [] => .lit (.slice none 0 0)
 | x::r => .sl (intsC (x::r)) ((x::r).length / 2) false
abbrev qd1 (i:Nat):V := .dat (.agg [qeI (qlm i),.lit (.int .i64 (qk2 i).1),.lit (.int .i64 (qk2 i).2.1),.lit (.int .i64 (qk2 i).2.2)])
theorem qln:Z tB (.call 322 [.str (srcB 0)] [])=some (.ret (.tup [qd1 0,.int (qcR 0)]) []):=qcW (n:=3000) (by kernel_rfl)
theorem qlo:Z tB (.call 322 [.str (srcB 1)] [])=some (.ret (.tup [qd1 1,.int (qcR 1)]) []):=qcW (n:=3000) (by kernel_rfl)
theorem qlp:Z tB (.call 322 [.str (srcB 2)] [])=some (.ret (.tup [qd1 2,.int (qcR 2)]) []):=qcW (n:=3000) (by kernel_rfl)
theorem qlq:Z tB (.call 322 [.str (srcB 3)] [])=some (.ret (.tup [qd1 3,.int (qcR 3)]) []):=qcW (n:=3000) (by kernel_rfl)
theorem qlr:Z tB (.call 322 [.str (srcB 4)] [])=some (.ret (.tup [qd1 4,.int (qcR 4)]) []):=qcW (n:=3000) (by kernel_rfl)
theorem qls:Z tB (.call 322 [.str (srcB 5)] [])=some (.ret (.tup [qd1 5,.int (qcR 5)]) []):=qcW (n:=3000) (by kernel_rfl)
theorem qlt:Z tB (.call 322 [.str (srcB 6)] [])=some (.ret (.tup [qd1 6,.int (qcR 6)]) []):=qcW (n:=3000) (by kernel_rfl)
theorem qlu:Z tB (.call 322 [.str (srcB 7)] [])=some (.ret (.tup [qd1 7,.int (qcR 7)]) []):=qcW (n:=3000) (by kernel_rfl)
theorem qlv:Z tB (.call 322 [.str (srcB 8)] [])=some (.ret (.tup [qd1 8,.int (qcR 8)]) []):=qcW (n:=3000) (by kernel_rfl)
theorem qlw:Z tB (.call 322 [.str (srcB 9)] [])=some (.ret (.tup [qd1 9,.int (qcR 9)]) []):=qcW (n:=3000) (by kernel_rfl)
theorem qg1 : ∀ i,i<10->Z tB (.call 322 [.str (srcB i)] [])=some (.ret (.tup [qd1 i,.int (qcR i)]) [])
 | 0,_=>qln
 | 1,_=>qlo
 | 2,_=>qlp
 | 3,_=>qlq
 | 4,_=>qlr
 | 5,_=>qls
 | 6,_=>qlt
 | 7,_=>qlu
 | 8,_=>qlv
 | 9,_=>qlw
 | _+10,h=>by omega
end Go.Pm
end SZa
section SZb
namespace Go.Pm
open F
set_option maxHeartbeats 4000000
structure Vr where
 t:Int
 c:D
 a:Int
 b:Int
 e:Int
 one:V.one (.dat c)=true
 cl:V.cells (.dat c)=[.dat c]
def vrC:List Vr->List D
 | []=>[]
 | v::r => .lit (.int .i64 v.t)::v.c :: .lit (.int .i64 v.a) :: .lit (.int .i64 v.b) :: .lit (.int .i64 v.e)::vrC r
theorem qhU : ∀ a b:List Vr,vrC (a++b)=vrC a++vrC b
 | [],b=>rfl
 | v::a,b=>by simp[vrC,qhU a b]
theorem qhV : ∀ a:List Vr,(vrC a).length=a.length*5
 | []=>rfl
 | v::a=>by simp[vrC,qhV a]; omega
theorem qd4 : ∀ (L:List Vr) (i:Nat),(vrC L).drop (i*5)=vrC (L.drop i)
 | L,0=>by simp
 | [],i+1=>by simp[vrC]
 | v::L,i+1=>by
  rw[show (i+1)*5=i*5+1+1+1+1+1 by omega]
  simp only[vrC,List.drop_succ_cons,qd4 L i]
theorem qgV {L:List Vr} {i:Nat} (h:i<L.length):qae (vrC L) (i*5) 1=some [.lit (.int .i64 L[i].t)]:=by
 unfold qae
 rw[qd4,List.drop_eq_getElem_cons h]
 simp[vrC]
def qaB (L:List Vr):S:=if L.length=1 then [.cells [.dat (.sl (vrC L) 1 true)]] else [.cells [.gsl (vrC L) L.length 5 1],.tip (vrC L).length]
theorem qgW (v:Vr):qaB [v]=[.cells [.dat (.sl (vrC [v]) 1 true)]]:=rfl
theorem qdO {L:List Vr} (h:2<=L.length):qaB L=[.cells [.gsl (vrC L) L.length 5 1],.tip (vrC L).length]:=if_neg (by omega)
theorem qfg (L:List Vr):(∃ C,qaB L=[.cells [.dat (.sl C 1 true)]]) \/ ∃ C n m,qaB L=[.cells [.gsl C n 5 1],.tip m]:=by
 unfold qaB
 split
 ·exact .inl ⟨_,rfl⟩
 ·exact .inr ⟨_,_,_,rfl⟩
def qlf (prog:Nat->Option PFun) (s:ByteArray) (v:Vr):Prop:=Z prog (.call 322 [.str s] [])=some (.ret (.tup [.dat (.agg [v.c,.lit (.int .i64 v.a),.lit (.int .i64 v.b),.lit (.int .i64 v.e)]),.int 0]) [])
section
variable {prog:Nat->Option PFun} (h7 : ∀ k pf,tB k=some pf->prog k=some pf)
include h7
theorem qmy {s:ByteArray} {v:Vr} (hp:qlf prog s v) (h0:v.t=0):Z prog (.call 317 [.str s] [])=some (.ret (.tup [.ptr 0 0,.int 0]) (qaB [v])):=by
 have o:=v.one
 have c:=v.cl
 unfold qlf at hp
 refine qaz (h7 317 F317 rfl) rfl ?_
 simp[F317,hp,o,c,h0,qgW,vrC,List.range_succ]
theorem qhW {L:List Vr} (hl:8<L.length) (t:Int) (s:ByteArray):Z prog (.call 318 [.ptr 0 0,.int t,.str s] (qaB L))=some (.ret (.int 2) (qaB L)):=by
 have h8:(8:Int)<L.length:=by omega
 rw[qdO (by omega)]
 refine qaz (h7 318 F318 rfl) rfl ?_
 simp[F318,V.len,h8,List.range_succ]
def lastT (L:List Vr):Int:=match L.getLast? with
 | some v=>v.t
 | none=>0
omit h7 in
theorem qfh {L:List Vr} (h:0<L.length):qae (vrC L) ((L.length-1)*5) 1=some [.lit (.int .i64 (lastT L))]:=by
 rw[qgV (by omega)]
 unfold lastT
 rw[List.getLast?_eq_getElem?,List.getElem?_eq_getElem (by omega)]
theorem qhX {L:List Vr} (h0:0<L.length) (hl:L.length<=8) {t:Int} (ht:t<=lastT L) (s:ByteArray):Z prog (.call 318 [.ptr 0 0,.int t,.str s] (qaB L))=some (.ret (.int 5) (qaB L)):=by
 have h8 : ¬ (8:Int)<L.length:=by omega
 have hc:=qfh h0
 have w:IntKind.i64.wrap ((L.length:Int)-1)=((L.length-1:Nat):Int):=by rw[qar _ (by omega)]; omega
 have hlt:L.length-1<L.length:=by omega
 have hlt':((L.length-1:Nat):Int)<L.length:=by omega
 refine qaz (h7 318 F318 rfl) rfl ?_
 by_cases h1:L.length=1
 ·have e:qaB L=[.cells [.dat (.sl (vrC L) 1 true)]]:=if_pos h1
  rw[h1] at hc
  rw[e]
  generalize vrC L=C at *
  simp at hc
  simp[F318,V.len,qac,hc,ht,List.range_succ,show IntKind.i64.wrap 0=0 from rfl]
 ·rw[qdO (by omega)]
  generalize L.length-1=n1 at *
  generalize vrC L=C at *
  generalize L.length=n at *
  simp[F318,V.len,qac,h8,hc,ht,w,hlt,hlt',List.range_succ]
theorem qjU {L:List Vr} (h0:0<L.length) (hl:L.length<=8) {t:Int} (ht:lastT L<t) {s:ByteArray} {q:V} {e:Int} (he:e≠0) (hq : ∃ c a b d,q = .dat (.agg [c,a,b,d])/\V.one (.dat c)=true/\V.cells (.dat c)=[.dat c]/\V.one (.dat a)=true/\V.cells (.dat a)=[.dat a]/\V.one (.dat b)=true/\V.cells (.dat b)=[.dat b]/\V.one (.dat d)=true/\V.cells (.dat d)=[.dat d])
  (hp:Z prog (.call 322 [.str s] [])=some (.ret (.tup [q,.int e]) [])):Z prog (.call 318 [.ptr 0 0,.int t,.str s] (qaB L))=some (.ret (.int e) (qaB L)):=by
 obtain⟨c,a,b,d,rfl,o1,c1,o2,c2,o3,c3,o4,c4⟩:=hq
 have h8 : ¬ (8:Int)<L.length:=by omega
 have hc:=qfh h0
 have ht' : ¬ t<=lastT L:=by omega
 have w:IntKind.i64.wrap ((L.length:Int)-1)=((L.length-1:Nat):Int):=by rw[qar _ (by omega)]; omega
 have hlt:L.length-1<L.length:=by omega
 have hlt':((L.length-1:Nat):Int)<L.length:=by omega
 refine qaz (h7 318 F318 rfl) rfl ?_
 by_cases h1:L.length=1
 ·have e:qaB L=[.cells [.dat (.sl (vrC L) 1 true)]]:=if_pos h1
  rw[h1] at hc
  rw[e]
  generalize vrC L=C at *
  generalize lastT L=T at *
  simp at hc
  simp[F318,V.len,qac,hc,ht,ht',hp,he,o1,c1,o2,c2,o3,c3,o4,c4,List.range_succ,show IntKind.i64.wrap 0=0 from rfl]
 ·rw[qdO (by omega)]
  generalize L.length-1=n1 at *
  generalize vrC L=C at *
  generalize lastT L=T at *
  generalize L.length=n at *
  simp[F318,V.len,qac,h8,hc,ht,ht',hp,he,o1,c1,o2,c2,o3,c3,o4,c4,w,hlt,hlt',List.range_succ]
theorem qlg {L:List Vr} (h0:0<L.length) (hl:L.length<=8) {v:Vr} (ht:lastT L<v.t) {s:ByteArray} (hp:qlf prog s v):Z prog (.call 318 [.ptr 0 0,.int v.t,.str s] (qaB L))=some (.ret (.int 0) (qaB (L++[v]))):=by
 have h8 : ¬ (8:Int)<L.length:=by omega
 have hc:=qfh h0
 have ht' : ¬ v.t<=lastT L:=by omega
 have w:IntKind.i64.wrap ((L.length:Int)-1)=((L.length-1:Nat):Int):=by rw[qar _ (by omega)]; omega
 have hlt:L.length-1<L.length:=by omega
 have hlt':((L.length-1:Nat):Int)<L.length:=by omega
 have o:=v.one
 have c:=v.cl
 have hL:=qhV L
 have hr:qaj (L.length+1) 56=true:=by simp only[qaj,decide_eq_true_eq]; omega
 unfold qlf at hp
 rw[qdO (L:=L++[v]) (by simp; omega),qhU]
 refine qaz (h7 318 F318 rfl) rfl ?_
 by_cases h1:L.length=1
 ·have e:qaB L=[.cells [.dat (.sl (vrC L) 1 true)]]:=if_pos h1
  rw[h1] at hc hL hr
  rw[e]
  generalize vrC L=C at *
  generalize lastT L=T at *
  simp at hc hL
  simp[F318,V.len,qac,hc,ht,ht',hp,o,c,qa2,qgs,hr,hL,h1,vrC,List.range_succ,show IntKind.i64.wrap 0=0 from rfl]
 ·rw[qdO (by omega),List.length_append]
  generalize L.length-1=n1 at *
  generalize vrC L=C at *
  generalize lastT L=T at *
  generalize L.length=n at *
  simp[F318,V.len,qac,h8,hc,ht,ht',hp,o,c,qa2,qgs,hr,hL,w,hlt,hlt',vrC,List.range_succ]
end
end Go.Pm
end SZb
section SZc
namespace Go.Pm
open F
set_option maxHeartbeats 4000000
def tkW (L:List Vr) (i:Nat):List V:=(L.take i).map (fun v=>V.int v.t)++List.replicate (L.length-i) (V.int 0)
theorem qih (L:List Vr) {i:Nat} (h:i<=L.length):(tkW L i).length=L.length:=by simp[tkW]; omega
theorem qii {L:List Vr} {i:Nat} (h:i<L.length):(tkW L i).take i++V.int L[i].t::(tkW L i).drop (i+1)=tkW L (i+1):=by
 have h1:((L.take i).map (fun v=>V.int v.t)).length=i:=by simp; omega
 unfold tkW
 rw[List.take_left' h1,List.drop_append,h1,show L.length-i=(L.length-(i+1))+1 by omega,List.replicate_succ,List.take_succ_eq_append_getElem h,List.map_append,List.append_assoc]
 simp[List.drop_eq_nil_of_le (as:=(L.take i).map (fun v=>V.int v.t)) (i:=i+1) (by rw[h1]; omega),show i+1-i=1 by omega]
 omega
def tks (L:List Vr):List Int:=L.map (·.t)
theorem qkb (L:List Vr):tkW L L.length=(intsC (tks L)).map .dat:=by
 simp[tkW,tks,intsC]
theorem qcJ : ∀ l:List D,qaQ (l.map .dat)=some l
 | []=>rfl
 | d::l=>by simp[qaQ,qcJ l]
theorem qce (L:List Vr) (i:Nat):qal (tkW L i)=[]:=by
 have h : ∀ (l:List V),(∀ v∈l,v.locs=[])->qal l=[]:=by
  intro l
  induction l with
  | nil=>intro _; rfl
  | cons v l ih=>intro h; simp[qal,h v (by simp),ih fun u hu=>h u (by simp[hu])]
 refine h _ fun v hv=>?_
 unfold tkW at hv
 rcases List.mem_append.1 hv with hv | hv
 ·obtain⟨x,_,rfl⟩:=List.mem_map.1 hv; rfl
 ·rw[(List.mem_replicate.1 hv).2]; rfl
theorem qc3 (r:Nat->Nat) (L:List Vr) (i:Nat):qbI r (tkW L i)=tkW L i:=by
 have h : ∀ (l:List V),(∀ v∈l,v.ren r=v)->qbI r l=l:=by
  intro l
  induction l with
  | nil=>intro _; rfl
  | cons v l ih=>intro h; simp[qbI,h v (by simp),ih fun u hu=>h u (by simp[hu])]
 refine h _ fun v hv=>?_
 unfold tkW at hv
 rcases List.mem_append.1 hv with hv | hv
 ·obtain⟨x,_,rfl⟩:=List.mem_map.1 hv; rfl
 ·rw[(List.mem_replicate.1 hv).2]; rfl
theorem qfx {L:List Vr} {i:Nat} (h:i<L.length):qae (vrC L) (i*5) 5=some [.lit (.int .i64 L[i].t),L[i].c,.lit (.int .i64 L[i].a),.lit (.int .i64 L[i].b),.lit (.int .i64 L[i].e)]:=by
 unfold qae
 rw[qd4,List.drop_eq_getElem_cons h]
 simp[vrC]
section
variable {prog:Nat->Option PFun} (h7 : ∀ k pf,tB k=some pf->prog k=some pf)
theorem qlO {L:List Vr} {i:Nat} (h:i<L.length) (hl:L.length<=1000) {i0 i1:Int} (e0:i0=i) (e1:i1=i0+1) (g:Bool) :
  Z prog (.loop 1 F320l0 [(3,.msl 1 0 L.length L.length 1),(15,.dat (.sl (vrC L) L.length g)),(16,.int L.length),(17,.int i0)] [.cells [.dat (.sl (vrC L) L.length g)],.cells (tkW L i)]) =
  Z prog (.loop 1 F320l0 [(3,.msl 1 0 L.length L.length 1),(15,.dat (.sl (vrC L) L.length g)),(16,.int L.length),(17,.int i1)] [.cells [.dat (.sl (vrC L) L.length g)],.cells (tkW L (i+1))]):=by
 have hc:=qfx h
 have o:=L[i].one
 have c:=L[i].cl
 have hs:=qii h
 have hw:=qih L (i:=i) (by omega)
 have w1:IntKind.i64.wrap ((i:Int)+1)=(i:Int)+1:=qar _ (by omega)
 have hlt:(i:Int)<L.length:=by omega
 have h5:i+1<=L.length:=h
 subst e1 e0
 generalize L[i]=v at *
 generalize vrC L=C at *
 have l1:=qce L i
 have l2:=qce L (i+1)
 have r1:=fun r=>qc3 r L i
 have r2:=fun r=>qc3 r L (i+1)
 generalize tkW L i=W at *
 generalize tkW L (i+1)=W' at *
 generalize L.length=n at *
 conv=>lhs; rw[qad]
 simp[qag,qcH,V.len,qac,hlt,h,h5,hc,o,c,hw,hs,w1,l1,l2,r1,r2,List.range_succ]
 all_goals exact qaO (by simp[gcF,l1,l2,r1,r2,List.range_succ])
theorem qlP {L:List Vr} {i:Nat} (h:i<L.length) (hl:L.length<=1000) {i0 i1:Int} (e0:i0=i) (e1:i1=i0+1) (m:Nat) :
  Z prog (.loop 2 F320l0 [(3,.msl 2 0 L.length L.length 1),(15,.gsl (vrC L) L.length 5 1),(16,.int L.length),(17,.int i0)] [.cells [.gsl (vrC L) L.length 5 1],.tip m,.cells (tkW L i)]) =
  Z prog (.loop 2 F320l0 [(3,.msl 2 0 L.length L.length 1),(15,.gsl (vrC L) L.length 5 1),(16,.int L.length),(17,.int i1)] [.cells [.gsl (vrC L) L.length 5 1],.tip m,.cells (tkW L (i+1))]):=by
 have hc:=qfx h
 have o:=L[i].one
 have c:=L[i].cl
 have hs:=qii h
 have hw:=qih L (i:=i) (by omega)
 have w1:IntKind.i64.wrap ((i:Int)+1)=(i:Int)+1:=qar _ (by omega)
 have hlt:(i:Int)<L.length:=by omega
 have h5:i+1<=L.length:=h
 subst e1 e0
 generalize L[i]=v at *
 generalize vrC L=C at *
 have l1:=qce L i
 have l2:=qce L (i+1)
 have r1:=fun r=>qc3 r L i
 have r2:=fun r=>qc3 r L (i+1)
 generalize tkW L i=W at *
 generalize tkW L (i+1)=W' at *
 generalize L.length=n at *
 conv=>lhs; rw[qad]
 simp[qag,qcH,V.len,qac,hlt,h,h5,hc,o,c,hw,hs,w1,l1,l2,r1,r2,List.range_succ]
 all_goals exact qaO (by simp[gcF,l1,l2,r1,r2,List.range_succ])
theorem qjD {L:List Vr} (hl:L.length<=1000) (g:Bool) : ∀ (k i:Nat),i+k=L.length->Z prog (.loop 1 F320l0 [(3,.msl 1 0 L.length L.length 1),(15,.dat (.sl (vrC L) L.length g)),(16,.int L.length),(17,.int i)] [.cells [.dat (.sl (vrC L) L.length g)],.cells (tkW L i)]) =
  some (.out (.exit 0) [(3,.msl 1 0 L.length L.length 1),(15,.dat (.sl (vrC L) L.length g)),(16,.int L.length),(17,.int L.length),(18,.bool false)] [.cells [.dat (.sl (vrC L) L.length g)],.cells (tkW L L.length)])
 | 0,i,h=>by
  obtain rfl:i=L.length:=by omega
  have l1:=qce L L.length
  have r1:=fun r=>qc3 r L L.length
  rw[qad]
  simp[qag,qcH,l1,r1,List.range_succ]
 | k+1,i,h=>by
  rw[qlO (prog:=prog) (L:=L) (i:=i) (by omega) hl (i0:=i) (i1:=((i+1:Nat):Int)) rfl (by omega) g]
  exact qjD hl g k (i+1) (by omega)
theorem qjE {L:List Vr} (hl:L.length<=1000) (m:Nat) : ∀ (k i:Nat),i+k=L.length->Z prog (.loop 2 F320l0 [(3,.msl 2 0 L.length L.length 1),(15,.gsl (vrC L) L.length 5 1),(16,.int L.length),(17,.int i)] [.cells [.gsl (vrC L) L.length 5 1],.tip m,.cells (tkW L i)]) =
  some (.out (.exit 0) [(3,.msl 2 0 L.length L.length 1),(15,.gsl (vrC L) L.length 5 1),(16,.int L.length),(17,.int L.length),(18,.bool false)] [.cells [.gsl (vrC L) L.length 5 1],.tip m,.cells (tkW L L.length)])
 | 0,i,h=>by
  obtain rfl:i=L.length:=by omega
  have l1:=qce L L.length
  have r1:=fun r=>qc3 r L L.length
  rw[qad]
  simp[qag,qcH,l1,r1,List.range_succ]
 | k+1,i,h=>by
  rw[qlP (prog:=prog) (L:=L) (i:=i) (by omega) hl (i0:=i) (i1:=((i+1:Nat):Int)) rfl (by omega) m]
  exact qjE hl m k (i+1) (by omega)
theorem qjF : ∀ n:Nat,(qbD n [D.lit (.int .i64 0)]).map V.dat=List.replicate n (V.int 0)
 | 0=>rfl
 | n+1=>by simp[qbD,qjF n,List.replicate_succ]
include h7
theorem qhA {L:List Vr} (h0:0<L.length) (hl:L.length<=1000):Z prog (.call 320 [.ptr 0 0] (qaB L))=some (.ret (.dat (.sl (intsC (tks L)) L.length false)) (qaB L)):=by
 have hz:tkW L 0=List.replicate L.length (V.int 0):=by simp[tkW]
 have hrep:=qjF L.length
 have l1:=qce L 0
 have r1:=fun r=>qc3 r L 0
 have hall:=qkb L
 have hd:=qcJ (intsC (tks L))
 have hlen:(intsC (tks L)).length=L.length:=by simp[intsC,tks]
 have hone:((intsC (tks L)).all fun d=>V.one (.dat d))=true:=by simp[intsC]
 have c1:(L.length:Int)<=1099511627776:=by omega
 have c2:(8:Int)*L.length<=281474976710656:=by omega
 refine qaz (h7 320 F320 rfl) rfl ?_
 by_cases h1:L.length=1
 ·have e:qaB L=[.cells [.dat (.sl (vrC L) 1 true)]]:=if_pos h1
  have z:=qjD (prog:=prog) hl true L.length 0 (by omega)
  rw[hall] at z
  rw[e]
  rw[hz,h1] at z
  rw[h1] at hrep hlen
  generalize vrC L=C at *
  generalize intsC (tks L)=T at *
  simp only[Int.cast_ofNat_Int,List.replicate_one] at z hrep
  simp[F320,V.len,h1,hrep,z,hd,hlen,hone,List.range_succ]
  exact List.take_of_length_le (by omega)
 ·have z:=qjE (prog:=prog) hl (vrC L).length L.length 0 (by omega)
  rw[hall] at z
  rw[qdO (by omega)]
  rw[hz] at z
  generalize vrC L=C at *
  generalize intsC (tks L)=T at *
  generalize L.length=n at *
  simp only[Int.cast_ofNat_Int] at z
  simp[F320,V.len,hrep,z,hd,hlen,hone,c1,c2,List.range_succ]
  exact List.take_of_length_le (by omega)
end
end Go.Pm
end SZc
section SZf
namespace Go.Pm
open F
set_option maxHeartbeats 4000000
def atB (L:List Vr):S:=if L.length=1 then [.cells [.dat (.sl (vrC L) 1 true)]] else [.cells [.gsl (vrC L) L.length 5 3],.tip (vrC L).length]
def atS (L:List Vr) (tick:Int):S := .cells [.ptr 2 0] :: .cells [.int tick]::atB L
theorem qmZ {L:List Vr} (h:2<=L.length):atB L=[.cells [.gsl (vrC L) L.length 5 3],.tip (vrC L).length]:=if_neg (by omega)
theorem qiX (L:List Vr):(∃ C,atB L=[.cells [.dat (.sl C 1 true)]]) \/ ∃ C n m,atB L=[.cells [.gsl C n 5 3],.tip m]:=by
 unfold atB
 split
 ·exact .inl ⟨_,rfl⟩
 ·exact .inr ⟨_,_,_,rfl⟩
abbrev atF:V := .fn 330 [] [.ptr 0 0,.ptr 1 0]
theorem qna {n:Nat}:qj3 .u64 (n:Int) 1=((n / 2:Nat):Int):=by
 show Int.fdiv _ (2 ^ min (1:Int).toNat IntKind.u64.bits)=_
 rw[Int.fdiv_eq_ediv_of_nonneg _ (by decide)]
 rfl
theorem qiY {L:List Vr} {i:Nat} (h:i<L.length):qae (vrC L) (i*5+1) 4=some [L[i].c,.lit (.int .i64 L[i].a),.lit (.int .i64 L[i].b),.lit (.int .i64 L[i].e)]:=by
 unfold qae
 rw[<- List.drop_drop,qd4,List.drop_eq_getElem_cons h]
 simp[vrC]
section
variable {prog:Nat->Option PFun} (h29:prog 329=some F329) (h30:prog 330=some F330)
include h30
theorem qjX {L:List Vr} {tick:Int} {k:Nat} (hk:k<L.length) (hl:L.length<=1000):Z prog (.call 330 [.int k,.ptr 0 0,.ptr 1 0] (atS L tick))=some (.ret (.bool (decide (tick<L[k].t))) (atS L tick)):=by
 have hc:=qgV hk
 have hlt:(k:Int)<L.length:=by omega
 refine qaz h30 rfl ?_
 unfold atS
 by_cases h1:L.length=1
 ·have e:atB L=[.cells [.dat (.sl (vrC L) 1 true)]]:=if_pos h1
  obtain rfl:k=0:=by omega
  rw[e]
  generalize L[0]=v at *
  generalize vrC L=C at *
  simp at hc
  simp[F330,V.len,qac,hc,List.range_succ]
 ·rw[qmZ (by omega)]
  generalize L[k]=v at *
  generalize vrC L=C at *
  generalize L.length=n at *
  simp[F330,V.len,qac,hc,hlt,hk,List.range_succ]
omit h30 in
theorem qm0 {n:Nat} (h:n<2 ^ 40):IntKind.u64.wrap (n:Int)=n:=by
 have:IntKind.u64.wrap (n:Int)=(n:Int) % 18446744073709551616:=by simp[IntKind.wrap,IntKind.bits,IntKind.signed]
 rw[this]; omega
theorem qb7 {L:List Vr} {tick:Int} {r:Nat} (hl:L.length<=1000) (hr:r<=L.length) (hlo : ∀ m (h:m<L.length),m<r->L[m].t<=tick) (hhi : ∀ m (h:m<L.length),r<=m->tick<L[m].t) : ∀ (d i j:Nat),j-i<=d->i<=r->r<=j->j<=L.length ->
  ∃ fr,Z prog (.loop (atS L tick).length F329l0 [(1,atF),(5,.int i),(6,.int j)] (atS L tick))=some (.out (.exit 0) ((1,atF)::(5,.int r)::fr) (atS L tick))
 | 0,i,j,h,h1,h2,h3=>by
  obtain rfl:i=r:=by omega
  obtain rfl:j=i:=by omega
  refine⟨[(6,.int j),(11,.bool false)],?_⟩
  rw[qad]
  unfold atS
  rcases qiX L with ⟨C,e⟩ | ⟨C,n,m,e⟩
  ·rw[e]; simp[qag,qcN,List.range_succ]
  ·rw[e]; simp[qag,qcN,List.range_succ]
 | d+1,i,j,h,h1,h2,h3=>by
  by_cases hij:i<j
  ·obtain⟨q,hq⟩ : ∃ q,q=(i+j) / 2:=⟨_,rfl⟩
   have hql:q<L.length:=by omega
   have z:=qjX h30 (tick:=tick) hql hl
   have w1:IntKind.i64.wrap ((i:Int)+j)=((i+j:Nat):Int):=by rw[qar _ (by omega)]; omega
   have w2:=qm0 (n:=i+j) (by omega)
   have w3:qj3 .u64 ((i+j:Nat):Int) 1=(q:Int):=by rw[qna,hq]
   have w4:IntKind.i64.wrap (q:Int)=q:=qar _ (by omega)
   have w5:IntKind.i64.wrap ((q:Int)+1)=((q+1:Nat):Int):=by rw[qar _ (by omega)]; omega
   have w6:=qm0 (n:=q) (by omega)
   have hlt:(i:Int)<j:=by omega
   by_cases hg:tick<L[q].t
   ·have hrq:r<=q:=by
     rcases Nat.lt_or_ge q r with h4 | h4
     ·exact absurd (hlo q hql h4) (by omega)
     ·exact h4
    obtain⟨fr,e⟩:=qb7 hl hr hlo hhi d i q (by omega) h1 hrq (by omega)
    refine⟨fr,?_⟩
    rw[<- e]
    simp only[hg,decide_true] at z
    conv=>lhs; rw[qad]
    unfold atS at z ⊢
    generalize ((i+j:Nat):Int)=ij at *
    rcases qiX L with ⟨C,e⟩ | ⟨C,n,m,e⟩<;>rw[e] at z ⊢ <;> simp[qag,qcN,hlt,w1,w2,w3,w4,w6,z,List.range_succ]
   ·have hrq:q+1<=r:=by
     rcases Nat.lt_or_ge q r with h4 | h4
     ·exact h4
     ·exact absurd (hhi q hql h4) hg
    obtain⟨fr,e⟩:=qb7 hl hr hlo hhi d (q+1) j (by omega) hrq h2 h3
    refine⟨fr,?_⟩
    rw[<- e]
    simp only[hg,decide_false] at z
    conv=>lhs; rw[qad]
    unfold atS at z ⊢
    generalize ((i+j:Nat):Int)=ij at *
    generalize ((q+1:Nat):Int)=q1 at *
    rcases qiX L with ⟨C,e⟩ | ⟨C,n,m,e⟩<;>rw[e] at z ⊢ <;> simp[qag,qcN,hlt,w1,w2,w3,w4,w5,w6,z,List.range_succ]
  ·exact qb7 hl hr hlo hhi d i j (by omega) h1 h2 h3
include h29
theorem qiZ {L:List Vr} {tick:Int} {r:Nat} (hl:L.length<=1000) (hr:r<=L.length) (hlo : ∀ m (h:m<L.length),m<r->L[m].t<=tick) (hhi : ∀ m (h:m<L.length),r<=m->tick<L[m].t) :
  Z prog (.call 329 [.int L.length,atF] (atS L tick))=some (.ret (.int r) (atS L tick)):=by
 obtain⟨fr,z⟩:=qb7 h30 hl hr hlo hhi L.length 0 L.length (by omega) (by omega) hr (by omega)
 refine qaz h29 rfl ?_
 rw[show ((0:Nat):Int)=0 from rfl] at z
 unfold atS at z ⊢
 rcases qiX L with ⟨C,e⟩ | ⟨C,n,m,e⟩<;>rw[e] at z ⊢ <;> simp only[List.length_cons,List.length_nil,Nat.reduceAdd] at z<;>simp[F329,z,List.range_succ]
theorem qnb (h23:prog 323=some F323) {L:List Vr} {tick:Int} {r k:Nat} (hl:L.length<=1000) (h0:0<L.length) (hr:r<=L.length) (hlo : ∀ m (h:m<L.length),m<r->L[m].t<=tick) (hhi : ∀ m (h:m<L.length),r<=m->tick<L[m].t)
  (hk:k=r-1) (hkl:k<L.length) (zc:Z prog (.call 331 [.dat L[k].c] [])=some (.ret (.dat L[k].c) [])) :
  Z prog (.call 323 [.ptr 0 0,.int tick] (qaB L))=some (.ret (.tup [.int k,.dat (.agg [L[k].c,.lit (.int .i64 L[k].a),.lit (.int .i64 L[k].b),.lit (.int .i64 L[k].e)])]) (qaB L)):=by
 have z:=qiZ h29 h30 (tick:=tick) hl hr hlo hhi
 have hc:=qiY hkl
 have o:=L[k].one
 have c:=L[k].cl
 have w1:IntKind.i64.wrap ((r:Int)-1)=(r:Int)-1:=qar _ (by omega)
 have hmax:(if (r:Int)-1<0 then (0:Int) else (r:Int)-1)=(k:Int):=by split<;>omega
 have hlt:(k:Int)<L.length:=by omega
 refine qaz h23 rfl ?_
 unfold atS at z
 by_cases h1:L.length=1
 ·have e:qaB L=[.cells [.dat (.sl (vrC L) 1 true)]]:=if_pos h1
  have e':atB L=[.cells [.dat (.sl (vrC L) 1 true)]]:=if_pos h1
  rw[e'] at z
  rw[e]
  obtain rfl:k=0:=by omega
  rw[h1] at z
  clear hlo hhi
  generalize L[0]=v at *
  generalize vrC L=C at *
  rw[show ((1:Nat):Int)=1 from rfl] at z
  rw[show ((0:Nat):Int)=0 from rfl] at hmax
  simp at hc
  simp[F323,V.len,qac,qjB,qhP,z,zc,hc,o,c,w1,hmax,List.range_succ]
  done
 ·rw[qmZ (by omega)] at z
  rw[qdO (by omega)]
  clear hlo hhi
  generalize L[k]=v at *
  generalize vrC L=C at *
  generalize L.length=n at *
  simp[F323,V.len,qac,qjB,qhP,z,zc,hc,o,c,w1,hmax,hlt,hkl,List.range_succ]
  done
end
end Go.Pm
end SZf
section SZg
namespace Go.Pm
open F
set_option maxHeartbeats 4000000
def qc6 (s w:Int):Int:=
 let m:=IntKind.u64.wrap (qhv .u64 (· ^^^ ·) s w*11400714819323198485)
 qhv .u64 (· ^^^ ·) m (m.tdiv 4294967296)
theorem qeM (n:Int):0<=IntKind.u64.wrap n/\IntKind.u64.wrap n<18446744073709551616:=by
 have:IntKind.u64.wrap n=n % 18446744073709551616:=by simp[IntKind.wrap,IntKind.bits,IntKind.signed]
 rw[this]; omega
theorem qgN (n:Int) (h:0<=n/\n<18446744073709551616):IntKind.u64.wrap n=n:=by
 have:IntKind.u64.wrap n=n % 18446744073709551616:=by simp[IntKind.wrap,IntKind.bits,IntKind.signed]
 rw[this]; omega
theorem qkC (m:Int) (h:0<=m/\m<18446744073709551616):IntKind.u64.wrap (m.tdiv 4294967296)=m.tdiv 4294967296:=by
 apply qgN
 have:=Int.tdiv_eq_ediv_of_nonneg h.1 (b:=4294967296)
 omega
theorem qmb (m:Int) (h:0<=m/\m<18446744073709551616):qj3 .u64 m 32=m.tdiv 4294967296:=by
 rw[Int.tdiv_eq_ediv_of_nonneg h.1 (b:=4294967296)]
 show Int.fdiv _ (2 ^ min (32:Int).toNat IntKind.u64.bits)=_
 rw[Int.fdiv_eq_ediv_of_nonneg _ (by decide)]
 rfl
def qiz (s w:Int):Int:=IntKind.u64.wrap (qhv .u64 (· ^^^ ·) s w*11400714819323198485)
theorem qe8 (s w:Int):0<=qiz s w/\qiz s w<18446744073709551616:=qeM _
theorem qiA (s w:Int):qc6 s w=qhv .u64 (· ^^^ ·) (qiz s w) ((qiz s w).tdiv 4294967296):=by
 unfold qc6 qiz
 exact rfl
theorem qfK (a b:Int):qen .xor (.int .u64 a) (.int .u64 b)=some (.int .u64 (qhv .u64 (· ^^^ ·) a b)):=by simp
theorem qiB (a b:Int):qen .mul (.int .u64 (qhv .u64 (· ^^^ ·) a b)) (.int .u64 11400714819323198485)=some (.int .u64 (qiz a b)):=by simp[qiz]
theorem qkD (a b:Int):qen .quo (.int .u64 (qiz a b)) (.int .u64 4294967296)=some (.int .u64 ((qiz a b).tdiv 4294967296)):=by simp[qkC _ (qe8 a b)]
theorem qkE (a b:Int):qen .shr (.int .u64 (qiz a b)) (.int .u64 32)=some (.int .u64 ((qiz a b).tdiv 4294967296)):=by simp[qmb _ (qe8 a b)]
def F80K (K Q:Int):PFun:=⟨2,[.tmp 4],
 .seq (.region none [⟨some 4,.mov (.c (.int .u64 0)),none,[]⟩] [0,1])
 (.seq (.region none [⟨some 6,.mov (.t 0),none,[]⟩,
  ⟨some 7,.mov (.t 1),none,[]⟩,
  ⟨some 8,.bin .xor (.t 6) (.t 7),none,[]⟩,
  ⟨some 9,.bin .mul (.t 8) (.c (.int .u64 K)),none,[]⟩,
  ⟨some 5,.mov (.t 9),none,[]⟩] [5])
 (.seq (.region none [⟨some 10,.mov (.t 5),none,[]⟩,
  ⟨some 11,.mov (.t 5),none,[]⟩,
  ⟨some 12,.bin .quo (.t 11) (.c (.int .u64 Q)),none,[]⟩,
  ⟨some 13,.bin .xor (.t 10) (.t 12),none,[]⟩,
  ⟨some 4,.mov (.t 13),none,[]⟩] [4])
 (.ret))),false,false,false⟩
theorem qkF (C:Task->Option Res) {K Q s w x m z y:Int} (h1:qen .xor (.int .u64 s) (.int .u64 w)=some (.int .u64 x)) (h2:qen .mul (.int .u64 x) (.int .u64 K)=some (.int .u64 m)) (h3:qen .quo (.int .u64 m) (.int .u64 Q)=some (.int .u64 z)) (h4:qen .xor (.int .u64 m) (.int .u64 z)=some (.int .u64 y)) :
  qaX C (F80K K Q) [.dat (.lit (.int .u64 s)),.dat (.lit (.int .u64 w))] []=some (.ret (.dat (.lit (.int .u64 y))) []):=by
 simp[F80K,-qen,h1,h2,h3,h4]
theorem F80_K:F80=F80K 11400714819323198485 4294967296:=rfl
theorem qgj {prog:Nat->Option PFun} (h80:prog 80=some F80) (s w:Int):Z prog (.call 80 [.dat (.lit (.int .u64 s)),.dat (.lit (.int .u64 w))] [])=some (.ret (.dat (.lit (.int .u64 (qc6 s w)))) []):=by
 refine qaz h80 rfl ?_
 rw[qiA,F80_K]
 exact qkF _ (qfK s w) (qiB s w) (qkD s w) (qfK _ _)
def F111K (K Q:Int):PFun:=⟨2,[.tmp 4],
 .seq (.region none [⟨some 4,.mov (.c (.int .u64 0)),none,[]⟩] [0,1])
 (.seq (.region none [⟨some 6,.mov (.t 0),none,[]⟩,
  ⟨some 7,.mov (.t 1),none,[]⟩,
  ⟨some 8,.bin .xor (.t 6) (.t 7),none,[]⟩,
  ⟨some 9,.bin .mul (.t 8) (.c (.int .u64 K)),none,[]⟩,
  ⟨some 5,.mov (.t 9),none,[]⟩] [5])
 (.seq (.region none [⟨some 10,.mov (.t 5),none,[]⟩,
  ⟨some 11,.mov (.t 5),none,[]⟩,
  ⟨some 12,.bin .shr (.t 11) (.c (.int .u64 Q)),none,[]⟩,
  ⟨some 13,.bin .xor (.t 10) (.t 12),none,[]⟩,
  ⟨some 4,.mov (.t 13),none,[]⟩] [4])
 (.ret))),false,false,false⟩
theorem qjp (C:Task->Option Res) {K Q s w x m z y:Int} (h1:qen .xor (.int .u64 s) (.int .u64 w)=some (.int .u64 x)) (h2:qen .mul (.int .u64 x) (.int .u64 K)=some (.int .u64 m)) (h3:qen .shr (.int .u64 m) (.int .u64 Q)=some (.int .u64 z)) (h4:qen .xor (.int .u64 m) (.int .u64 z)=some (.int .u64 y)) :
  qaX C (F111K K Q) [.dat (.lit (.int .u64 s)),.dat (.lit (.int .u64 w))] []=some (.ret (.dat (.lit (.int .u64 y))) []):=by
 simp[F111K,-qen,h1,h2,h3,h4]
theorem F111_K:F111=F111K 11400714819323198485 32:=rfl
theorem qhk {prog:Nat->Option PFun} (h111:prog 111=some F111) (s w:Int):Z prog (.call 111 [.dat (.lit (.int .u64 s)),.dat (.lit (.int .u64 w))] [])=some (.ret (.dat (.lit (.int .u64 (qc6 s w)))) []):=by
 refine qaz h111 rfl ?_
 rw[qiA,F111_K]
 exact qjp _ (qfK s w) (qiB s w) (qkE s w) (qfK _ _)
def foldI (B:Int) (ws:List Int):Int:=ws.foldl (fun s w=>qc6 s (IntKind.u64.wrap w)) B
def sumI (B:Int) (ws:List Int):Int:=qc6 (foldI B ws) 0
theorem qe9 {B:Int} {ws:List Int} {i:Nat} (h:i<ws.length):qc6 (foldI B (ws.take i)) (IntKind.u64.wrap ws[i])=foldI B (ws.take (i+1)):=by
 unfold foldI
 rw[List.take_succ_eq_append_getElem h,List.foldl_append]
 rfl
section
variable {prog:Nat->Option PFun} (h111:prog 111=some F111)
include h111
theorem qjO {ws:List Int} {B:Int} (hl:ws.length<=100000) : ∀ (k i:Nat),i+k=ws.length -> ∃ fr,Z prog (.loop 0 F109l0 [(5,.dat (.lit (.int .u64 (foldI B (ws.take i))))),(12,.dat (.sl (intsC ws) ws.length false)),(13,.int ws.length),(14,.int i)] []) =
  some (.out (.exit 0) ((5,.dat (.lit (.int .u64 (foldI B ws))))::fr) [])
 | 0,i,h=>by
  obtain rfl:i=ws.length:=by omega
  rw[List.take_length]
  exact⟨_,by rw[qad]; simp[qag,qe2,List.range_succ]; rfl⟩
 | k+1,i,h=>by
  have hi:i<ws.length:=by omega
  obtain⟨fr,e⟩:=qjO hl k (i+1) (by omega)
  refine⟨fr,?_⟩
  rw[<- e]
  have m:=qhk h111 (foldI B (ws.take i)) (IntKind.u64.wrap ws[i])
  rw[qe9 hi] at m
  have hc:qae (intsC ws) i 1=some [.lit (.int .i64 ws[i])]:=by
   unfold qae intsC
   rw[<- List.map_drop,List.drop_eq_getElem_cons hi,List.map_cons]
   rfl
  have w1:IntKind.i64.wrap ((i:Int)+1)=((i+1:Nat):Int):=by rw[qar _ (by omega)]; omega
  have hlt:(i:Int)<ws.length:=by omega
  generalize ((i+1:Nat):Int)=i1 at *
  generalize foldI B (ws.take i)=s0 at *
  generalize foldI B (ws.take (i+1))=s1 at *
  generalize ws[i]=w at *
  generalize intsC ws=C at *
  generalize ws.length=n at *
  conv=>lhs; rw[qad]
  simp[qag,qe2,V.len,qac,hlt,hi,hc,w1,m,List.range_succ]
theorem qjP (h109:prog 109=some F109) {s:ByteArray} {ws:List Int} {B:Int} (hl:ws.length<=100000) (hB:Z prog (.call 110 [.str s,.int ws.length] [])=some (.ret (.dat (.lit (.int .u64 B))) [])) :
  Z prog (.call 109 [.str s,.dat (.sl (intsC ws) ws.length false)] [])=some (.ret (.dat (.lit (.int .u64 (sumI B ws)))) []):=by
 obtain⟨fr,e⟩:=qjO h111 (B:=B) hl ws.length 0 (by omega)
 have m:=qhk h111 (foldI B ws) 0
 rw[show qc6 (foldI B ws) 0=sumI B ws from rfl] at m
 rw[List.take_zero,show foldI B []=B from rfl,show ((0:Nat):Int)=0 from rfl] at e
 refine qaz h109 rfl ?_
 generalize foldI B ws=s1 at *
 generalize sumI B ws=s2 at *
 generalize intsC ws=C at *
 generalize ws.length=n at *
 simp[F109,V.len,hB,e,m,List.range_succ]
end
def tH:Nat->Option PFun
 | 70=>some F70 | 79=>some F79 | 80=>some F80 | 109=>some F109 | 110=>some F110 | 111=>some F111 | 112=>some F112 | 113=>some F113
 | _=>none
def qgO:ByteArray:=⟨#[98,111,111,107]⟩
def qiT:ByteArray:=⟨#[112,114,111,103,114,97,109]⟩
def qeC (s:ByteArray) (n W:Int):S:=[.loop { fr:=[(0,.str s),(1,.int n),(5,.ptr 2 0),(8,.fn 113 [] [.ptr 1 0])],ps:=[9],assign:=F110a0,body:=F110b0,st:=0,pend:=none },.cells [.str s],.cells [.dat (.lit (.int .u64 W))]]
theorem qjq (n:Int):Z tH (.call 113 [.yld 0,.ptr 1 0] (qeC qgO n 0))=some (.ret (.tup []) (qeC qgO n 17196531580303950166)):=qcW (n:=40) (by kernel_rfl)
theorem qjr (n:Int):Z tH (.call 113 [.yld 0,.ptr 1 0] (qeC qiT n 0))=some (.ret (.tup []) (qeC qiT n (qc6 0 30787916450984560))):=qcW (n:=40) (by kernel_rfl)
theorem qhG:Z tH (.call 79 [.dat (.sl (qbQ qgO) 4 false)] [])=some (.ret (.dat (.sl [.lit (.int .u64 1802465122)] 1 false)) []):=qcW (n:=40) (by kernel_rfl)
theorem qiC:Z tH (.call 79 [.dat (.sl (qbQ qiT) 7 false)] [])=some (.ret (.dat (.sl [.lit (.int .u64 30787916450984560)] 1 false)) []):=qcW (n:=40) (by kernel_rfl)
section
variable {prog:Nat->Option PFun} (hH : ∀ k pf,tH k=some pf->prog k=some pf)
include hH
theorem qiD {s:ByteArray} {n W x y:Int} (hw:Z prog (.call 113 [.yld 0,.ptr 1 0] (qeC s n 0))=some (.ret (.tup []) (qeC s n W))) {m:Nat} (hm:s.size=m) (hx:qc6 W (IntKind.u64.wrap m)=x) (hy:qc6 x (IntKind.u64.wrap n)=y) :
  Z prog (.call 110 [.str s,.int n] [])=some (.ret (.dat (.lit (.int .u64 y))) []):=by
 have z112:Z prog (.call 112 [.str s] [])=some (.ret (.fn 113 [] [.ptr 0 0]) [.cells [.str s]]):=by
  refine qaz (hH 112 F112 rfl) rfl ?_
  simp[F112,List.range_succ]
 have m1:=qhk (hH 111 F111 rfl) W (IntKind.u64.wrap m)
 have m2:=qhk (hH 111 F111 rfl) x (IntKind.u64.wrap n)
 rw[hx] at m1
 rw[hy] at m2
 unfold qeC at hw
 refine qaz (hH 110 F110 rfl) rfl ?_
 simp[F110,z112,hw,m1,m2,hm,V.len,List.range_succ]
theorem qjQ {ws:List Int} {B:Int} {f:Bool} (hl:ws.length<=100000) : ∀ (k i:Nat),i+k=ws.length -> ∃ fr,Z prog (.loop 0 F70l1 [(1,.dat (.sl (intsC ws) ws.length f)),(5,.dat (.lit (.int .u64 (foldI B (ws.take i))))),(8,.int i)] []) =
  some (.out (.exit 2) ((1,.dat (.sl (intsC ws) ws.length f))::(5,.dat (.lit (.int .u64 (foldI B ws))))::fr) [])
 | 0,i,h=>by
  obtain rfl:i=ws.length:=by omega
  rw[List.take_length]
  exact⟨_,by rw[qad]; simp[qag,qgd,V.len,List.range_succ]; rfl⟩
 | k+1,i,h=>by
  have hi:i<ws.length:=by omega
  obtain⟨fr,e⟩:=qjQ (f:=f) hl k (i+1) (by omega)
  refine⟨fr,?_⟩
  rw[<- e]
  have m:=qgj (hH 80 F80 rfl) (foldI B (ws.take i)) (IntKind.u64.wrap ws[i])
  rw[qe9 hi] at m
  have hc:qae (intsC ws) i 1=some [.lit (.int .i64 ws[i])]:=by
   unfold qae intsC
   rw[<- List.map_drop,List.drop_eq_getElem_cons hi,List.map_cons]
   rfl
  have w1:IntKind.i64.wrap ((i:Int)+1)=((i+1:Nat):Int):=by rw[qar _ (by omega)]; omega
  have hlt:(i:Int)<ws.length:=by omega
  generalize ((i+1:Nat):Int)=i1 at *
  generalize foldI B (ws.take i)=s0 at *
  generalize foldI B (ws.take (i+1))=s1 at *
  generalize ws[i]=w at *
  generalize intsC ws=C at *
  generalize ws.length=n at *
  conv=>lhs; rw[qad]
  simp[qag,qgd,V.len,qac,hlt,hi,hc,w1,m,List.range_succ]
theorem qiE {s:ByteArray} {ws:List Int} {W x y z:Int} {f:Bool} {m:Nat} (hm:s.size=m) (hmm:m<=100) (hl:ws.length<=100000) (hw:Z prog (.call 79 [.dat (.sl (qbQ s) m false)] [])=some (.ret (.dat (.sl [.lit (.int .u64 W)] 1 false)) [])) (hz:qc6 0 W=z) (hx:qc6 z (IntKind.u64.wrap m)=x) (hy:qc6 x (IntKind.u64.wrap ws.length)=y) :
  Z prog (.call 70 [.str s,.dat (.sl (intsC ws) ws.length f)] [])=some (.ret (.dat (.lit (.int .u64 (sumI y ws)))) []):=by
 have m0:=qgj (hH 80 F80 rfl) 0 W
 have m1:=qgj (hH 80 F80 rfl) z (IntKind.u64.wrap m)
 have m2:=qgj (hH 80 F80 rfl) x (IntKind.u64.wrap ws.length)
 have m3:=qgj (hH 80 F80 rfl) (foldI y ws) 0
 rw[hz] at m0
 rw[hx] at m1
 rw[hy] at m2
 rw[show qc6 (foldI y ws) 0=sumI y ws from rfl] at m3
 obtain⟨fr,e⟩:=qjQ hH (B:=y) (f:=f) hl ws.length 0 (by omega)
 rw[List.take_zero,show foldI y []=y from rfl,show ((0:Nat):Int)=0 from rfl] at e
 refine qaz (hH 70 F70 rfl) rfl ?_
 generalize foldI y ws=s1 at *
 generalize sumI y ws=s2 at *
 generalize intsC ws=C at *
 generalize ws.length=n at *
 have e1:Z prog (.loop 0 F70l0 [(0,.str s),(1,.dat (.sl C n f)),(5,.dat (.lit (.int .u64 z))),(6,.dat (.sl [.lit (.int .u64 W)] 1 false)),(7,.int 1)] [])=some (.out (.exit 0) [(0,.str s),(1,.dat (.sl C n f)),(5,.dat (.lit (.int .u64 z))),(6,.dat (.sl [.lit (.int .u64 W)] 1 false)),(7,.int 1),(15,.bool false)] []):=by
  rw[qad]
  simp[qgc,qag,V.len,List.range_succ]
  done
 have e0:Z prog (.loop 0 F70l0 [(0,.str s),(1,.dat (.sl C n f)),(5,.dat (.lit (.int .u64 0))),(6,.dat (.sl [.lit (.int .u64 W)] 1 false)),(7,.int 0)] [])=some (.out (.exit 0) [(0,.str s),(1,.dat (.sl C n f)),(5,.dat (.lit (.int .u64 z))),(6,.dat (.sl [.lit (.int .u64 W)] 1 false)),(7,.int 1),(15,.bool false)] []):=by
  rw[<- e1]
  conv=>lhs; rw[qad]
  simp[qgc,qag,V.len,qac,qar,m0,List.range_succ]
  done
 have hm1:(m:Int)<=1099511627776:=by omega
 simp[F70,V.len,qac,hm,hm1,hw,e,e0,m1,m2,m3,List.range_succ]
end
end Go.Pm
end SZg
section SZh
namespace Go.Pm
open F
set_option maxHeartbeats 4000000
def hwD (a b e:Int) (l:List Int) (i:Nat):List V:=(intsC ([a,b,e]++l.take (2*i))).map .dat
theorem qkk {a b e:Int} {l:List Int} {i:Nat} (h:2*i<=l.length):(hwD a b e l i).length=3+2*i:=by simp[hwD,intsC]; omega
theorem qkl {a b e:Int} {l:List Int} {i:Nat} (h:2*i+1<l.length):hwD a b e l i++[.int l[2*i],.int l[2*i+1]]=hwD a b e l (i+1):=by
 have e1:l.take (2*(i+1))=l.take (2*i)++[l[2*i],l[2*i+1]]:=by
  rw[show 2*(i+1)=2*i+1+1 by omega,List.take_succ_eq_append_getElem h,List.take_succ_eq_append_getElem (by omega),List.append_assoc]
  rfl
 unfold hwD
 rw[e1]
 simp[intsC]
theorem qhc {l:List Int} {i:Nat} (h:2*i+1<l.length):qae (intsC l) (i*2) 2=some [.lit (.int .i64 l[2*i]),.lit (.int .i64 l[2*i+1])]:=by
 unfold qae intsC
 rw[<- List.map_drop,show i*2=2*i by omega,List.drop_eq_getElem_cons (by omega),List.drop_eq_getElem_cons h]
 rfl
theorem qea (a b e:Int) (l:List Int) (i:Nat):qal (hwD a b e l i)=[]:=by
 have h : ∀ (l:List V),(∀ v∈l,v.locs=[])->qal l=[]:=by
  intro l
  induction l with
  | nil=>intro _; rfl
  | cons v l ih=>intro h; simp[qal,h v (by simp),ih fun u hu=>h u (by simp[hu])]
 refine h _ fun v hv=>?_
 obtain⟨x,_,rfl⟩:=List.mem_map.1 hv
 rfl
theorem qfC (r:Nat->Nat) (a b e:Int) (l:List Int) (i:Nat):qbI r (hwD a b e l i)=hwD a b e l i:=by
 have h : ∀ (l:List V),(∀ v∈l,v.ren r=v)->qbI r l=l:=by
  intro l
  induction l with
  | nil=>intro _; rfl
  | cons v l ih=>intro h; simp[qbI,h v (by simp),ih fun u hu=>h u (by simp[hu])]
 refine h _ fun v hv=>?_
 obtain⟨x,_,rfl⟩:=List.mem_map.1 hv
 rfl
section
variable {prog:Nat->Option PFun} (hH : ∀ k pf,tH k=some pf->prog k=some pf) (h353:prog 353=some F353)
theorem ql1 {l:List Int} {n:Nat} {a b e:Int} (hn:l.length=2*n) (hl:n<=10000) : ∀ (k i:Nat),i+k=n -> ∃ fr,Z prog (.loop 0 F353l0 [(3,.own 0 (3+2*i) 1),(17,.dat (.sl (intsC l) n false)),(18,.int n),(19,.int i)] [.vec (hwD a b e l i)]) =
  some (.out (.exit 0) ((3,.own 0 (3+2*n) 1)::fr) [.vec (hwD a b e l n)])
 | 0,i,h=>by
  obtain rfl:i=n:=by omega
  have l1:=qea a b e l i
  have r1:=fun r=>qfC r a b e l i
  exact⟨_,by rw[qad]; simp[qag,qdA,V.len,l1,r1,List.range_succ]; rfl⟩
 | k+1,i,h=>by
  have hi:2*i+1<l.length:=by omega
  obtain⟨fr,z⟩:=ql1 (a:=a) (b:=b) (e:=e) hn hl k (i+1) (by omega)
  refine⟨fr,?_⟩
  rw[<- z]
  have hc:=qhc hi
  have hw:=qkl (a:=a) (b:=b) (e:=e) hi
  have w1:IntKind.i64.wrap ((i:Int)+1)=((i+1:Nat):Int):=by rw[qar _ (by omega)]; omega
  have hlt:(i:Int)<n:=by omega
  have hin:i<n:=by omega
  have hl1:=qkk (a:=a) (b:=b) (e:=e) (l:=l) (i:=i) (by omega)
  have l1:=qea a b e l i
  have r1:=fun r=>qfC r a b e l i
  have l2:=qea a b e l (i+1)
  have r2:=fun r=>qfC r a b e l (i+1)
  have e3:3+2*(i+1)=3+2*i+2:=by omega
  have rm:qaj (3+2*i+2) 8:=by simp[qaj]; omega
  rw[e3]
  generalize ((i+1:Nat):Int)=i1 at *
  generalize l[2*i]=x at *
  generalize l[2*i+1]=y at *
  generalize hwD a b e l i=W at *
  generalize hwD a b e l (i+1)=W' at *
  generalize intsC l=C at *
  generalize 3+2*i=m at *
  conv=>lhs; rw[qad]
  simp[qag,qdA,V.len,qac,hlt,hin,hc,w1,hl1,hw,l1,r1,l2,r2,rm,List.range_succ]
  all_goals exact qaO (by simp[gcF,l1,l2,r1,r2,List.range_succ])
include hH h353
theorem qje {l:List Int} {n:Nat} {a b e:Int} (hn:l.length=2*n) (hl:n<=10000) {y:Int} (hy:qc6 (qc6 (qc6 0 30787916450984560) 7) (IntKind.u64.wrap ((3+2*n:Nat):Int))=y) :
  Z prog (.call 353 [.dat (.agg [qeI l,.lit (.int .i64 a),.lit (.int .i64 b),.lit (.int .i64 e)])] [])=some (.ret (.dat (.lit (.int .u64 (sumI y ([a,b,e]++l))))) []):=by
 have hlen:([a,b,e]++l).length=3+2*n:=by simp; omega
 have z:=qjP (hH 111 F111 rfl) (hH 109 F109 rfl) (s:=qiT) (ws:=[a,b,e]++l) (B:=y) (by omega) (qiD hH (qcP hH (qjr _)) (m:=7) rfl rfl (by rw[hlen]; exact hy))
 rw[hlen] at z
 have hd:=qcJ (intsC ([a,b,e]++l))
 have hl1:(intsC ([a,b,e]++l)).length=3+2*n:=by simp[intsC]; omega
 have hone:((intsC ([a,b,e]++l)).all fun d=>V.one (.dat d))=true:=by simp[intsC]
 obtain⟨fr,zl⟩:=ql1 (prog:=prog) (a:=a) (b:=b) (e:=e) hn hl n 0 (by omega)
 have l1:=qea a b e l n
 have r1:=fun r=>qfC r a b e l n
 have hall:hwD a b e l n=(intsC ([a,b,e]++l)).map .dat:=by unfold hwD; rw[List.take_of_length_le (by omega)]
 have h0:hwD a b e l 0=[.int a,.int b,.int e]:=by simp[hwD,intsC]
 have w1:IntKind.i64.wrap (2*(n:Int))=((2*n:Nat):Int):=by rw[qar _ (by omega)]; omega
 have w2:IntKind.i64.wrap (3+((2*n:Nat):Int))=((3+2*n:Nat):Int):=by rw[qar _ (by omega)]; omega
 have c1:((3+2*n:Nat):Int)<=1099511627776:=by omega
 have c2:(8:Int)*((3+2*n:Nat):Int)<=281474976710656:=by omega
 have c3:(0:Int)<=((3+2*n:Nat):Int):=by omega
 rw[h0,show ((0:Nat):Int)=0 from rfl] at zl
 rw[hall] at zl l1 r1
 refine qaz h353 rfl ?_
 unfold qiT at z
 cases l with
 | nil=>
  obtain rfl:n=0:=by simp at hn; omega
  simp only[qeI,intsC,List.map_nil,List.append_nil,List.map_cons,Nat.mul_zero,Nat.add_zero] at z ⊢
  generalize sumI y [a,b,e]=s1 at *
  have z0:Z prog (.loop 0 F353l0 [(3,.own 0 3 1),(17,.dat (.lit (.slice none 0 0))),(18,.int 0),(19,.int 0)] [.vec [.int a,.int b,.int e]])=some (.out (.exit 0) [(3,.own 0 3 1),(17,.dat (.lit (.slice none 0 0))),(18,.int 0),(19,.int 0),(20,.bool false)] [.vec [.int a,.int b,.int e]]):=by
   rw[qad]
   simp[qdA,qag,List.range_succ]
  have z1:Z prog (.loop 0 F353l0 [(3,.own 1 3 1),(17,.dat (.lit (.slice none 0 0))),(18,.int 0),(19,.int 0)] [.cells [.dat (.lit (.slice none 0 0)),.int a,.int b,.int e],.vec [.int a,.int b,.int e]])=_:=(qaO (by simp[gcF,List.range_succ])).trans z0
  simp[F353,V.len,qac,bound,qar,z,z1,qaj,qbD,List.range_succ]
  done
 | cons x l=>
  have hq:(x::l).length / 2=n:=by omega
  simp only[qeI,hq] at zl ⊢
  simp only[Nat.mul_zero,Nat.add_zero] at zl
  generalize sumI y ([a,b,e]++x::l)=s1 at *
  generalize ((3+2*n:Nat):Int)=mI at *
  generalize 3+2*n=m at *
  generalize ((2*n:Nat):Int)=nI at *
  generalize intsC (x::l)=C at *
  generalize intsC ([a,b,e]++x::l)=C' at *
  have z1:Z prog (.loop 0 F353l0 [(3,.own 1 3 1),(17,.dat (.sl C n false)),(18,.int n),(19,.int 0)] [.cells [.dat (.sl C n false),.int a,.int b,.int e],.vec [.int a,.int b,.int e]])=_:=(qaO (by simp[gcF,List.range_succ])).trans zl
  simp[F353,V.len,qac,bound,z1,w1,w2,c1,c2,c3,z,zl,l1,r1,hd,hl1,hone,qaj,qbD,List.range_succ]
  done
end
end Go.Pm
end SZh
section SZi
namespace Go.Pm
open F
set_option maxHeartbeats 4000000
def rwD (a b e:Int) (l:List Int) (i:Nat):List D:=intsC ([a,b,e]++l.take (2*i))
theorem qfO {a b e:Int} {l:List Int} {i:Nat} (h:2*i<=l.length):(rwD a b e l i).length=3+2*i:=by simp[rwD,intsC]; omega
theorem qiO {a b e:Int} {l:List Int} {i:Nat} (h:2*i+1<l.length):rwD a b e l i++[.lit (.int .i64 l[2*i])]++[.lit (.int .i64 l[2*i+1])]=rwD a b e l (i+1):=by
 have e1:l.take (2*(i+1))=l.take (2*i)++[l[2*i],l[2*i+1]]:=by
  rw[show 2*(i+1)=2*i+1+1 by omega,List.take_succ_eq_append_getElem h,List.take_succ_eq_append_getElem (by omega),List.append_assoc]
  rfl
 unfold rwD
 rw[e1]
 simp[intsC]
theorem qjR {l:List Int} {i:Nat} (h:2*i+1<l.length):qae (intsC l) (i*2) 1=some [.lit (.int .i64 l[2*i])]:=by
 unfold qae intsC
 rw[<- List.map_drop,show i*2=2*i by omega,List.drop_eq_getElem_cons (by omega)]
 rfl
theorem qjS {l:List Int} {i:Nat} (h:2*i+1<l.length):qae (intsC l) (i*2+1) 1=some [.lit (.int .i64 l[2*i+1])]:=by
 unfold qae intsC
 rw[<- List.map_drop,show i*2=2*i by omega,List.drop_eq_getElem_cons (by omega)]
 rfl
section
variable {prog:Nat->Option PFun}
theorem qkW {l:List Int} {n i:Nat} {a b e:Int} (hn:l.length=2*n) (hl:n<=10000) (h:i<n) (h0:0<i) :
  Z prog (.loop 0 F349l0 [(1,.ptr 0 0),(3,.gsl (rwD a b e l i) (3+2*i) 1 1),(4,.int i)] [.cells [.dat (.sl (intsC l) n false),.int a,.int b,.int e],.tip (3+2*i)]) =
  Z prog (.loop 0 F349l0 [(1,.ptr 0 0),(3,.gsl (rwD a b e l (i+1)) (3+2*(i+1)) 1 1),(4,.int (i+1:Nat))] [.cells [.dat (.sl (intsC l) n false),.int a,.int b,.int e],.tip (3+2*(i+1))]):=by
 have hi:2*i+1<l.length:=by omega
 have h1:=qjR hi
 have h2:=qjS hi
 have hw:=qiO (a:=a) (b:=b) (e:=e) hi
 have w1:IntKind.i64.wrap ((i:Int)+1)=((i+1:Nat):Int):=by rw[qar _ (by omega)]; omega
 have hlt:(i:Int)<n:=by omega
 have hl1:=qfO (a:=a) (b:=b) (e:=e) (l:=l) (i:=i) (by omega)
 have hl2:=qfO (a:=a) (b:=b) (e:=e) (l:=l) (i:=i+1) (by omega)
 have e3:3+2*(i+1)=3+2*i+1+1:=by omega
 have rm1:qaj (3+2*i+1) 8:=by simp[qaj]; omega
 have rm2:qaj (3+2*i+1+1) 8:=by simp[qaj]; omega
 rw[e3] at hl2 ⊢
 generalize ((i+1:Nat):Int)=i1 at *
 generalize l[2*i]=x at *
 generalize l[2*i+1]=y at *
 generalize rwD a b e l i=W at *
 generalize rwD a b e l (i+1)=W' at *
 generalize intsC l=C at *
 generalize 3+2*i=m at *
 subst hw
 conv=>lhs; rw[qad]
 simp[qag,qcF,V.len,qac,qa2,qgs,hlt,h,h1,h2,w1,hl1,hl2,rm1,rm2,List.range_succ]
theorem qkX {l:List Int} {n:Nat} {a b e:Int} (hn:l.length=2*n) (hl:n<=10000) (h:0<n) :
  Z prog (.loop 0 F349l0 [(1,.ptr 0 0),(3,.dat (.sl (rwD a b e l 0) 3 true)),(4,.int 0)] [.cells [.dat (.sl (intsC l) n false),.int a,.int b,.int e]]) =
  Z prog (.loop 0 F349l0 [(1,.ptr 0 0),(3,.gsl (rwD a b e l 1) 5 1 1),(4,.int 1)] [.cells [.dat (.sl (intsC l) n false),.int a,.int b,.int e],.tip 5]):=by
 have hi:2*0+1<l.length:=by omega
 have h1:=qjR hi
 have h2:=qjS hi
 have hw:=qiO (a:=a) (b:=b) (e:=e) hi
 have hlt:(0:Int)<n:=by omega
 have hl1:=qfO (a:=a) (b:=b) (e:=e) (l:=l) (i:=0) (by omega)
 have hl2:=qfO (a:=a) (b:=b) (e:=e) (l:=l) (i:=1) (by omega)
 simp only[Nat.zero_mul,Nat.zero_add,Nat.mul_zero,Nat.reduceAdd,Nat.mul_one] at h1 h2 hw hl1 hl2
 generalize l[0]=x at *
 generalize l[1]=y at *
 generalize rwD a b e l 0=W at *
 generalize rwD a b e l 1=W' at *
 generalize intsC l=C at *
 subst hw
 conv=>lhs; rw[qad]
 simp[qag,qcF,V.len,qac,qa2,qgs,qaj,qar,hlt,h,h1,h2,hl1,hl2,List.range_succ]
theorem qiP {l:List Int} {n:Nat} {a b e:Int} (hn:l.length=2*n) (hl:n<=10000) : ∀ (k i:Nat),i+k=n->0<i->Z prog (.loop 0 F349l0 [(1,.ptr 0 0),(3,.gsl (rwD a b e l i) (3+2*i) 1 1),(4,.int i)] [.cells [.dat (.sl (intsC l) n false),.int a,.int b,.int e],.tip (3+2*i)]) =
  some (.out (.exit 0) [(1,.ptr 0 0),(3,.gsl (rwD a b e l n) (3+2*n) 1 1),(4,.int n),(19,.bool false)] [.cells [.dat (.sl (intsC l) n false),.int a,.int b,.int e],.tip (3+2*n)])
 | 0,i,h,h0=>by
  obtain rfl:i=n:=by omega
  rw[qad]
  simp[qag,qcF,V.len,List.range_succ]
 | k+1,i,h,h0=>by
  rw[qkW hn hl (by omega) h0]
  exact qiP hn hl k (i+1) (by omega) (by omega)
theorem qkY (hH : ∀ k pf,tH k=some pf->prog k=some pf) (h349:prog 349=some F349) {l:List Int} {n:Nat} {a b e:Int} (hn:l.length=2*n) (hl:n<=10000) {y:Int} (hy:qc6 (qc6 (qc6 0 30787916450984560) 7) (IntKind.u64.wrap ((3+2*n:Nat):Int))=y) :
  Z prog (.call 349 [.dat (.agg [qeI l,.lit (.int .i64 a),.lit (.int .i64 b),.lit (.int .i64 e)])] [])=some (.ret (.int (IntKind.i64.wrap (sumI y ([a,b,e]++l)))) []):=by
 have hlen:([a,b,e]++l).length=3+2*n:=by simp; omega
 have hw7:Z prog (.call 79 [.dat (.sl (qbQ qiT) 7 false)] [])=_:=qcP hH qiC
 cases l with
 | nil=>
  obtain rfl:n=0:=by simp at hn; omega
  have z:=qiE hH (s:=qiT) (ws:=[a,b,e]) (y:=y) (f:=true) (m:=7) rfl (by omega) (by simp) hw7 rfl rfl hy
  simp only[qeI,intsC,List.map_nil,List.append_nil,List.map_cons,Nat.mul_zero,Nat.add_zero,List.length_cons,List.length_nil,Nat.zero_add,Nat.reduceAdd] at z ⊢
  unfold qiT at z
  generalize sumI y [a,b,e]=s1 at *
  have z0:Z prog (.loop 0 F349l0 [(1,.ptr 0 0),(3,.dat (.sl [.lit (.int .i64 a),.lit (.int .i64 b),.lit (.int .i64 e)] 3 true)),(4,.int 0)] [.cells [.dat (.lit (.slice none 0 0)),.int a,.int b,.int e]])=some (.out (.exit 0) [(1,.ptr 0 0),(3,.dat (.sl [.lit (.int .i64 a),.lit (.int .i64 b),.lit (.int .i64 e)] 3 true)),(4,.int 0),(19,.bool false)] [.cells [.dat (.lit (.slice none 0 0)),.int a,.int b,.int e]]):=by
   rw[qad]
   simp[qcF,qag,V.len,List.range_succ]
  refine qaz h349 rfl ?_
  simp[F349,V.len,qac,z,z0,List.range_succ]
  done
 | cons x l=>
  have hn1:0<n:=by simp at hn; omega
  have hq:(x::l).length / 2=n:=by omega
  have z:=qiE hH (s:=qiT) (ws:=[a,b,e]++x::l) (y:=y) (f:=false) (m:=7) rfl (by omega) (by omega) hw7 rfl rfl (by rw[hlen]; exact hy)
  rw[hlen] at z
  unfold qiT at z
  have zl:=(qkX (prog:=prog) (a:=a) (b:=b) (e:=e) hn hl hn1).trans (qiP hn hl (n-1) 1 (by omega) (by omega))
  have hall:rwD a b e (x::l) n=intsC ([a,b,e]++x::l):=by unfold rwD; rw[List.take_of_length_le (by omega)]
  have h0:rwD a b e (x::l) 0=[.lit (.int .i64 a),.lit (.int .i64 b),.lit (.int .i64 e)]:=by simp[rwD,intsC]
  rw[hall,h0] at zl
  simp only[qeI,hq] at zl ⊢
  have hl1:(intsC ([a,b,e]++x::l)).length=3+2*n:=by simp[intsC] at hn ⊢; omega
  generalize sumI y ([a,b,e]++x::l)=s1 at *
  generalize 3+2*n=m at *
  generalize intsC (x::l)=C at *
  generalize intsC ([a,b,e]++x::l)=C' at *
  refine qaz h349 rfl ?_
  simp[F349,V.len,qac,z,zl,hl1,List.range_succ]
  done
end
end Go.Pm
end SZi
