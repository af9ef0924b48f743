/- Chapter 13's law ParserPrecedence. The abstract machine's programs: tables of functions. Chapter 13's laws, over the whole table. Chapter 13's law ParserTail, over the whole table. Chapter 13's law ParserPrecedence, over the whole table. -/
import Derived.Test.YtjdbkncfebebnaaDoorPmKx
import Derived.Test.YtjdbkncfebebnaaDoorPmFx
import Derived.Test.YtjdbkncfebebnaaDoorPmYh
import Derived.Test.YtjdbkncfebebnaaDoorPmF3
import Derived.Test.YtjdbkncfebebnaaDoorPmG1
import Derived.Test.YtjdbkncfebebnaaDoorPmSb
import Derived.KernelRfl
set_option linter.unusedSimpArgs false
set_option linter.unusedVariables false
section SWb
namespace Go.Pm
open F
set_option maxHeartbeats 8000000
def preS:ByteArray:=⟨#[111,110,32,104,105,116,123,118,61]⟩
def postS:ByteArray:=⟨#[59,125]⟩
section
variable {prog:Nat->Option PFun} (H:HasD prog) (hsf:Sub tSf prog)
include H hsf
theorem qnl {e:E} (hg:e.good) (hn : ∀ full,e.nest full 1<=19) (hc : ∀ full,(qay false (e.tx full 1)).length<=1000) (hsz:e.size<=1000) :
  ∃ (TF TN:ByteArray) (K N:Int) (S:ByteArray) (fl:Bool) (ks:Fo),TF.size<=1000/\TN.size<=1000 /\
   Z prog (.call 233 [e.node] [])=some (.ret (.str TF) [])/\Z prog (.call 234 [e.node] [])=some (.ret (.str TN) []) /\
   (∀ T,T=TF\/T=TN->Z prog (.call 228 [.str (preS++T++postS)] [])=some (.ret (.tup [.dat (ru Hd.none.nd Hd.none.nd ⟨7,0,⟨#[]⟩,false,.cons 1 0 ⟨#[118]⟩ true (.cons K N S fl ks .nil) .nil⟩),.int 0,.int 0]) [])) /\
   ks.size<=1000/\Z prog (.call 235 [nd K N S fl ks,e.node] [])=some (.ret (.bool true) []):=by
 have hfull : ∀ full,Z prog (.call 228 [.str (preS++bs (qay false (e.tx full 1))++postS)] [])=some (.ret (.tup [.dat (ru Hd.none.nd Hd.none.nd ⟨7,0,⟨#[]⟩,false,.cons 1 0 ⟨#[118]⟩ true ((e.fl true).fo .nil) .nil⟩),.int 0,.int 0]) []):=fun full=>by
  have hl:=hc full
  have he:preS++bs (qay false (e.tx full 1))++postS=bs (qay false (qh8 full e)):=by
   rw[qkF,qbF,qbF preS,qaU,qaU,List.append_assoc]
   rfl
  have hlen:(qay false (qh8 full e)).length<=2000:=by rw[qkF]; simp; omega
  obtain⟨r,hp⟩:=qmE (f:=true) (fi:=true) (fb:=false) full hg (hn full) hlen
  have z:=qmS H.toHas (bs (qay false (qh8 full e))) (by rw[qaG]; omega)
  rw[qiX,hp] at z
  simp only[qoy] at z
  rw[he]
  exact z
 have z3:=qif hsf (qqy hg (by have:=hc true; omega))
 have z4:=qif H.s (qqB hg (by have:=hc false; omega))
 have hs2:((e.fl true).fo .nil).size<=1000:=by
  rw[qjG]
  have:(e.fl true).size=e.size:=by
   have:=qh9 (qeg true e (r := .nil) (r' := .nil) rfl)
   rw[qjG,qjG] at this
   simpa using this
  simp[Fo.size]
  omega
 have z5:=qif H.e (qfN (a:=(e.fl true).kfo) (b:=e.kfo) (by rw[qek] at hs2; simp only[Fo.size] at hs2; omega) (e.fl true).kind (e.fl true).num (e.fl true).str (e.fl true).flag e.kind e.num e.str e.flag)
 rw[qpC (qeg true e (r := .nil) (r' := .nil) rfl),<- qps e] at z5
 refine⟨_,_,(e.fl true).kind,(e.fl true).num,(e.fl true).str,(e.fl true).flag,(e.fl true).kfo,?_,?_,z3,z4,?_,?_,z5⟩
 ·rw[qaG]; exact hc true
 ·rw[qaG]; exact hc false
 ·intro T hT
  rw[<- qek]
  rcases hT with rfl | rfl
  ·exact hfull true
  ·exact hfull false
 ·rw[qek] at hs2; simp only[Fo.size] at hs2; omega
theorem qe2 (zl:Z prog (.call 229 [] [])=some (.ret (.bool true) [])) {v:D} {xs:List Int} (hv:RowV v xs) (hx : ∀ x∈xs,I64 x) (hlen:xs.length<=9223372036854775807) (b:Bool) :
  Z prog (.call 221 [.dat v,.bool b] [])=some (.ret (.bool true) []):=by
 obtain⟨e1,i1,⟨f1,_,d1,s1,_⟩,hi1,z1⟩:=qlO (v:=v) (B:=9223372036854775807) hx ⟨hv,by omega,by omega⟩ 4 4 0 (by omega) (by omega) (by omega)
 obtain⟨e2,i2,⟨f2,_,d2,s2,_⟩,hi2,z2⟩:=qlQ (v:=v) (B:=9223372036854775807) hx ⟨hv,by omega,by omega⟩ 4 4 i1 (by omega) (by omega) (by omega) hi1
 have z1:=qif H.b z1
 have z2:=qif H.b z2
 have one : ∀ e:E,e.fine->e.dp<=5->e.size<=63->_:=fun e hf hd hs=>qnl H hsf (e:=e) (qdg e hf) (fun full=>by have:=qe4 full e 1; omega)
  (fun full=>by have h1:=qml full e 1; have h2:=qmk (e.tx full 1) false; have h3:=qdh e hf; omega) (by omega)
 have m4:mxs (4:Int).toNat=31:=rfl
 have m5:mxs ((4:Int).toNat+1)=63:=rfl
 have t4:(4:Int).toNat=4:=rfl
 obtain⟨TF,TN,K,N,S,fl,ks,q1,q2,q3,q4,q5,q6,q7⟩:=one (if b then e2 else e1) (by cases b<;>assumption) (by cases b<;>simp<;>omega) (by cases b<;>simp<;>omega)
 have p1:=q5 TF (.inl rfl)
 have p2:=q5 TN (.inr rfl)
 have zz:=qif H.e (qmW (a:=Hd.none.nd) (b:=Hd.none.nd) (c:=⟨7,0,⟨#[]⟩,false,.cons 1 0 ⟨#[118]⟩ true (.cons K N S fl ks .nil) .nil⟩) (a':=Hd.none.nd) (b':=Hd.none.nd) (c':=⟨7,0,⟨#[]⟩,false,.cons 1 0 ⟨#[118]⟩ true (.cons K N S fl ks .nil) .nil⟩) (by decide) (by decide) (by simp[Fo.size]; omega))
 rw[qja,qja] at zz
 obtain⟨A1,hA1⟩ : ∃ v,v=preS++TF:=⟨_,rfl⟩
 obtain⟨A2,hA2⟩ : ∃ v,v=preS++TN:=⟨_,rfl⟩
 have g1:preS.size=9:=rfl
 have g2:postS.size=2:=rfl
 have sA1:A1.size=9+TF.size:=by rw[hA1,ByteArray.size_append,g1]
 have sA2:A2.size=9+TN.size:=by rw[hA2,ByteArray.size_append,g1]
 rw[<- hA1] at p1
 rw[<- hA2] at p2
 obtain⟨B1,hB1⟩ : ∃ v,v=A1++postS:=⟨_,rfl⟩
 obtain⟨B2,hB2⟩ : ∃ v,v=A2++postS:=⟨_,rfl⟩
 rw[<- hB1] at p1
 rw[<- hB2] at p2
 have y1 : ¬ (9223372036854775807:Int)<9+(TF.size:Int):=by omega
 have y2 : ¬ (9223372036854775807:Int)<9+(TF.size:Int)+2:=by omega
 have y3 : ¬ (9223372036854775807:Int)<9+(TN.size:Int):=by omega
 have y4 : ¬ (9223372036854775807:Int)<9+(TN.size:Int)+2:=by omega
 have h1:(⟨#[111,110,32,104,105,116,123,118,61]⟩:ByteArray)=preS:=rfl
 have h2:(⟨#[59,125]⟩:ByteArray)=postS:=rfl
 have nn:Hd.none.nd=⟨0,0,⟨#[]⟩,false,.nil⟩:=rfl
 have k0:=hv.one
 have k1:=hv.cells
 have o1:=qkz e1
 have o2:=qkz e2
 have c1:=qhj e1
 have c2:=qhj e2
 simp only[qpt,E.node] at z1 z2
 cases b
 ·simp only[Bool.false_eq_true,if_false,E.node] at q3 q4 q7
  generalize e2.kids=D2 at *
  generalize e1.kids=D1 at *
  simp only[nn,ru,Nd.d,qdj,qcq,qce,qbI,qrc,Nat.zero_add,qrN,Bool.and_self,nd] at p1 p2 zz q7
  refine Z_call (H.kd 221 F221 rfl) rfl ?_
  simp -implicitDefEqProofs [F221,o1,o2,c1,c2,z1,z2,q3,q4,p1,p2,zz,q7,zl,k0,k1,h1,h2,qao,V.len,<- hA1,<- hA2,<- hB1,<- hB2,sA1,sA2,g1,g2,y1,y2,y3,y4,List.range_succ]
 ·simp only[if_true,E.node] at q3 q4 q7
  generalize e2.kids=D2 at *
  generalize e1.kids=D1 at *
  simp only[nn,ru,Nd.d,qdj,qcq,qce,qbI,qrc,Nat.zero_add,qrN,Bool.and_self,nd] at p1 p2 zz q7
  refine Z_call (H.kd 221 F221 rfl) rfl ?_
  simp -implicitDefEqProofs [F221,o1,o2,c1,c2,z1,z2,q3,q4,p1,p2,zz,q7,zl,k0,k1,h1,h2,qao,V.len,<- hA1,<- hA2,<- hB1,<- hB2,sA1,sA2,g1,g2,y1,y2,y3,y4,List.range_succ]
end
end Go.Pm
end SWb
section STb13
namespace Go.Pm.F
def prog13d:Nat->Option PFun
 | 17=>some F17
 | 20=>some F20
 | 136=>some F136
 | 176=>some F176
 | 177=>some F177
 | 178=>some F178
 | 179=>some F179
 | 192=>some F192
 | 193=>some F193
 | 221=>some F221
 | 228=>some F228
 | 229=>some F229
 | 231=>some F231
 | 232=>some F232
 | 233=>some F233
 | 234=>some F234
 | 235=>some F235
 | 239=>some F239
 | 240=>some F240
 | 241=>some F241
 | 242=>some F242
 | 243=>some F243
 | 244=>some F244
 | 245=>some F245
 | 246=>some F246
 | 247=>some F247
 | 249=>some F249
 | 250=>some F250
 | 251=>some F251
 | 252=>some F252
 | 253=>some F253
 | 254=>some F254
 | 255=>some F255
 | 256=>some F256
 | 257=>some F257
 | 258=>some F258
 | 259=>some F259
 | 260=>some F260
 | 261=>some F261
 | 262=>some F262
 | 264=>some F264
 | 265=>some F265
 | 266=>some F266
 | 267=>some F267
 | 268=>some F268
 | 269=>some F269
 | 270=>some F270
 | 271=>some F271
 | 272=>some F272
 | 273=>some F273
 | 274=>some F274
 | 275=>some F275
 | 276=>some F276
 | 277=>some F277
 | 278=>some F278
 | 279=>some F279
 | 280=>some F280
 | 281=>some F281
 | 282=>some F282
 | 283=>some F283
 | 284=>some F284
 | 285=>some F285
 | 286=>some F286
 | 287=>some F287
 | 288=>some F288
 | 289=>some F289
 | 290=>some F290
 | 291=>some F291
 | 292=>some F292
 | 293=>some F293
 | 294=>some F294
 | 295=>some F295
 | 297=>some F297
 | 298=>some F298
 | 299=>some F299
 | 300=>some F300
 | 303=>some F303
 | 304=>some F304
 | 307=>some F307
 | 308=>some F308
 | 309=>some F309
 | _=>none
theorem qgE : ∀ f pf,tR f=some pf->prog13d f=some pf:=fun f pf h=>by
 unfold tR at h
 split at h<;>first | (cases h; rfl) | cases h
theorem qgF : ∀ f pf,tS f=some pf->prog13d f=some pf:=fun f pf h=>by
 unfold tS at h
 split at h<;>first | (cases h; rfl) | cases h
theorem qgG : ∀ f pf,tP f=some pf->prog13d f=some pf:=fun f pf h=>by
 unfold tP at h
 split at h<;>first | (cases h; rfl) | cases h
theorem qgH : ∀ f pf,tQ f=some pf->prog13d f=some pf:=fun f pf h=>by
 unfold tQ at h
 split at h<;>first | (cases h; rfl) | cases h
theorem qeM : ∀ f pf,qe5 f=some pf->prog13d f=some pf:=fun f pf h=>by
 unfold qe5 at h
 split at h<;>first | (cases h; rfl) | cases h
end Go.Pm.F
end STb13
section SUm
namespace Go.Pm
open F
theorem qgI:Sub tE prog13d:=fun f pf h=>by
 unfold tE at h
 split at h<;>first | (cases h; rfl) | cases h
theorem qgJ:Sub tK prog13d:=fun f pf h=>by
 unfold tK at h
 split at h<;>first | (cases h; rfl) | cases h
theorem qf5:Sub tKd prog13d:=fun f pf h=>by
 unfold tKd at h
 split at h<;>first | (cases h; rfl) | cases h
theorem qqh:HasD prog13d:=⟨⟨qeM,qgE,qgF,qgG,qgH,qgI,qgJ⟩,qf5⟩
end Go.Pm
end SUm
section SUt
namespace Go.Pm
open F
theorem qnJ:Z prog13d (.call 229 [] [])=some (.ret (.bool true) []):=qmH (n:=3000) (by kernel_rfl)
end Go.Pm
end SUt
section SWi
namespace Go.Pm
open F
theorem qgt:Sub tSf prog13d:=fun f pf h=>by
 unfold tSf at h
 split at h<;>first | (cases h; rfl) | cases h
theorem precLaw_Z {v:D} {xs:List Int} (hv:RowV v xs) (hx : ∀ x∈xs,I64 x) (hl:xs.length<=9223372036854775807) {b:Bool} :
  Z prog13d (.call 221 [.dat v,.bool b] [])=some (.ret (.bool true) []):=qe2 qqh qgt qnJ hv hx hl b
end Go.Pm
end SWi
