/- Chapter 13's law ParserRound. The abstract machine's programs: tables of functions. Chapter 13's laws, over the whole table. -/
import Derived.Test.YtjdbkncfebebnaaDoorPmKx
import Derived.Test.YtjdbkncfebebnaaDoorPmUk
import Derived.Test.YtjdbkncfebebnaaDoorPmG5
import Derived.Test.YtjdbkncfebebnaaDoorPmF3
import Derived.Test.YtjdbkncfebebnaaDoorPmFx
import Derived.Test.YtjdbkncfebebnaaDoorPmYh
import Derived.Test.YtjdbkncfebebnaaDoorPmOj
import Derived.Test.YtjdbkncfebebnaaDoorPmSd
set_option linter.unusedSimpArgs false
set_option linter.unusedVariables false
section SUj
namespace Go.Pm
open F
set_option maxHeartbeats 8000000
theorem qnE {f fi fb:Bool} {s:ByteArray} {h:Nat->Option Ss} {r:List Tk} (hp:qbU f fi fb s = .ok h r) (k:Nat):(h k).map (·.fl f fi fb)=h k:=by
 have e:=qoY f fi fb f fi fb s
 rw[hp] at e
 simp only[Rz.map,Rz.ok.injEq,and_true] at e
 exact (congrFun e k).symm
theorem qmb {f fi fb:Bool} {s:ByteArray} {h:Nat->Option Ss} {r:List Tk} (hp:qbU f fi fb s = .ok h r) : ∃ r',qbU f fi fb (bs (qah false (qaJ h))) = .ok h r':=by
 obtain⟨hg,h3,hl,hs⟩:=qjq hp
 obtain⟨r',e⟩:=qin (f:=f) (fi:=fi) (fb:=fb) hg (by omega)
 refine⟨r',?_⟩
 rw[e]
 congr 1
 funext k
 by_cases hk:k<3
 ·rw[if_pos hk,qnE hp k]
 ·rw[if_neg hk,h3 k (by omega)]
theorem qiq (A:Nd):ndEq A.k A.n A.s A.ks A.k A.n A.s A.ks=true:=by simp[ndEq,qkp]
section
variable {prog:Nat->Option PFun} (H:Has prog)
include H
theorem qym {s:ByteArray} (hs:s.size<2 ^ 30) {h:Nat->Option Ss} {r:List Tk} (hp:qbU true true false s = .ok h r) : ∃ (A B C:Nd) (S:ByteArray),S=bs (qah false (qaJ h))/\S.size<=s.size/\S.size<=2000/\A=(hdO (h 0)).nd/\B=(hdO (h 1)).nd/\C=(hdO (h 2)).nd /\
  Z prog (.call 228 [.str s] [])=some (.ret (.tup [.dat (ru A B C),.int 0,.int 0]) [])/\Z prog (.call 231 [.dat (ru A B C)] [])=some (.ret (.str S) []) /\
  Z prog (.call 228 [.str S] [])=some (.ret (.tup [.dat (ru A B C),.int 0,.int 0]) [])/\Z prog (.call 232 [.dat (ru A B C),.dat (ru A B C)] [])=some (.ret (.bool true) []):=by
 obtain⟨hg,h3,hl,hb⟩:=qjq hp
 obtain⟨r',h2⟩:=qmb hp
 have hsz:=qsd hg (by omega)
 refine⟨_,_,_,_,rfl,by rw[qal]; exact hl,by rw[qal]; omega,rfl,rfl,rfl,?_,?_,?_,?_⟩
 ·have z:=qf5 H s hs
  rw[qgq,hp] at z
  simp only[qlJ] at z
  exact z
 ·have z:=qky H.q (qoX (qpR hg) (by rw[qkS]; omega))
  rw[qkS] at z
  exact z
 ·have z:=qf5 H (bs (qah false (qaJ h))) (by rw[qal]; omega)
  rw[qgq,h2] at z
  simp only[qlJ] at z
  exact z
 ·have z:=qky H.e (qpW (a:=(hdO (h 0)).nd) (b:=(hdO (h 1)).nd) (c:=(hdO (h 2)).nd) (a':=(hdO (h 0)).nd) (b':=(hdO (h 1)).nd) (c':=(hdO (h 2)).nd) (by have:=hsz 0 (by omega); omega) (by have:=hsz 1 (by omega); omega) (by have:=hsz 2 (by omega); omega))
  rw[qiq,qiq,qiq] at z
  exact z
theorem qyn {s:ByteArray} (hs:s.size<2 ^ 30) {a c:Nat} (hp:qbU true true false s = .er a c):c≠0/\Z prog (.call 228 [.str s] [])=some (.ret (.tup [.dat (ru Hd.none.nd Hd.none.nd Hd.none.nd),.int a,.int c]) []):=by
 refine⟨qlh hp,?_⟩
 have z:=qf5 H s hs
 rw[qgq,hp] at z
 exact z
theorem qmc {cs:List D} {s:ByteArray} {i:Nat} (hi:i<3) (hc:cutCells cs i 1=some [.lit (.string s)]) (hs:s.size<2 ^ 30) :
  Z prog (.loop 0 F220l0 [(11,.dat (.sl cs 3 true)),(12,.int i)] [])=Z prog (.loop 0 F220l0 [(11,.dat (.sl cs 3 true)),(12,.int ((i+1:Nat):Int))] []):=by
 have w1:IntKind.i64.wrap ((i:Int)+1)=((i+1:Nat):Int):=by rw[qai _ (by omega)]; omega
 have hlt:(i:Int)<3:=by omega
 cases hp:qbU true true false s with
 | er a c=>
  obtain⟨c0,z1⟩:=qyn H hs hp
  have c1 : ¬ (c:Int)=0:=by omega
  have n0:Hd.none.nd=⟨0,0,⟨#[]⟩,false,.nil⟩:=rfl
  simp only[n0,ru,Nd.d,qaW,qaB,qtJ] at z1
  conv=>lhs; rw[qab]
  generalize ((i+1:Nat):Int)=i1 at *
  simp -implicitDefEqProofs [qad,qgG,qaf,qgn,hc,z1,c0,c1,w1,hlt,hi,List.range_succ]
  all_goals exact qci (by simp[gcF,List.range_succ])
 | ok h r=>
  obtain⟨A,B,C,S,_,hS1,hS2,_,_,_,z1,z2,z3,z4⟩:=qym H hs hp
  have hle : ¬ (s.size:Int)<S.size:=by omega
  have es:eqS S S=true:=by rw[qa0]; simp
  simp only[ru] at z1 z2 z3 z4
  conv=>lhs; rw[qab]
  generalize ((i+1:Nat):Int)=i1 at *
  simp -implicitDefEqProofs [qad,qgG,qaf,qgn,V.len,hc,z1,z2,z3,z4,hle,es,w1,hlt,hi,List.range_succ]
  all_goals exact qci (by simp[gcF,List.range_succ])
theorem qks (raw:ByteArray) {v:D} {xs:List Int} (hv:RowV v xs) (hx : ∀ x∈xs,I64 x) {at_ how:Int} (ha:I64 at_) (hh:I64 how) {c:Nat} (hc:c<256) :
  Z prog (.call 220 [.str raw,.dat v,.int at_,.int how,.dat (.lit (.int .u8 c))] [])=some (.ret (.bool true) []):=by
 obtain⟨t0,h0,z0⟩:=qsb H raw (m:=300) (by omega)
 obtain⟨a,b,d,ga,gb,gd,z1⟩:=qpQ H hv hx
 have hl:=qmT a b d
 have g1:=qfr ga
 have g2:=qfr gb
 have g3:=qfr gd
 obtain⟨t1,ht1⟩ : ∃ v,v=bs (qah false (qaJ (Hd.opts a b d))):=⟨_,rfl⟩
 have hs1:t1.size<=75900:=by rw[ht1,qal]; omega
 rw[<- ht1] at z1
 obtain⟨t2,h2,z2⟩:=qpP H (s:=t1) (by omega) ha hh hc
 have r0:=qmc H (cs:=[.lit (.string t0),.lit (.string t1),.lit (.string t2)]) (s:=t0) (i:=0) (by omega) (by simp) (by omega)
 have r1:=qmc H (cs:=[.lit (.string t0),.lit (.string t1),.lit (.string t2)]) (s:=t1) (i:=1) (by omega) (by simp) (by omega)
 have r2:=qmc H (cs:=[.lit (.string t0),.lit (.string t1),.lit (.string t2)]) (s:=t2) (i:=2) (by omega) (by simp) (by omega)
 have r3:Z prog (.loop 0 F220l0 [(11,.dat (.sl [.lit (.string t0),.lit (.string t1),.lit (.string t2)] 3 true)),(12,.int ((2+1:Nat):Int))] [])=some (.out (.exit 0) [(11,.dat (.sl [.lit (.string t0),.lit (.string t1),.lit (.string t2)] 3 true)),(12,.int 3),(32,.bool false)] []):=by
  rw[qab]
  simp[qad,qgG]
 have rr:=r0.trans (r1.trans (r2.trans r3))
 have zl:=qo7 H
 have k0:=hv.one
 have k1:=hv.cells
 simp only[Int.cast_ofNat_Int] at z0 rr
 refine Z_call (H.k 220 F220 rfl) rfl ?_
 simp -implicitDefEqProofs [F220,z0,z1,z2,rr,zl,k0,k1]
end
end Go.Pm
end SUj
section STb13
namespace Go.Pm.F
def prog13d:Nat->Option PFun
 | 17=>some F17
 | 20=>some F20
 | 23=>some F23
 | 123=>some F123
 | 136=>some F136
 | 137=>some F137
 | 152=>some F152
 | 162=>some F162
 | 176=>some F176
 | 177=>some F177
 | 178=>some F178
 | 179=>some F179
 | 192=>some F192
 | 193=>some F193
 | 220=>some F220
 | 225=>some F225
 | 226=>some F226
 | 227=>some F227
 | 228=>some F228
 | 229=>some F229
 | 231=>some F231
 | 232=>some F232
 | 234=>some F234
 | 235=>some F235
 | 236=>some F236
 | 239=>some F239
 | 240=>some F240
 | 241=>some F241
 | 242=>some F242
 | 243=>some F243
 | 244=>some F244
 | 245=>some F245
 | 246=>some F246
 | 247=>some F247
 | 248=>some F248
 | 249=>some F249
 | 250=>some F250
 | 251=>some F251
 | 252=>some F252
 | 253=>some F253
 | 254=>some F254
 | 255=>some F255
 | 256=>some F256
 | 257=>some F257
 | 258=>some F258
 | 259=>some F259
 | 260=>some F260
 | 261=>some F261
 | 262=>some F262
 | 263=>some F263
 | 264=>some F264
 | 265=>some F265
 | 266=>some F266
 | 267=>some F267
 | 268=>some F268
 | 269=>some F269
 | 270=>some F270
 | 271=>some F271
 | 272=>some F272
 | 273=>some F273
 | 274=>some F274
 | 275=>some F275
 | 276=>some F276
 | 277=>some F277
 | 278=>some F278
 | 279=>some F279
 | 280=>some F280
 | 281=>some F281
 | 282=>some F282
 | 283=>some F283
 | 284=>some F284
 | 285=>some F285
 | 286=>some F286
 | 287=>some F287
 | 288=>some F288
 | 289=>some F289
 | 290=>some F290
 | 291=>some F291
 | 292=>some F292
 | 293=>some F293
 | 294=>some F294
 | 295=>some F295
 | 297=>some F297
 | 298=>some F298
 | 299=>some F299
 | 300=>some F300
 | 303=>some F303
 | 304=>some F304
 | 307=>some F307
 | 308=>some F308
 | 309=>some F309
 | _=>none
theorem qiv : ∀ f pf,tR f=some pf->prog13d f=some pf:=fun f pf h=>by
 unfold tR at h
 split at h<;>first | (cases h; rfl) | cases h
theorem qiw : ∀ f pf,tS f=some pf->prog13d f=some pf:=fun f pf h=>by
 unfold tS at h
 split at h<;>first | (cases h; rfl) | cases h
theorem qix : ∀ f pf,tP f=some pf->prog13d f=some pf:=fun f pf h=>by
 unfold tP at h
 split at h<;>first | (cases h; rfl) | cases h
theorem qiy : ∀ f pf,tQ f=some pf->prog13d f=some pf:=fun f pf h=>by
 unfold tQ at h
 split at h<;>first | (cases h; rfl) | cases h
theorem qf6 : ∀ f pf,qbx f=some pf->prog13d f=some pf:=fun f pf h=>by
 unfold qbx at h
 split at h<;>first | (cases h; rfl) | cases h
end Go.Pm.F
end STb13
section SUm
namespace Go.Pm
open F
theorem qiz:Sub tE prog13d:=fun f pf h=>by
 unfold tE at h
 split at h<;>first | (cases h; rfl) | cases h
theorem qiA:Sub tK prog13d:=fun f pf h=>by
 unfold tK at h
 split at h<;>first | (cases h; rfl) | cases h
theorem quH:Has prog13d:=⟨qf6,qiv,qiw,qix,qiy,qiz,qiA⟩
theorem roundLaw_Z (raw:ByteArray) {v:D} {xs:List Int} (hv:RowV v xs) (hx : ∀ x∈xs,I64 x) {at_ how:Int} (ha:I64 at_) (hh:I64 how) {c:Nat} (hc:c<256) :
  Z prog13d (.call 220 [.str raw,.dat v,.int at_,.int how,.dat (.lit (.int .u8 c))] [])=some (.ret (.bool true) []):=qks quH raw hv hx ha hh hc
end Go.Pm
end SUm
