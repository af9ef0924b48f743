/- Chapter 13's reference printer: every row of statements. -/
import Derived.Test.YtebnoobfoajkbaaGreatDoorPmAL
import Derived.Test.YtebnoobfoajkbaaGreatDoorPmDl
import Derived.Test.YtebnoobfoajkbaaGreatDoorPmHv
import Derived.Test.YtebnoobfoajkbaaGreatDoorPmR
set_option linter.unusedSimpArgs false
set_option linter.unusedVariables false
set_option maxHeartbeats 4000000
namespace Go.Pm
section
open F
abbrev sbF(s:ByteArray)(i:Int)(ex:Fr):Fr:=(1,.ptr 0 0)::(3,.str s)::(4,.int i)::ex
abbrev sbS(k n:Int)(s:ByteArray)(d:D):S:=[.cells [.int k,.int n,.str s,.dat d]]
def quq(s:Ss):Prop := ∀ (cs:List D) (m i:Nat) (f:Bool) (k n:Int) (t:ByteArray) w w',cs.drop (i*4)=s.fo.cells->i+s.fo.len=m->m<2 ^ 40->w'=pw w s.tx->w'.length<2 ^ 40 ->
 Z tS (.loop 0 F248l0 (sbF (bs w) i []) (sbS k n t (.sl cs m f)))=some (.out (.exit 0) (sbF (bs w') m [(9,.bool false)]) (sbS k n t (.sl cs m f)))
def qxf:Ss->Prop
 |.block _ b r=>qiU b/\qxf r
 |_=>True
theorem qxg {cs:List D} {m i:Nat} {f:Bool} {k0 n0:Int} {s0:ByteArray} {w w1:List UInt8} {T:List ByteArray} {k n:Int} {s:ByteArray} {d:D} {rest:List D} (hd:cs.drop (i*4) = .lit (.int .i64 k) :: .lit (.int .i64 n) :: .lit (.string s)::d::rest)
  (h1:V.one (.dat d)=true) (hcl:V.cells (.dat d)=[.dat d]) (hi:i<m) (hm:m<2 ^ 40) (hT : ∀ t∈T,t.size≠0) (hw:w1=pw w T) (hsz:w1.length<2 ^ 40)
  (zs:Z tS (.call 263 [.dat (.agg [.lit (.int .i64 k),.lit (.int .i64 n),.lit (.string s),d])] [])=some (.ret (.str (bs (qav false T))) []))
  {r:Res} (zr:Z tS (.loop 0 F248l0 (sbF (bs w1) ((i+1:Nat):Int) []) (sbS k0 n0 s0 (.sl cs m f)))=some r) :
  Z tS (.loop 0 F248l0 (sbF (bs w) i []) (sbS k0 n0 s0 (.sl cs m f)))=some r:=by
 have hc:=qzH hd
 have hlt:(i:Int)<m:=by omega
 have w1':IntKind.i64.wrap ((i:Int)+1)=((i+1:Nat):Int):=by rw[qag _ (by omega)]; omega
 have hle:=qgo T (wl w)
 have zj:=qug (bs w) (bs (qav false T)) (by
  rw[qaB,qaB]
  have:=congrArg List.length hw
  simp only[pw,Wb] at this
  omega)
 rw[qbX,quh w hT,<- hw] at zj
 rw[<- zr]
 conv=>lhs; rw[qac]
 generalize ((i+1:Nat):Int)=i1 at *
 generalize bs (qav false T)=R at *
 generalize bs w1=W1 at *
 generalize bs w=W0 at *
 simp[qad,qg0,qae,V.len,hc,h1,hcl,hlt,hi,zs,zj,w1',Wa]
theorem qmJ{b:Ss}(hg:b.good none)(hl:quq b):qiU b:=by
 have htg:=qnw (qin b none hg).ok
 have hnz : ∀ t∈b.tx,t.size≠0:=fun t ht=>qkv (htg t ht)
 refine⟨hnz,?_⟩
 intro k n s f hsz
 obtain⟨w2,e2⟩ : ∃ v,v=pw [123] b.tx:=⟨_,rfl⟩
 have e3:qav false b.btx=w2++[125]:=by
  rw[<- qqu,Ss.btx,qdf,qjq,e2]
  show pw (pw ([]++(gap (wl []) ⟨#[123]⟩++byl ⟨#[123]⟩)) b.tx) [⟨#[125]⟩]=_
  rw[show ([]++(gap (wl []) ⟨#[123]⟩++byl ⟨#[123]⟩):List UInt8)=[123] by decide,qdf,qe3]
  have : ∀ q,gap q ⟨#[125]⟩=[]:=fun q=>by cases q<;>decide
  rw[this]
  rfl
 rw[e3] at hsz ⊢
 have s2:w2.length<2 ^ 40:=by rw[Wb] at hsz; omega
 have hb:b.fo.len<2 ^ 40:=by
  have h1:=qfz b hg
  have h2:=qjB b.tx (wl [123]) hnz
  have h3:=congrArg List.length e2
  simp only[pw,Wb] at h3
  omega
 have hr:bs (w2++[125])=bs w2++⟨#[125]⟩:=(quf w2 [125]).symm
 have hsz2 : ¬ (9223372036854775807:Int)<((bs w2).size:Int)+1:=by rw[qaB]; omega
 have y1:((⟨#[125]⟩:ByteArray).size:Int)=1:=rfl
 have y2:(⟨#[125]⟩:ByteArray).size=1:=rfl
 have z0:(⟨#[123]⟩:ByteArray)=bs [123]:=rfl
 rw[hr]
 refine qab (pf:=F248) rfl rfl ?_
 cases hbl:b.fo.len with
 |zero=>
  have hn:=qjF hbl
  subst hn
  have:w2=[123]:=by rw[e2]; exact qe3 _
  subst this
  have y3:((⟨#[123]⟩:ByteArray).size:Int)=1:=rfl
  simp[F248,V.len,qac,qad,qg0,Wa,bs,y1,y2,y3]
 |succ q=>
  have z2:=hl b.fo.cells (q+1) 0 f k n s [123] w2 (by simp) (by omega) (by omega) e2 s2
  have hk:kd f (q+1) b.fo.cells = .sl b.fo.cells (q+1) f:=rfl
  rw[hk]
  simp only[sbF,sbS,Wv,<- z0] at z2
  generalize q+1=M at *
  generalize bs w2=W2 at *
  simp[F248,z2,Wa,y1,y2,hsz2]
theorem qur {S r:Ss} {T:List ByteArray} (htx:S.tx=T++r.tx) (hnz : ∀ t∈S.tx,t.size≠0) {cs:List D} {m i:Nat} {f:Bool} {k0 n0:Int} {s0:ByteArray} {w w':List UInt8} {k n:Int} {s:ByteArray} {d:D}
  (hd:cs.drop (i*4) = .lit (.int .i64 k) :: .lit (.int .i64 n) :: .lit (.string s)::d::r.fo.cells) (h1:V.one (.dat d)=true) (hcl:V.cells (.dat d)=[.dat d]) (hm:i+(r.fo.len+1)=m) (hm2:m<2 ^ 40) (hw:w'=pw w S.tx) (hs:w'.length<2 ^ 40)
  (zs:(qav false T).length<2 ^ 40->Z tS (.call 263 [.dat (.agg [.lit (.int .i64 k),.lit (.int .i64 n),.lit (.string s),d])] [])=some (.ret (.str (bs (qav false T))) [])) (ihr:quq r) :
  Z tS (.loop 0 F248l0 (sbF (bs w) i []) (sbS k0 n0 s0 (.sl cs m f)))=some (.out (.exit 0) (sbF (bs w') m [(9,.bool false)]) (sbS k0 n0 s0 (.sl cs m f))):=by
 obtain⟨w1,e1⟩ : ∃ v,v=pw w T:=⟨_,rfl⟩
 have e2:w'=pw w1 r.tx:=by rw[hw,htx,qjq,e1]
 have s1:w1.length<2 ^ 40:=Wu (by rw[e2]; exact qtJ _ _) hs
 have hle:=qgo T (wl w)
 have sT:(qav false T).length<2 ^ 40:=by
  have:=congrArg List.length e1
  simp only[pw,Wb] at this
  omega
 have nT : ∀ t∈T,t.size≠0:=fun t ht=>hnz t (by rw[htx]; exact Yp _ ht)
 exact qxg hd h1 hcl (by omega) hm2 nT e1 s1 (zs sT) (ihr cs m (i+1) f k0 n0 s0 w1 w' (qgB hd) (by omega) hm2 e2 hs)
theorem qxh : ∀ s:Ss,(s.good none->quq s)/\((∃ k,s.good (some k))->qxf s):=by
 intro s
 have nz : ∀ s:Ss,s.good none -> ∀ t∈s.tx,t.size≠0:=fun s h t ht=>qkv (qnw (qin s none h).ok t ht)
 induction s with
 |nil=>
  refine⟨fun _ cs m i f k0 n0 s0 w w' hd hm hm2 hw hs=>?_,fun _=>trivial⟩
  rw[Ss.tx,qe3] at hw
  subst hw
  have:i=m:=by simpa [Ss.fo] using hm
  subst this
  simp only[sbF,sbS]
  rw[qac]
  simp[qad,qg0,V.len,Wa]
 |assign g s e r ih=>
  refine⟨fun h cs m i f k0 n0 s0 w w' hd hm hm2 hw hs=>?_,fun _=>trivial⟩
  have hz:=nz _ h
  obtain⟨_,hn,he,hr⟩:=h
  simp only[Ss.fo,qa5,qlD,qby,qbH,qlC,qgA,qbf] at hd hm
  exact qur (S := .assign g s e r) (T:=[s]++([⟨#[61]⟩]++(e.tx false 1++([⟨#[59]⟩]++[])))) (by simp only[Ss.tx,Wi,Wc,Wm,Wf]; rfl) hz hd rfl rfl (by omega) hm2 hw hs (qp5 (fb:=false) (fc:=false) he (by simp only[Wf,Wm,Wi,Wc])) (ih.1 hr)
 |store g s a b r ih=>
  refine⟨fun h cs m i f k0 n0 s0 w w' hd hm hm2 hw hs=>?_,fun _=>trivial⟩
  have hz:=nz _ h
  obtain⟨_,hn,ha,hb,hr⟩:=h
  simp only[Ss.fo,qa5,qlD,qby,qbH,qlC,qgA,qbf] at hd hm
  exact qur (S := .store g s a b r) (T:=[s]++([⟨#[91]⟩]++(a.tx false 1++([⟨#[93]⟩]++([⟨#[61]⟩]++(b.tx false 1++([⟨#[59]⟩]++[]))))))) (by simp only[Ss.tx,Wi,Wc,Wm,Wf]; rfl) hz hd rfl rfl (by omega) hm2 hw hs (qsv (fb:=false) (fc:=false) ha hb (by simp only[Wf,Wm,Wi,Wc])) (ih.1 hr)
 |effect g a b r ih=>
  refine⟨fun h cs m i f k0 n0 s0 w w' hd hm hm2 hw hs=>?_,fun _=>trivial⟩
  have hz:=nz _ h
  obtain⟨_,ha,hb,hr⟩:=h
  simp only[Ss.fo,qa5,qlD,qby,qbH,qlC,qgA,qbf] at hd hm
  exact qur (S := .effect g a b r) (T:=[⟨#[101,102,102,101,99,116]⟩]++(a.tx false 1++([⟨#[44]⟩]++(b.tx false 1++([⟨#[59]⟩]++[]))))) (by simp only[Ss.tx,Wi,Wc,Wm,Wf]; rfl) hz hd rfl rfl (by omega) hm2 hw hs (qp6 (fb:=false) (fc:=false) ha hb (by simp only[Wf,Wm,Wi,Wc])) (ih.1 hr)
 |stop r ih=>
  refine⟨fun h cs m i f k0 n0 s0 w w' hd hm hm2 hw hs=>?_,fun _=>trivial⟩
  have hz:=nz _ h
  obtain⟨_,hr⟩:=h
  simp only[Ss.fo,qa5,qby,qbH,qbf,qzG] at hd hm
  exact qur (S := .stop r) (T:=[⟨#[115,116,111,112]⟩,⟨#[59]⟩]) rfl hz hd rfl rfl (by omega) hm2 hw hs (fun _=>qvL rfl rfl) (ih.1 hr)
 |cond w0 g c b r ihb ih=>
  refine⟨fun h cs m i f k0 n0 s0 w w' hd hm hm2 hw hs=>?_,fun _=>trivial⟩
  have hz:=nz _ h
  obtain⟨_,hc,hb,hr⟩:=h
  cases w0 with
  |true=>
   obtain⟨fb,b1,rfl,hb1⟩:=qqv hb
   have hrow:=ihb.2 ⟨1,hb⟩
   simp only[Ss.fo,qa5,qlD,qby,qbH,qlC,qgA,qbf,if_true] at hd hm
   exact qur (S := .cond true g c (.block fb b1 .nil) r) (T:=[⟨#[119,104,105,108,101]⟩]++(c.tx false 1++b1.btx)) (by simp only[Ss.tx,Ss.btx,Wi,Wc,Wm,Wf,qiu,if_true,Wp,if_false]; rfl) hz hd rfl rfl (by omega) hm2 hw hs (qsw (fc:=false) hc hrow.1 (by simp only[Wf,Wm,Wi,Wc])) (ih.1 hr)
  |false=>
   obtain⟨fb,b1,fc,b2,rfl,hb1,hb2⟩:=qwi hb
   have hrow:=ihb.2 ⟨2,hb⟩
   simp only[Ss.fo,qa5,qlD,qby,qbH,qlC,qgA,qbf,Wp,if_false] at hd hm
   cases hl:b2.fo.len with
   |zero=>
    have hn:=qjF hl
    exact qur (S := .cond false g c (.block fb b1 (.block fc b2 .nil)) r) (T:=[⟨#[105,102]⟩]++(c.tx false 1++b1.btx)) (by rw[hn]; simp only[Ss.tx,Ss.btx,Wi,Wc,Wm,Wf,qiu,if_true,Wp,if_false]; rfl) hz hd rfl rfl (by omega) hm2 hw hs (qyn hc hrow.1 hl (by simp only[Wf,Wm,Wi,Wc])) (ih.1 hr)
   |succ q=>
    have he:qiu (.block fc b2 .nil)=true:=by cases b2<;>first|rfl|simp[Ss.fo] at hl
    exact qur (S := .cond false g c (.block fb b1 (.block fc b2 .nil)) r) (T:=[⟨#[105,102]⟩]++(c.tx false 1++(b1.btx++([⟨#[101,108,115,101]⟩]++b2.btx)))) (by simp only[Ss.tx,Ss.btx,he,Wi,Wc,Wm,Wf,if_true,Wp,if_false]; rfl) hz hd rfl rfl (by omega) hm2 hw hs (qyo hc hrow.1 (by omega) hrow.2.1 (by simp only[Wf,Wm,Wi,Wc])) (ih.1 hr)
 |block g b r ihb ih=>
  refine⟨fun h=>?_,fun ⟨k,h⟩=>?_⟩
  ·obtain⟨n,hn,_⟩:=h; cases hn
  ·obtain⟨n,hn,hb,hr⟩:=h
   exact⟨qmJ hb (ihb.1 hb),ih.2 ⟨n,hr⟩⟩
end
section
open F
abbrev hnD:V := .dat (.sl [.lit (.string ⟨#[97,99,116]⟩),.lit (.string ⟨#[116,105,99,107]⟩),.lit (.string ⟨#[104,105,116]⟩)] 3 true)
theorem ql5:Z tS (.call 152 [] [])=some (.ret hnD []):=by
 refine qab (pf:=F152) rfl rfl ?_
 simp[F152]
theorem qxN:bs (qav false [])=⟨#[]⟩:=rfl
theorem quV {T T':List ByteArray} {t:ByteArray} {b:Ss} {R R' Q:ByteArray} (hb:qiU b) (hT : ∀ x∈T,x.size≠0) (hR:R=bs (qav false T)) (hQ:Q=bs (qav false b.btx)) (hT':T'=T++(⟨#[111,110]⟩::t::b.btx)) (hR':R'=bs (qav false T')) (hs:R'.size<2 ^ 40) :
  Z tS (.call 247 [.dat (.sl [.lit (.string R),.lit (.string ⟨#[111,110]⟩),.lit (.string t),.lit (.string Q)] 4 true)] [])=some (.ret (.str R') []):=by
 have hP:Parts [R,⟨#[111,110]⟩,t,Q] T':=by
  rw[hR,hQ,hT']
  have:=Parts.sub hT (.tok (t:=⟨#[111,110]⟩) (.tok (t:=t) (.sub (qew hb.1) .nil)))
  rw[Wm] at this
  exact this
 exact qdJ hP hR' (by simp) hs
theorem qn7{T:List ByteArray}{t:ByteArray}{b:Ss}(hT : ∀ x∈T,x.size≠0)(ht:t.size≠0)(hb:qiU b) : ∀ x∈T++(⟨#[111,110]⟩::t::b.btx),x.size≠0:=
 qfv hT (qfv (a:=[⟨#[111,110]⟩,t]) (qfv (a:=[⟨#[111,110]⟩]) (qki (by decide)) (qki ht)) (qew hb.1))
theorem ql6 {A B C:Nd} {i:Nat} (hi:i<3) {g:Hd} (hX:(if i=0 then A else if i=1 then B else C)=g.nd) (hb : ∀ s,g.opt=some s->qiU s) {T T':List ByteArray} (hT : ∀ x∈T,x.size≠0) (hT':T'=T++qjm i g.opt) (hs:(qav false T').length<2 ^ 40) :
  (∀ x∈T',x.size≠0)/\Z tS (.loop 0 F236l0 [(1,.ptr 0 0),(3,.str (bs (qav false T))),(4,.int i)] [qhD A B C])=Z tS (.loop 0 F236l0 [(1,.ptr 0 0),(3,.str (bs (qav false T'))),(4,.int ((i+1:Nat):Int))] [qhD A B C]):=by
 have zh:=ql5
 cases g with
 |none=>
  obtain rfl:T'=T:=by rw[hT']; exact Wm T
  refine⟨hT,?_⟩
  generalize bs (qav false T')=R at *
  conv=>lhs; rw[qac]
  obtain rfl|rfl|rfl:i=0\/i=1\/i=2:=by omega
  all_goals
   first | (have hX:A=_:=hX; subst hX) | (have hX:B=_:=hX; subst hX) | (have hX:C=_:=hX; subst hX)
   simp[qad,qgZ,qhD,Nd.d,Hd.k,Hd.f,Hd.ks,Wa,show IntKind.i64.wrap 1=1 from rfl,show IntKind.i64.wrap 2=2 from rfl,show IntKind.i64.wrap 3=3 from rfl]
 |some f b=>
  have hbb:=hb b rfl
  have hn:T'=T++(⟨#[111,110]⟩::qfJ i::b.btx):=hT'
  have q:(qav false b.btx).length<2 ^ 40:=Wu (by
   have:=qas (T++[⟨#[111,110]⟩,qfJ i]) b.btx [] false
   rw[Wm,Wf] at this
   rw[hn]
   exact this) hs
  have z:=hbb.2 7 0 ⟨#[]⟩ f q
  have hsz:(qfJ i).size≠0:=by
   obtain rfl|rfl|rfl:i=0\/i=1\/i=2:=by omega
   all_goals decide
  refine⟨by rw[hn]; exact qn7 hT hsz hbb,?_⟩
  have y:=quV (t:=qfJ i) hbb hT rfl rfl hn rfl (by rw[qaB]; exact hs)
  generalize bs (qav false b.btx)=Q at *
  generalize bs (qav false T)=R at *
  generalize bs (qav false T')=R' at *
  conv=>lhs; rw[qac]
  obtain rfl|rfl|rfl:i=0\/i=1\/i=2:=by omega
  all_goals
   first | (have hX:A=_:=hX; subst hX) | (have hX:B=_:=hX; subst hX) | (have hX:C=_:=hX; subst hX)
   simp only[qfJ,qso,qq8,bs] at y
   simp[qad,qgZ,qhD,Nd.d,Hd.k,Hd.f,Hd.ks,zh,z,y,qae,Wa,show IntKind.i64.wrap 1=1 from rfl,show IntKind.i64.wrap 2=2 from rfl,show IntKind.i64.wrap 3=3 from rfl]
theorem qrG {a b c:Hd} (hg : ∀ k,qhm (Hd.opts a b c k)) (hsz:(qav false (qdi (Hd.opts a b c))).length<2 ^ 40) :
  Z tS (.call 236 [.dat (ru a.nd b.nd c.nd)] [])=some (.ret (.str (bs (qav false (qdi (Hd.opts a b c))))) []):=by
 have hb : ∀ {s:Ss} (k:Nat),Hd.opts a b c k=some s->qiU s:=fun k h=>qmJ ((hg k) _ h).1 ((qxh _).1 ((hg k) _ h).1)
 have e:qdi (Hd.opts a b c)=(qjm 0 a.opt++qjm 1 b.opt)++qjm 2 c.opt:=by rw[Wf]; rfl
 have l2:=qas [] (qjm 0 a.opt++qjm 1 b.opt) (qjm 2 c.opt) false
 have l1:=qas [] (qjm 0 a.opt) (qjm 1 b.opt) false
 rw[Wc] at l1 l2
 rw[<- e] at l2
 obtain⟨t1,y1⟩:=ql6 (A:=a.nd) (B:=b.nd) (C:=c.nd) (i:=0) (by omega) (g:=a) rfl (fun s h=>hb 0 h) (T:=[]) (T':=qjm 0 a.opt) qni rfl (by omega)
 obtain⟨t2,y2⟩:=ql6 (A:=a.nd) (B:=b.nd) (C:=c.nd) (i:=1) (by omega) (g:=b) rfl (fun s h=>hb 1 h) t1 rfl (by omega)
 obtain⟨t3,y3⟩:=ql6 (A:=a.nd) (B:=b.nd) (C:=c.nd) (i:=2) (by omega) (g:=c) rfl (fun s h=>hb 2 h) t2 rfl (by rw[<- e]; exact hsz)
 rw[<- e] at y3
 have y:=y1.trans (y2.trans y3)
 generalize bs (qav false (qdi (Hd.opts a b c)))=R at *
 have y4:Z tS (.loop 0 F236l0 [(1,.ptr 0 0),(3,.str R),(4,.int ((2+1:Nat):Int))] [qhD a.nd b.nd c.nd])=some (.out (.exit 0) [(1,.ptr 0 0),(3,.str R),(4,.int 3),(6,.bool false)] [qhD a.nd b.nd c.nd]):=by
  rw[qac]
  simp[qad,qgZ]
 have y:=y.trans y4
 rw[qxN] at y
 clear y1 y2 y3 y4 hb
 generalize a.nd=A at *
 generalize b.nd=B at *
 generalize c.nd=C at *
 simp only[Wv,qhD] at y
 refine qab (pf:=F236) rfl rfl ?_
 simp[F236,ru,y,Wa]
end
end Go.Pm
section
namespace Go.Pm.F
def tP:Nat->Option PFun
 |228=>some F228
 |239=>some F239
 |240=>some F240
 |241=>some F241
 |242=>some F242
 |249=>some F249
 |250=>some F250
 |251=>some F251
 |252=>some F252
 |253=>some F253
 |254=>some F254
 |255=>some F255
 |256=>some F256
 |264=>some F264
 |265=>some F265
 |266=>some F266
 |267=>some F267
 |268=>some F268
 |269=>some F269
 |270=>some F270
 |271=>some F271
 |275=>some F275
 |276=>some F276
 |277=>some F277
 |278=>some F278
 |279=>some F279
 |280=>some F280
 |281=>some F281
 |284=>some F284
 |285=>some F285
 |286=>some F286
 |287=>some F287
 |289=>some F289
 |290=>some F290
 |292=>some F292
 |297=>some F297
 |303=>some F303
 |304=>some F304
 |307=>some F307
 |308=>some F308
 |309=>some F309
 |_=>none
end Go.Pm.F
end
namespace Go.Pm
section
open F
theorem qeZ(c:UInt8):Z tP (.call 264 [.dat (.lit (.int .u8 c.toNat))] [])=some (.ret (.bool (qbg c)) []):=by
 refine qab (pf:=F264) rfl rfl ?_
 by_cases h1:(97:Int)<=c.toNat
 ·have h1':97<=c.toNat:=by omega
  by_cases h2:(c.toNat:Int)<=122
  ·have h2':c.toNat<=122:=by omega
   simp[F264,qbg,h1,h1',h2,h2']
  ·have h2' : ¬ c.toNat<=122:=by omega
   simp[F264,qbg,h1,h1',h2,h2']
 ·have h1' : ¬ 97<=c.toNat:=by omega
  simp[F264,qbg,h1,h1']
theorem qgp(c:UInt8):Z tP (.call 266 [.dat (.lit (.int .u8 c.toNat))] [])=some (.ret (.bool (qaF c)) []):=by
 refine qab (pf:=F266) rfl rfl ?_
 by_cases h1:(48:Int)<=c.toNat
 ·have h1':48<=c.toNat:=by omega
  by_cases h2:(c.toNat:Int)<=57
  ·have h2':c.toNat<=57:=by omega
   simp[F266,qaF,h1,h1',h2,h2']
  ·have h2' : ¬ c.toNat<=57:=by omega
   simp[F266,qaF,h1,h1',h2,h2']
 ·have h1' : ¬ 48<=c.toNat:=by omega
  simp[F266,qaF,h1,h1']
theorem qpH {d:D} {l:List ByteArray} (hd:RowS d l) (hl:l.length<2 ^ 40) (x:ByteArray) : ∀ (m i:Nat),i+m=l.length ->
  (x∉l.drop i->Z tP (.loop 0 F284l0 [(0,.dat d),(1,.str x),(7,.int l.length),(8,.int i)] [])=some (.out (.exit 0) [(0,.dat d),(1,.str x),(7,.int l.length),(8,.int l.length),(9,.bool false)] [])) /\
  (x∈l.drop i -> ∃ (j:Nat),Z tP (.loop 0 F284l0 [(0,.dat d),(1,.str x),(7,.int l.length),(8,.int i)] [])=some (.out .ret [(4,.int j)] []))
 |0,i,hi=>by
  obtain rfl:i=l.length:=by omega
  have ho:=hd.one
  have hc:=hd.cells
  refine⟨fun _=>?_,fun h=>by simp at h⟩
  rw[qac]
  simp[qad,qfo,ho,hc]
 |m+1,i,hi=>by
  have hlt:i<l.length:=by omega
  have hlt':(i:Int)<l.length:=by omega
  have ho:=hd.one
  have hcl:=hd.cells
  have ha:=hd.at_ i hlt
  have hc:=qhT l i hlt
  have w1:=qag ((i:Int)+1) (by omega)
  have hdr:l.drop i=l[i]::l.drop (i+1):=WF hlt
  obtain⟨ih1,ih2⟩:=qpH hd hl x m (i+1) (by omega)
  simp only[WE,Wv] at ih1 ih2
  rw[hdr]
  generalize l[i]=y at hc ⊢
  by_cases hx:x=y
  ·subst hx
   refine⟨fun h=>absurd (WN ..) h,fun _=>⟨i,?_⟩⟩
   rw[qac]
   simp[qad,qfo,hlt',ha,hc,qbk,ho,hcl]
  ·refine⟨fun h=>?_,fun h=>?_⟩
   ·have z:=ih1 (fun h'=>h (Wz _ h'))
    rw[qac]
    simp[qad,qfo,hlt',ha,hc,qbk,hx,w1,z,ho,hcl]
   ·rcases Wr.1 h with h|h
    ·exact absurd h hx
    ·obtain⟨j,z⟩:=ih2 h
     refine⟨j,?_⟩
     rw[qac]
     simp[qad,qfo,hlt',ha,hc,qbk,hx,w1,z,ho,hcl]
theorem qob{d:D}{l:List ByteArray}(hd:RowS d l)(hl:l.length<2 ^ 40)(x:ByteArray):Z tP (.call 276 [.dat d,.str x] [])=some (.ret (.bool (decide (x∈l))) []):=by
 have ho:=hd.one
 have hc:=hd.cells
 have hn:=hd.len
 obtain⟨i1,i2⟩:=qpH hd hl x l.length 0 (by omega)
 simp only[Yt,W5] at i1 i2
 by_cases h:x∈l
 ·obtain⟨j,z⟩:=i2 h
  have z2:Z tP (.call 284 [.dat d,.str x] [])=some (.ret (.int j) []):=by
   refine qab (pf:=F284) rfl rfl ?_
   simp[F284,ho,hc,hn,z]
  have hj:(0:Int)<=j:=by omega
  refine qab (pf:=F276) rfl rfl ?_
  simp[F276,ho,hc,z2,h,hj]
 ·have z:=i1 h
  have z2:Z tP (.call 284 [.dat d,.str x] [])=some (.ret (.int (-1)) []):=by
   refine qab (pf:=F284) rfl rfl ?_
   simp[F284,ho,hc,hn,z]
  refine qab (pf:=F276) rfl rfl ?_
  simp[F276,ho,hc,z2,h]
end
section
open F
def kwL:List (List UInt8 × Int):=[([111,110],2),([97,99,116],2),([116,105,99,107],2),([105,102],2),([101,108,115,101],2),([119,104,105,108,101],2),([101,102,102,101,99,116],2),([115,116,111,112],2),([116,114,117,101],2),([102,97,108,115,101],2),([115,101,108,102],2),([111,116,104,101,114],2),([120],3),([121],3),([118,120],3),([118,121],3),([97],3),([98],3),([104,105,116],3),([115,116,105,108,108],3)]
def kwM:List (Value × V):=kwL.map fun x=>(.string ⟨x.1.toArray⟩,.int x.2)
theorem qnU(s:ByteArray):Z tP (.call 239 [.str s] [])=some (.ret (.agg [.str s,.mp 0]) [.map kwM]):=by
 exact qb4 (n:=2) (by kernel_rfl)
theorem quB(w:ByteArray):qes .s (.string w) kwM=some (if w∈fieldNames then some (.int 3) else if w∈wordNames then some (.int 2) else none):=by
 have key : ∀ (l:List (List UInt8 × Int)),qes .s (.string w) (l.map fun x=>(Value.string ⟨x.1.toArray⟩,V.int x.2))=some ((l.find? fun x=>decide (bs x.1=w)).map fun x => .int x.2):=fun l=>by
  induction l with
  |nil=>rfl
  |cons x l ih=>
   simp only[Wy,qes,qco,ih,List.find?_cons]
   by_cases h:bs x.1=w
   ·have h':(w==(⟨x.1.toArray⟩:ByteArray))=true:=by rw[beq_iff_eq]; exact h.symm
    have h2:((⟨x.1.toArray⟩:ByteArray)==w)=true:=by rw[beq_iff_eq]; exact h
    simp[h,h',h2]
   ·have h':(w==(⟨x.1.toArray⟩:ByteArray))=false:=by rw[beq_eq_false_iff_ne]; exact fun e=>h e.symm
    have h2:((⟨x.1.toArray⟩:ByteArray)==w)=false:=by rw[beq_eq_false_iff_ne]; exact h
    simp[h,h',h2]
 rw[kwM,key]
 congr 1
 by_cases h1:w∈fieldNames
 ·rw[if_pos h1]
  simp only[fieldNames,Wr,Wt,or_false] at h1
  rcases h1 with rfl|rfl|rfl|rfl|rfl|rfl|rfl|rfl<;>rfl
 rw[if_neg h1]
 by_cases h2:w∈wordNames
 ·rw[if_pos h2]
  have hne:w≠qq8:=fun e=>h1 (by rw[e]; decide)
  simp only[wordNames,Wr,Wt,or_false] at h2
  rcases h2 with rfl|rfl|rfl|h2|rfl|rfl|rfl|rfl|rfl|rfl|rfl|rfl|rfl
  case inr.inr.inr.inl=>exact absurd h2 hne
  all_goals rfl
 rw[if_neg h2]
 have:kwL.find? (fun x=>decide (bs x.1=w))=none:=by
  rw[YI]
  intro x hx
  have hall : ∀ x∈kwL,bs x.1∈fieldNames\/bs x.1∈wordNames:=by decide
  rw[decide_eq_true_eq]
  rintro rfl
  rcases hall x hx with h|h
  ·exact h1 h
  ·exact h2 h
 rw[this]
 rfl
abbrev pO(s:ByteArray)(m:Nat)(Q:V)(i a c:Int):Ob := .cells [.str s,.mp m,Q,.int i,.int a,.int c]
inductive LxS(s:ByteArray):S->Prop
 |nil (i a c:Int):LxS s [pO s 1 (.dat (.lit (.slice none 0 0))) i a c,.map kwM]
 |gr (cs:List D) (n t:Nat) (i a c:Int):LxS s [pO s 1 (.gsl cs n 5 2) i a c,.map kwM,.tip t]
theorem qbm:qhu kwM=[]:=rfl
theorem qcc(r:Nat->Nat):qrl r kwM=kwM:=rfl
attribute [local simp] qbm qcc
theorem qi2 (s:ByteArray) (hl:s.size<2 ^ 40) {σ : S} (hσ : LxS s σ) : ∀ (m i:Nat) (cm:Bool),i+m=s.size ->
  (i+qbc cm ((byl s).drop i)=s.size /\ ∃ v,Z tP (.loop σ.length F251l0 [(0,.ptr 0 0),(1,.int i),(5,.bool cm)] σ)=some (.out (.exit 0) [(0,.ptr 0 0),(1,.int s.size),(5,v),(13,.bool false)] σ)) \/
  Z tP (.loop σ.length F251l0 [(0,.ptr 0 0),(1,.int i),(5,.bool cm)] σ)=some (.out .ret [(4,.int ((i+qbc cm ((byl s).drop i):Nat)))] σ)
 |0,i,cm,hi=>by
  obtain rfl:i=s.size:=by omega
  have hd:(byl s).drop s.size=[]:=WZ (by rw[qaZ]; exact Wj _)
  refine .inl ⟨by rw[hd]; simp[qbc],.bool cm,?_⟩
  rw[qac]
  cases hσ <;> simp[qad,qdu,V.len,Wa]
 |m+1,i,cm,hi=>by
  obtain⟨c,h1,h2⟩:=qqq (s:=s) (i:=i) (by omega)
  have hd:=qiE h2
  have hlt:(i:Int)<s.size:=by omega
  have w1:=qag ((i:Int)+1) (by omega)
  have ih:=fun cm=>qi2 s hl hσ m (i+1) cm (by omega)
  have fin : ∀ cm',qbc cm ((byl s).drop i)=1+qbc cm' ((byl s).drop (i+1)) ->
    Z tP (.loop σ.length F251l0 [(0,.ptr 0 0),(1,.int i),(5,.bool cm)] σ)=Z tP (.loop σ.length F251l0 [(0,.ptr 0 0),(1,.int (i+1)),(5,.bool cm')] σ) ->
    (i+qbc cm ((byl s).drop i)=s.size /\ ∃ v,Z tP (.loop σ.length F251l0 [(0,.ptr 0 0),(1,.int i),(5,.bool cm)] σ)=some (.out (.exit 0) [(0,.ptr 0 0),(1,.int s.size),(5,v),(13,.bool false)] σ)) \/
    Z tP (.loop σ.length F251l0 [(0,.ptr 0 0),(1,.int i),(5,.bool cm)] σ)=some (.out .ret [(4,.int ((i+qbc cm ((byl s).drop i):Nat)))] σ):=fun cm' e z=>by
   rw[e,z]
   have ih:=ih cm'
   rw[show i+(1+qbc cm' ((byl s).drop (i+1)))=i+1+qbc cm' ((byl s).drop (i+1)) by omega]
   simpa using ih
  by_cases h10:c.toNat=10
  ·refine fin false (by rw[hd]; simp[qbc,h10]; omega) ?_
   rw[qac]
   cases hσ <;> simp[qad,qdu,V.len,h1,hlt,h10,w1,Wa]
  have h10' : ¬ (c.toNat:Int)=10:=by omega
  by_cases hc:cm=true\/c.toNat=32\/c.toNat=9
  ·refine fin cm (by rw[hd]; simp only[qbc,if_neg h10,if_pos hc]; omega) ?_
   rw[qac]
   cases cm
   ·have h9:c.toNat=32\/c.toNat=9:=by simpa using hc
    rcases h9 with h9|h9<;>cases hσ <;> simp[qad,qdu,V.len,h1,hlt,h10',h9,w1,Wa]
   ·cases hσ <;> simp[qad,qdu,V.len,h1,hlt,h10',w1,Wa]
  have hc':=hc
  simp only[not_or,Bool.not_eq_true] at hc'
  obtain⟨rfl,h32,h9⟩:=hc'
  have h32' : ¬ (c.toNat:Int)=32:=by omega
  have h9' : ¬ (c.toNat:Int)=9:=by omega
  by_cases h35:c.toNat=35
  ·refine fin true (by rw[hd]; simp only[qbc,if_neg h10,if_neg hc,if_pos h35]; omega) ?_
   rw[qac]
   cases hσ <;> simp[qad,qdu,V.len,h1,hlt,h35,w1,Wa]
  ·have h35' : ¬ (c.toNat:Int)=35:=by omega
   have e:qbc false ((byl s).drop i)=0:=by rw[hd]; simp only[qbc,if_neg h10,if_neg hc,if_neg h35]
   rw[e]
   refine .inr ?_
   rw[qac]
   cases hσ <;> simp[qad,qdu,V.len,h1,hlt,h10',h32',h9',h35',Wa]
theorem qo9(s:ByteArray)(hl:s.size<2 ^ 40){σ : S}(hσ : LxS s σ){i:Nat}(hi:i<=s.size):Z tP (.call 251 [.ptr 0 0,.int i] σ)=some (.ret (.int ((i+qbc false ((byl s).drop i):Nat))) σ):=by
 rcases qi2 s hl hσ (s.size-i) i false (by omega) with ⟨h,v,z⟩|z
 ·rw[h]
  refine qab (pf:=F251) rfl rfl ?_
  cases hσ <;> simp only[We,Wk,Nat.reduceAdd] at z<;>simp[F251,z,Wa]
 ·generalize i+qbc false ((byl s).drop i)=j at z ⊢
  refine qab (pf:=F251) rfl rfl ?_
  cases hσ <;> simp only[We,Wk,Nat.reduceAdd] at z<;>simp[F251,z,Wa]
end
section
open F
attribute [local simp] qbm qcc
abbrev tk5:Ob := .cells [.int 0,.str ⟨#[]⟩,.int 0,.int 0,.int 0]
theorem qi3 (s:ByteArray) (hl:s.size<2 ^ 40) {σ : S} (hσ : LxS s σ) (a:Int) : ∀ (m i:Nat),i+m=s.size ->
  Z tP (.loop σ.length F265l0 [(0,.ptr 0 0),(1,.int a),(4,.ptr σ.length 0),(5,.int i)] (σ ++ [tk5]))=some (.out (.exit 0) [(0,.ptr 0 0),(1,.int a),(4,.ptr σ.length 0),(5,.int ((i+qb9 qaM ((byl s).drop i):Nat))),(34,.bool false)] (σ ++ [tk5]))
 |0,i,hi=>by
  obtain rfl:i=s.size:=by omega
  have hd:(byl s).drop s.size=[]:=WZ (by rw[qaZ]; exact Wj _)
  rw[qac,hd]
  cases hσ <;> simp[qad,qfn,V.len,qb9,Wa]
 |m+1,i,hi=>by
  obtain⟨c,h1,h2⟩:=qqq (s:=s) (i:=i) (by omega)
  have hd:=qiE h2
  have hlt:(i:Int)<s.size:=by omega
  have w1:=qag ((i:Int)+1) (by omega)
  have zl:=qeZ c
  have zd:=qgp c
  have ih:=qi3 s hl hσ a m (i+1) (by omega)
  simp only[WE,Wv] at ih
  by_cases hc:qaM c=true
  ·have e:(i:Int)+((qb9 qaM ((byl s).drop (i+1)):Int)+1)=i+1+qb9 qaM ((byl s).drop (i+1)):=by omega
   rw[qac,hd]
   simp only[qaM,Yz] at hc
   by_cases hcl:qbg c=true
   ·cases hσ <;> simp only[Wi,Wc,We,Wk,Nat.reduceAdd] at ih<;>simp[qad,qfn,V.len,qb9,h1,hlt,w1,zl,zd,hcl,ih,qaM,e,Wa]
   ·have hcd:qaF c=true:=by rcases hc with h|h; exact absurd h hcl; exact h
    cases hσ <;> simp only[Wi,Wc,We,Wk,Nat.reduceAdd] at ih<;>simp[qad,qfn,V.len,qb9,h1,hlt,w1,zl,zd,hcl,hcd,ih,qaM,e,Wa]
  ·simp only[qaM,Yz,not_or] at hc
   rw[qac,hd]
   cases hσ <;> simp[qad,qfn,V.len,qb9,h1,hlt,w1,zl,zd,hc.1,hc.2,qaM,Wa]
abbrev ptD(k:Int)(t:ByteArray)(a v c:Int):V := .dat (.agg [.lit (.int .i64 k),.lit (.string t),.lit (.int .i64 a),.lit (.int .i64 v),.lit (.int .i64 c)])
def pkW(w:ByteArray):Int:=if w∈fieldNames then 3 else if w∈wordNames then 2 else if 8<w.size then 6 else 1
def pcW(w:ByteArray):Int:=if w∈fieldNames\/w∈wordNames then 0 else if 8<w.size then 2 else 0
theorem quC(s:ByteArray)(hl:s.size<2 ^ 40){σ : S}(hσ : LxS s σ){i:Nat}(hi:i<=s.size):Z tP (.call 265 [.ptr 0 0,.int i] σ)=some (.ret (ptD (pkW (s.extract i (i+qb9 qaM ((byl s).drop i)))) (s.extract i (i+qb9 qaM ((byl s).drop i))) i 0 (pcW (s.extract i (i+qb9 qaM ((byl s).drop i))))) σ):=by
 have z:=qi3 s hl hσ i (s.size-i) i (by omega)
 have hr:=qfY qaM ((byl s).drop i)
 rw[W7,qaZ] at hr
 generalize hq:i+qb9 qaM ((byl s).drop i)=q at z ⊢
 have q1:(i:Int)<=q:=by omega
 have q2:(q:Int)<=s.size:=by omega
 have q3:(i:Int)<=s.size:=by omega
 have hk:=quB (s.extract i q)
 have hws:(s.extract i q).size<=s.size:=by rw[ByteArray.size_extract]; omega
 obtain⟨w,hw⟩ : ∃ w,s.extract i q=w:=⟨_,rfl⟩
 rw[hw] at hk hws ⊢
 refine qab (pf:=F265) rfl rfl ?_
 unfold pkW pcW
 by_cases h1:w∈fieldNames
 ·rw[if_pos h1] at hk
  cases hσ <;> simp only[Wi,Wc,We,Wk,Nat.reduceAdd] at z<;>simp[F265,z,qcv,bound,q1,q2,q3,hw,hk,h1,qeF,qaI,qan,Wa]
 by_cases h2:w∈wordNames
 ·rw[if_neg h1,if_pos h2] at hk
  cases hσ <;> simp only[Wi,Wc,We,Wk,Nat.reduceAdd] at z<;>simp[F265,z,qcv,bound,q1,q2,q3,hw,hk,h1,h2,qeF,qaI,qan,Wa]
 rw[if_neg h1,if_neg h2] at hk
 by_cases h3:8<w.size
 ·have h3':(8:Int)<w.size:=by omega
  cases hσ <;> simp only[Wi,Wc,We,Wk,Nat.reduceAdd] at z<;>simp[F265,z,qcv,bound,q1,q2,q3,hw,hk,h1,h2,h3,h3',V.len,qeF,qaI,qan,Wa]
 ·have h3' : ¬ (8:Int)<w.size:=by omega
  cases hσ <;> simp only[Wi,Wc,We,Wk,Nat.reduceAdd] at z<;>simp[F265,z,qcv,bound,q1,q2,q3,hw,hk,h1,h2,h3,h3',V.len,qeF,qaI,qan,Wa]
def qri(v:Nat)(l:List UInt8):Nat:=l.foldl (fun v c=>min (10*v+(c.toNat-48)) 2147483648) v
theorem quD(l:List UInt8) : ∀ n,qri (min n 2147483648) l=min (l.foldl (fun v c=>10*v+(c.toNat-48)) n) 2147483648:=by
 induction l with
 |nil=>intro n; rfl
 |cons c l ih=>
  intro n
  have:=ih (10*n+(c.toNat-48))
  simp only[qri,W6] at this ⊢
  rw[<- this]
  congr 1
  omega
theorem qrj(l:List UInt8):qri 0 l=min (digV l) 2147483648:=quD l 0
theorem qkU (s:ByteArray) (hl:s.size<2 ^ 40) {σ : S} (hσ : LxS s σ) (a:Int) : ∀ (m i v:Nat),i+m=s.size->v<=2147483648 ->
  Z tP (.loop σ.length F267l0 [(0,.ptr 0 0),(1,.int a),(4,.ptr σ.length 0),(5,.int i),(6,.int v)] (σ ++ [tk5]))=some (.out (.exit 0) [(0,.ptr 0 0),(1,.int a),(4,.ptr σ.length 0),(5,.int ((i+qb9 qaF ((byl s).drop i):Nat))),(6,.int (qri v (((byl s).drop i).take (qb9 qaF ((byl s).drop i))))),(24,.bool false)] (σ ++ [tk5]))
 |0,i,v,hi,hv=>by
  obtain rfl:i=s.size:=by omega
  have hd:(byl s).drop s.size=[]:=WZ (by rw[qaZ]; exact Wj _)
  rw[qac,hd]
  cases hσ <;> simp[qad,qgJ,V.len,qb9,qri,Wa]
 |m+1,i,v,hi,hv=>by
  obtain⟨c,h1,h2⟩:=qqq (s:=s) (i:=i) (by omega)
  have hd:=qiE h2
  have hlt:(i:Int)<s.size:=by omega
  have w1:=qag ((i:Int)+1) (by omega)
  have zd:=qgp c
  by_cases hc:qaF c=true
  ·have hc2:48<=c.toNat/\c.toNat<=57:=by simpa [qaF] using hc
   have ih:=qkU s hl hσ a m (i+1) (min (10*v+(c.toNat-48)) 2147483648) (by omega) (Nat.min_le_right _ _)
   have e:(i:Int)+((qb9 qaF ((byl s).drop (i+1)):Int)+1)=i+1+qb9 qaF ((byl s).drop (i+1)):=by omega
   have es:qri v (((byl s).drop i).take (qb9 qaF ((byl s).drop i)))=qri (min (10*v+(c.toNat-48)) 2147483648) (((byl s).drop (i+1)).take (qb9 qaF ((byl s).drop (i+1)))):=by
    rw[hd]; simp[qb9,hc,qri]
   rw[es]
   have er:i+qb9 qaF ((byl s).drop i)=i+1+qb9 qaF ((byl s).drop (i+1)):=by
    rw[hd]; simp[qb9,hc]; omega
   rw[er]
   have u0 : ∀ d:Nat,d<10->IntKind.u8.wrap (d:Int)=d:=by decide
   have u1:IntKind.u8.wrap ((c.toNat:Int)-48)=c.toNat-48:=by
    rw[show ((c.toNat:Int)-48)=((c.toNat-48:Nat):Int) by omega]; exact u0 _ (by omega)
   have u2:IntKind.i64.wrap ((c.toNat:Int)-48)=c.toNat-48:=qag _ (by omega)
   have u3:IntKind.i64.wrap (10*(v:Int))=10*v:=qag _ (by omega)
   have u4:IntKind.i64.wrap (10*(v:Int)+((c.toNat:Int)-48))=10*v+(c.toNat-48):=qag _ (by omega)
   have u5:(if 2147483648<10*(v:Int)+(c.toNat-48) then 2147483648 else 10*(v:Int)+(c.toNat-48))=((min (10*v+(c.toNat-48)) 2147483648:Nat):Int):=by split<;>omega
   generalize min (10*v+(c.toNat-48)) 2147483648=v' at ih u5 ⊢
   rw[<- ih,qac]
   cases hσ <;> simp[qad,qgJ,V.len,h1,hlt,w1,zd,hc,u1,u2,u3,u4,u5,qq6,qje,Wa]
  ·have e0:qb9 qaF ((byl s).drop i)=0:=by rw[hd]; simp[qb9,hc]
   rw[e0,qac]
   cases hσ <;> simp[qad,qgJ,V.len,h1,hlt,zd,hc,qri,Wa]
end
section
open F
attribute [local simp] qbm qcc
theorem qxO (s:ByteArray) (hl:s.size<2 ^ 40) {σ : S} (hσ : LxS s σ) {i:Nat} (hi:i<=s.size):Z tP (.call 267 [.ptr 0 0,.int i] σ) =
  some (.ret (ptD (if 2147483647<digV (((byl s).drop i).take (qb9 qaF ((byl s).drop i))) then 6 else 4) (s.extract i (i+qb9 qaF ((byl s).drop i))) i (min (digV (((byl s).drop i).take (qb9 qaF ((byl s).drop i)))) 2147483648:Nat) (if 2147483647<digV (((byl s).drop i).take (qb9 qaF ((byl s).drop i))) then 6 else 0)) σ):=by
 have z:=qkU s hl hσ i (s.size-i) i 0 (by omega) (by omega)
 rw[qrj] at z
 have hr:=qfY qaF ((byl s).drop i)
 rw[W7,qaZ] at hr
 generalize digV (((byl s).drop i).take (qb9 qaF ((byl s).drop i)))=n at z ⊢
 generalize hq:i+qb9 qaF ((byl s).drop i)=q at z ⊢
 have q1:(i:Int)<=q:=by omega
 have q2:(q:Int)<=s.size:=by omega
 have q3:(i:Int)<=s.size:=by omega
 obtain⟨w,hw⟩ : ∃ w,s.extract i q=w:=⟨_,rfl⟩
 rw[hw]
 refine qab (pf:=F267) rfl rfl ?_
 by_cases hn:2147483647<n
 ·have e:min n 2147483648=2147483648:=by omega
  rw[e] at z ⊢
  rw[if_pos hn,if_pos hn]
  simp only[Yt,Wv] at z
  cases hσ <;> simp only[Wi,Wc,We,Wk,Nat.reduceAdd] at z<;>simp[F267,z,qcv,bound,q1,q2,q3,hw,Wa]
 ·have e:min n 2147483648=n:=by omega
  have hn' : ¬ (2147483647:Int)<n:=by omega
  rw[e] at z ⊢
  rw[if_neg hn,if_neg hn]
  simp only[Yt] at z
  cases hσ <;> simp only[Wi,Wc,We,Wk,Nat.reduceAdd] at z<;>simp[F267,z,qcv,bound,q1,q2,q3,hw,hn',Wa]
def qtB:ByteArray:=⟨#[123,125,91,93,40,41,61,59,44,60,62,43,45,42,47,33]⟩
theorem quW(c:UInt8):decide (0<=firstIdx qtB c)=decide (c.toNat∈qkG):=by
 have h : ∀ n:_root_.Fin 256,decide (0<=firstIdx qtB n.val.toUInt8)=decide (n.val.toUInt8.toNat∈qkG):=by decide +kernel
 have:=h ⟨c.toNat,c.toNat_lt⟩
 simpa using this
theorem qxP(c:UInt8):Z tP (.call 268 [.str qtB,.dat (.lit (.int .u8 c.toNat))] [])=some (.ret (.int (firstIdx qtB c)) []):=by
 have z:Z tP (.call 275 [.str qtB,.dat (.lit (.int .u8 c.toNat))] [])=some (.ret (.int (firstIdx qtB c)) []):=by
  refine qab (pf:=F275) rfl rfl ?_
  simp[F275]
 refine qab (pf:=F268) rfl rfl ?_
 simp[F268,z]
def kindT(t:Tk):Int:=if t.bad≠0 then 6 else if t.s=⟨#[]⟩ then 0 else if qaY qbg t.s then (if t.s∈fieldNames then 3 else if t.s∈wordNames then 2 else 1) else if qaY qaF t.s then 4 else 5
def qhx(t:Tk):ByteArray:=if t.bad=12 then ⟨#[]⟩ else t.s
def valT(t:Tk):Nat:=if qaY qaF t.s then min (digV (byl t.s)) 2147483648 else 0
abbrev ptk(t:Tk):V:=ptD (kindT t) (qhx t) t.at_ (valT t) t.bad
end
section
open F
attribute [local simp] qbm qcc
theorem qed(p:UInt8->Bool)(c:UInt8)(r:List UInt8):qaY p (bs (c::r))=p c:=by rw[qbG,qbX]; rfl
theorem qpg{c:UInt8}(h:qbg c=true):qaF c=false:=by
 simp only[qbg,qaF,Wq,decide_eq_true_eq,W3,decide_eq_false_iff_not] at h ⊢
 omega
theorem qmT{p:UInt8->Bool}{c:UInt8}(r:List UInt8)(h:p c=true):(c::r).take (qb9 p (c::r))=c::r.take (qb9 p r):=by simp[qb9,h]
theorem qru(s:ByteArray){σ : S}(hσ : LxS s σ):Z tP (.call 250 [.ptr 0 0,.int s.size] σ)=some (.ret (ptD 0 ⟨#[]⟩ s.size 0 0) σ):=by
 refine qab (pf:=F250) rfl rfl ?_
 cases hσ <;> simp[F250,V.len,Wa]
theorem qrv(s:ByteArray){σ : S}(hσ : LxS s σ){i:Nat}(hi:i<s.size){c:UInt8}(h1:s[i]?=some c)(hc:qbg c=true){v:D}(ho:V.one (.dat v)=true){k n x e:Int}{t:ByteArray}(z:Z tP (.call 265 [.ptr 0 0,.int i] σ)=some (.ret (ptD k t n x e) σ)):Z tP (.call 250 [.ptr 0 0,.int i] σ)=some (.ret (ptD k t n x e) σ):=by
 have zl:=qeZ c
 have hne : ¬ (i:Int)=s.size:=by omega
 have hne' : ¬ i=s.size:=by omega
 refine qab (pf:=F250) rfl rfl ?_
 cases hσ <;> simp[F250,V.len,h1,hne,hne',zl,hc,z,Wa]
theorem qrw(s:ByteArray){σ : S}(hσ : LxS s σ){i:Nat}(hi:i<s.size){c:UInt8}(h1:s[i]?=some c)(hl:qbg c=false)(hc:qaF c=true){k n x e:Int}{t:ByteArray}(z:Z tP (.call 267 [.ptr 0 0,.int i] σ)=some (.ret (ptD k t n x e) σ)):Z tP (.call 250 [.ptr 0 0,.int i] σ)=some (.ret (ptD k t n x e) σ):=by
 have zl:=qeZ c
 have zd:=qgp c
 have hne : ¬ (i:Int)=s.size:=by omega
 have hne' : ¬ i=s.size:=by omega
 refine qab (pf:=F250) rfl rfl ?_
 cases hσ <;> simp[F250,V.len,h1,hne,hne',zl,zd,hl,hc,z,Wa]
theorem qph(s:ByteArray)(hs:s.size<2 ^ 40){σ : S}(hσ : LxS s σ){i:Nat}(hi:i+2<=s.size){c:UInt8}(h1:s[i]?=some c)(hl:qbg c=false)(hc:qaF c=false){p:ByteArray}(hx:s.extract i (i+2)=p)(hp:p∈qeD):Z tP (.call 250 [.ptr 0 0,.int i] σ)=some (.ret (ptD 5 p i 0 0) σ):=by
 have zl:=qeZ c
 have zd:=qgp c
 have hne : ¬ (i:Int)=s.size:=by omega
 have hne' : ¬ i=s.size:=by omega
 have w2:=qag ((i:Int)+2) (by omega)
 have hle:(i:Int)+2<=s.size:=by omega
 have b1:(i:Int)<=s.size:=by omega
 have b2:(i:Int)<=(i:Int)+2:=by omega
 have b3:(0:Int)<=(i:Int)+2:=by omega
 have b4:((i:Int)+2).toNat=i+2:=by omega
 simp only[qeD,bs,Wr,Wt,or_false] at hp
 refine qab (pf:=F250) rfl rfl ?_
 rcases hp with rfl|rfl|rfl|rfl|rfl|rfl<;>cases hσ <;> simp[F250,V.len,h1,hne,hne',zl,zd,hl,hc,w2,hle,qcv,bound,b1,b2,b3,b4,hx,qbk,Wa]
theorem qrx(s:ByteArray)(hs:s.size<2 ^ 40){σ : S}(hσ : LxS s σ){i:Nat}(hi:i<s.size){c:UInt8}(h1:s[i]?=some c)(hl:qbg c=false)(hc:qaF c=false)(hp:i+2<=s.size->s.extract i (i+2)∉qeD){x:ByteArray}(hx:s.extract i (i+1)=x):Z tP (.call 250 [.ptr 0 0,.int i] σ)=some (.ret (if c.toNat∈qkG then ptD 5 x i 0 0 else ptD 6 ⟨#[]⟩ i 0 12) σ):=by
 have zl:=qeZ c
 have zd:=qgp c
 have zx:=qxP c
 have hm:=quW c
 obtain⟨j,hj0⟩ : ∃ j,firstIdx qtB c=j:=⟨_,rfl⟩
 rw[hj0] at zx hm
 simp only[qtB] at zx
 have hne : ¬ (i:Int)=s.size:=by omega
 have hne' : ¬ i=s.size:=by omega
 have w1:=qag ((i:Int)+1) (by omega)
 have w2:=qag ((i:Int)+2) (by omega)
 have a1:(i:Int)+1<=s.size:=by omega
 have a2:(i:Int)<=(i:Int)+1:=by omega
 have a3:(0:Int)<=(i:Int)+1:=by omega
 have a4:((i:Int)+1).toNat=i+1:=by omega
 have b1:(i:Int)<=s.size:=by omega
 have b2:(i:Int)<=(i:Int)+2:=by omega
 have b3:(0:Int)<=(i:Int)+2:=by omega
 have b4:((i:Int)+2).toNat=i+2:=by omega
 by_cases hle:i+2<=s.size
 ·have hle':(i:Int)+2<=s.size:=by omega
  have hp':=hp hle
  generalize hy:s.extract i (i+2)=y at hp'
  simp only[qeD,bs,Wr,Wt,or_false,not_or] at hp'
  obtain⟨n1,n2,n3,n4,n5,n6⟩:=hp'
  refine qab (pf:=F250) rfl rfl ?_
  by_cases hk:c.toNat∈qkG
  ·have hj:(0:Int)<=j:=by simpa [hk] using hm
   rw[if_pos hk]
   cases hσ <;> simp[F250,V.len,h1,hne,hne',zl,zd,zx,hl,hc,w1,w2,hle',qcv,bound,a1,a2,a3,a4,b1,b2,b3,b4,hx,hy,n1,n2,n3,n4,n5,n6,hj,qbk,Wa]
  ·have hj : ¬ (0:Int)<=j:=by simpa [hk] using hm
   rw[if_neg hk]
   cases hσ <;> simp[F250,V.len,h1,hne,hne',zl,zd,zx,hl,hc,w1,w2,hle',qcv,bound,a1,a2,a3,a4,b1,b2,b3,b4,hx,hy,n1,n2,n3,n4,n5,n6,hj,qbk,Wa]
 ·have hle' : ¬ (i:Int)+2<=s.size:=by omega
  refine qab (pf:=F250) rfl rfl ?_
  by_cases hk:c.toNat∈qkG
  ·have hj:(0:Int)<=j:=by simpa [hk] using hm
   rw[if_pos hk]
   cases hσ <;> simp[F250,V.len,h1,hne,hne',zl,zd,zx,hl,hc,w1,w2,hle',qcv,bound,a1,a2,a3,a4,hx,hj,qbk,Wa]
  ·have hj : ¬ (0:Int)<=j:=by simpa [hk] using hm
   rw[if_neg hk]
   cases hσ <;> simp[F250,V.len,h1,hne,hne',zl,zd,zx,hl,hc,w1,w2,hle',qcv,bound,hj,qbk,Wa]
end
section
open F
theorem quL{c:UInt8}{r:List UInt8}:bs (c::r)≠⟨#[]⟩:=fun h=>by
 have:=congrArg ByteArray.size h
 rw[qaB,We] at this
 exact absurd this (by show ¬ r.length+1=0; omega)
theorem qtz(s:ByteArray)(hl:s.size<2 ^ 40){σ : S}(hσ : LxS s σ){i:Nat}(hi:i<=s.size):Z tP (.call 250 [.ptr 0 0,.int i] σ)=some (.ret (ptk (qgH 12 2 6 s i)) σ):=by
 by_cases hend:i=s.size
 ·subst hend
  have hd:(byl s).drop s.size=[]:=WZ (by rw[qaZ]; exact Wj _)
  have e:qgH 12 2 6 s s.size=⟨s.size,⟨#[]⟩,0⟩:=by rw[qfB,hd]; rfl
  rw[e]
  exact qru s hσ
 have hi':i<s.size:=by omega
 obtain⟨c,h1,h2⟩:=qqq hi'
 have hd:=qiE h2
 rw[qfB,hd]
 by_cases hlet:qbg c=true
 ·have hw:qaM c=true:=by simp[qaM,hlet]
  have ht:=qmT ((byl s).drop (i+1)) hw
  have htok:tokL 12 2 6 (c::(byl s).drop (i+1))=(c::((byl s).drop (i+1)).take (qb9 qaM ((byl s).drop (i+1))),if 8<qb9 qaM (c::(byl s).drop (i+1))/\bs (c::((byl s).drop (i+1)).take (qb9 qaM ((byl s).drop (i+1))))∉fieldNames/\bs (c::((byl s).drop (i+1)).take (qb9 qaM ((byl s).drop (i+1))))∉wordNames then 2 else 0):=by
   simp only[tokL,hlet,if_true,ht]
  have z:=quC s hl hσ hi
  rw[qcC,hd,ht] at z
  have hsz:(bs (c::((byl s).drop (i+1)).take (qb9 qaM ((byl s).drop (i+1))))).size=qb9 qaM (c::(byl s).drop (i+1)):=by
   rw[qaB,<- ht,WL,Nat.min_eq_left (qfY _ _)]
  rw[htok]
  have s1:=qed qbg c (((byl s).drop (i+1)).take (qb9 qaM ((byl s).drop (i+1))))
  have s2:=qed qaF c (((byl s).drop (i+1)).take (qb9 qaM ((byl s).drop (i+1))))
  have hne:=quL (c:=c) (r:=((byl s).drop (i+1)).take (qb9 qaM ((byl s).drop (i+1))))
  rw[hlet] at s1
  rw[qpg hlet] at s2
  rw[<- hsz]
  generalize bs (c::((byl s).drop (i+1)).take (qb9 qaM ((byl s).drop (i+1))))=w at *
  have e:ptk ⟨i,w,if 8<w.size/\w∉fieldNames/\w∉wordNames then 2 else 0⟩=ptD (pkW w) w i 0 (pcW w):=by
   have hb:((if 8<w.size/\w∉fieldNames/\w∉wordNames then 2 else 0:Nat):Int)=pcW w:=by
    unfold pcW
    by_cases a:w∈fieldNames<;>by_cases b:w∈wordNames<;>by_cases d:8<w.size<;>simp[a,b,d]
   have hk:kindT ⟨i,w,if 8<w.size/\w∉fieldNames/\w∉wordNames then 2 else 0⟩=pkW w:=by
    unfold pkW kindT
    by_cases a:w∈fieldNames<;>by_cases b:w∈wordNames<;>by_cases d:8<w.size<;>simp[a,b,d,hne,s1]
   have hx:qhx ⟨i,w,if 8<w.size/\w∉fieldNames/\w∉wordNames then 2 else 0⟩=w:=by
    unfold qhx
    by_cases a:8<w.size/\w∉fieldNames/\w∉wordNames<;>simp[a]
   unfold ptk
   rw[hk,hx,hb]
   simp[valT,s2]
  rw[e]
  exact qrv s hσ hi' h1 hlet (v := .lit (.bool true)) rfl z
 have hlet':qbg c=false:=by simpa using hlet
 by_cases hdig:qaF c=true
 ·have ht:=qmT ((byl s).drop (i+1)) hdig
  have htok:tokL 12 2 6 (c::(byl s).drop (i+1))=(c::((byl s).drop (i+1)).take (qb9 qaF ((byl s).drop (i+1))),if 2147483647<digV (c::((byl s).drop (i+1)).take (qb9 qaF ((byl s).drop (i+1)))) then 6 else 0):=by
   simp only[tokL,hlet',hdig,if_true,Wp,if_false,ht]
  have z:=qxO s hl hσ hi
  rw[qcC,hd,ht] at z
  rw[htok]
  have s1:=qed qbg c (((byl s).drop (i+1)).take (qb9 qaF ((byl s).drop (i+1))))
  have s2:=qed qaF c (((byl s).drop (i+1)).take (qb9 qaF ((byl s).drop (i+1))))
  have hne:=quL (c:=c) (r:=((byl s).drop (i+1)).take (qb9 qaF ((byl s).drop (i+1))))
  rw[hlet'] at s1
  rw[hdig] at s2
  have hbl:=qbX (c::((byl s).drop (i+1)).take (qb9 qaF ((byl s).drop (i+1))))
  generalize c::((byl s).drop (i+1)).take (qb9 qaF ((byl s).drop (i+1)))=l at *
  have e:ptk ⟨i,bs l,if 2147483647<digV l then 6 else 0⟩=ptD (if 2147483647<digV l then 6 else 4) (bs l) i (min (digV l) 2147483648:Nat) (if 2147483647<digV l then 6 else 0):=by
   unfold ptk kindT qhx valT
   by_cases a:2147483647<digV l<;>simp[a,hne,s1,s2,hbl]
  rw[e]
  exact qrw s hσ hi' h1 hlet' hdig z
 have hdig':qaF c=false:=by simpa using hdig
 by_cases hp:bs ((c::(byl s).drop (i+1)).take 2)∈qeD
 ·have htok:tokL 12 2 6 (c::(byl s).drop (i+1))=((c::(byl s).drop (i+1)).take 2,0):=by
   simp only[tokL,hlet',hdig',if_pos hp,Wp,if_false]
  have hsz:=qfA hp
  rw[qaB,WL,We,W7,qaZ] at hsz
  have z:=qph s hl hσ (i:=i) (by omega) h1 hlet' hdig' (p:=bs ((c::(byl s).drop (i+1)).take 2)) (by rw[qcC,hd]) hp
  rw[htok,z]
  have e:ptk ⟨i,bs ((c::(byl s).drop (i+1)).take 2),0⟩=ptD 5 (bs ((c::(byl s).drop (i+1)).take 2)) i 0 0:=by
   generalize bs ((c::(byl s).drop (i+1)).take 2)=w at hp
   simp only[qeD,Wr,Wt,or_false] at hp
   rcases hp with rfl|rfl|rfl|rfl|rfl|rfl<;>rfl
  rw[e]
 ·have z:=qrx s hl hσ hi' h1 hlet' hdig' (fun h=>by rw[qcC,hd]; exact hp) (x:=bs [c]) (by rw[qcC,hd]; rfl)
  rw[z]
  have s1:=qed qbg c []
  have s2:=qed qaF c []
  by_cases hs:c.toNat∈qkG
  ·have htok:tokL 12 2 6 (c::(byl s).drop (i+1))=([c],0):=by simp only[tokL,hlet',hdig',if_neg hp,if_pos hs,Wp,if_false]
   rw[htok,if_pos hs]
   have e:ptk ⟨i,bs [c],0⟩=ptD 5 (bs [c]) i 0 0:=by
    unfold ptk kindT qhx valT
    simp[s1,s2,hlet',hdig',quL]
   rw[e]
  ·have htok:tokL 12 2 6 (c::(byl s).drop (i+1))=([c],12):=by simp only[tokL,hlet',hdig',if_neg hp,if_neg hs,Wp,if_false]
   rw[htok,if_neg hs]
   have e:ptk ⟨i,bs [c],12⟩=ptD 6 ⟨#[]⟩ i 0 12:=by
    unfold ptk kindT qhx valT
    simp[s2,hdig']
   rw[e]
end
section
@[simp] def qwv:Nat->PC->PC
 |n+1,.seq a b => .seq a (qwv n b)
 |0,_ => .skip
 |_,p=>p
end
section
open F
attribute [local simp] qbm qcc
theorem qpw(s:ByteArray):Z tP (.call 241 [.ptr 0 0] [pO s 1 (.dat (.lit (.slice none 0 0))) 0 0 12,.map kwM])=some (.ret (.fn 249 [] [.ptr 2 0]) [pO s 1 (.dat (.lit (.slice none 0 0))) 0 0 12,.map kwM,.cells [.ptr 0 0]]):=by
 refine qab (pf:=F241) rfl rfl ?_
 simp[F241,Wa]
abbrev lp8:Ob := .loop ⟨[(2,.ptr 2 0),(3,.ptr 3 0),(4,.ptr 4 0),(5,.ptr 5 0),(19,.fn 249 [] [.ptr 1 0])],[20],F228a0,F228b0,0,none⟩
abbrev TT0(s:ByteArray):S:=[lp8,.cells [.ptr 6 0],qwU,.cells [.int 0],.cells [.int 0],.cells [.ptr 6 0],pO s 7 (.dat (.lit (.slice none 0 0))) 0 0 12,.map kwM]
abbrev TT1(s:ByteArray)(cs:List D)(n:Nat):S:=[lp8,.cells [.ptr 6 0],qwU,.cells [.int 0],.cells [.int 0],.cells [.ptr 6 0],pO s 7 (.gsl cs n 5 8) 0 0 12,.map kwM,.tip cs.length]
abbrev lpR:Ob := .loop ⟨[(2,.ptr 1 0),(3,.ptr 2 0),(4,.ptr 3 0),(5,.ptr 4 0),(19,.fn 249 [] [.ptr 5 0])],[20],F228a0,F228b0,0,none⟩
abbrev Q0(s:ByteArray):S:=[lpR,qwU,.cells [.int 0],.cells [.int 0],.cells [.ptr 6 0],.cells [.ptr 6 0],pO s 7 (.dat (.lit (.slice none 0 0))) 0 0 12,.map kwM]
abbrev Q1(s:ByteArray)(cs:List D)(n:Nat):S:=[lpR,qwU,.cells [.int 0],.cells [.int 0],.cells [.ptr 6 0],.cells [.ptr 6 0],pO s 7 (.gsl cs n 5 8) 0 0 12,.map kwM,.tip cs.length]
def qhj(k:Int)(t:ByteArray)(a v c:Int):List D:=[.lit (.int .i64 k),.lit (.string t),.lit (.int .i64 a),.lit (.int .i64 v),.lit (.int .i64 c)]
section
variable{s:ByteArray}{k a v c:Int}{t:ByteArray}
theorem qBD:Z tP (.round [.yld 0,ptD k t a v c] (Q0 s))=some (.ret (.bool true) (Q1 s (qhj k t a v c) 1)):=by
 have r1:qay 1 48=true:=by simp only[qay,decide_eq_true_eq]; omega
 rw[qcJ]
 simp[qbB,qh8,qh9,qi8,qi9,qc7,Lp.ended,Ex.isNormal,V.len,qbw,qiL,r1,qhj,dkey,qaI,qan,Wa]
theorem qBE{cs:List D}{n:Nat}(hc:cs.length=n*5)(h0:0<n)(hn:n<2 ^ 30):Z tP (.round [.yld 0,ptD k t a v c] (Q1 s cs n))=some (.ret (.bool true) (Q1 s (cs++qhj k t a v c) (n+1))):=by
 have r1:qay (n+1) 48=true:=by simp only[qay,decide_eq_true_eq]; omega
 have hne : ¬ n=0:=by omega
 rw[qcJ]
 simp[qbB,qh8,qh9,qi8,qi9,qc7,Lp.ended,Ex.isNormal,V.len,qbw,qiL,r1,hc,hne,qhj,dkey,qaI,qan,Wa]
end
abbrev tkO(k:Int)(t:ByteArray)(a v c:Int):Ob := .cells [.int k,.str t,.int a,.int v,.int c]
section
variable{s:ByteArray}{i j:Nat}{k a v c:Int}{t:ByteArray}
theorem qrH
  (zs:Z tP (.call 251 [.ptr 0 0,.int i] [pO s 1 (.dat (.lit (.slice none 0 0))) 0 0 12,.map kwM])=some (.ret (.int j) [pO s 1 (.dat (.lit (.slice none 0 0))) 0 0 12,.map kwM]))
  (zc:Z tP (.call 250 [.ptr 0 0,.int j] [pO s 1 (.dat (.lit (.slice none 0 0))) 0 0 12,.map kwM])=some (.ret (ptD k t a v c) [pO s 1 (.dat (.lit (.slice none 0 0))) 0 0 12,.map kwM]))
  (ha:IntKind.i64.wrap (a+t.size)=a+t.size) (h0:decide (k=0)=false) (h6:decide (k=6)=false) :
  Z tP (.loop 8 F249l0 [(0,.yld 0),(1,.ptr 1 0),(3,.int i)] (TT0 s))=Z tP (.loop 8 F249l0 [(0,.yld 0),(1,.ptr 1 0),(3,.int (a+t.size))] (TT1 s (qhj k t a v c) 1)):=by
 have zr:=qBD (s:=s) (k:=k) (a:=a) (v:=v) (c:=c) (t:=t)
 simp only[pO,ptD,qhj] at zs zc zr
 conv=>lhs; rw[qac]
 simp[qad,qfm,zs,zc,zr,V.len,ha,h0,h6,qhj,qaI,qan,Wa]
 exact qam (by simp[Wa])
theorem qrI
  (zs:Z tP (.call 251 [.ptr 0 0,.int i] [pO s 1 (.dat (.lit (.slice none 0 0))) 0 0 12,.map kwM])=some (.ret (.int j) [pO s 1 (.dat (.lit (.slice none 0 0))) 0 0 12,.map kwM]))
  (zc:Z tP (.call 250 [.ptr 0 0,.int j] [pO s 1 (.dat (.lit (.slice none 0 0))) 0 0 12,.map kwM])=some (.ret (ptD k t a v c) [pO s 1 (.dat (.lit (.slice none 0 0))) 0 0 12,.map kwM]))
  (h:k=0\/k=6) :
  Z tP (.loop 8 F249l0 [(0,.yld 0),(1,.ptr 1 0),(3,.int i)] (TT0 s))=some (.out .ret [(0,.yld 0),(1,.ptr 1 0),(4,.ptr 8 0),(23,.bool true)] [lp8,.cells [.ptr 6 0],qwU,.cells [.int 0],.cells [.int 0],.cells [.ptr 6 0],pO s 7 (.gsl (qhj k t a v c) 1 5 9) 0 0 12,.map kwM,tkO k t a v c,.tip 5]):=by
 have zr:=qBD (s:=s) (k:=k) (a:=a) (v:=v) (c:=c) (t:=t)
 simp only[pO,ptD,qhj] at zs zc zr
 rw[qac]
 rcases h with rfl|rfl<;>simp[qad,qfm,zs,zc,zr,V.len,qhj,qaI,qan,Wa]
theorem qrJ {cs:List D} {n:Nat} (hc:cs.length=n*5) (hn0:0<n) (hn:n<2 ^ 30)
  (zs:Z tP (.call 251 [.ptr 0 0,.int i] [pO s 1 (.gsl cs n 5 2) 0 0 12,.map kwM,.tip cs.length])=some (.ret (.int j) [pO s 1 (.gsl cs n 5 2) 0 0 12,.map kwM,.tip cs.length]))
  (zc:Z tP (.call 250 [.ptr 0 0,.int j] [pO s 1 (.gsl cs n 5 2) 0 0 12,.map kwM,.tip cs.length])=some (.ret (ptD k t a v c) [pO s 1 (.gsl cs n 5 2) 0 0 12,.map kwM,.tip cs.length]))
  (ha:IntKind.i64.wrap (a+t.size)=a+t.size) (h0:decide (k=0)=false) (h6:decide (k=6)=false) :
  Z tP (.loop 8 F249l0 [(0,.yld 0),(1,.ptr 1 0),(3,.int i)] (TT1 s cs n))=Z tP (.loop 8 F249l0 [(0,.yld 0),(1,.ptr 1 0),(3,.int (a+t.size))] (TT1 s (cs++qhj k t a v c) (n+1))):=by
 have zr:=qBE (s:=s) (k:=k) (a:=a) (v:=v) (c:=c) (t:=t) hc hn0 hn
 simp only[pO,ptD,qhj] at zs zc zr
 conv=>lhs; rw[qac]
 simp[qad,qfm,zs,zc,zr,V.len,ha,h0,h6,qhj,qaI,qan,Wa]
 exact qam (by simp[Wa])
theorem qrK {cs:List D} {n:Nat} (hc:cs.length=n*5) (hn0:0<n) (hn:n<2 ^ 30)
  (zs:Z tP (.call 251 [.ptr 0 0,.int i] [pO s 1 (.gsl cs n 5 2) 0 0 12,.map kwM,.tip cs.length])=some (.ret (.int j) [pO s 1 (.gsl cs n 5 2) 0 0 12,.map kwM,.tip cs.length]))
  (zc:Z tP (.call 250 [.ptr 0 0,.int j] [pO s 1 (.gsl cs n 5 2) 0 0 12,.map kwM,.tip cs.length])=some (.ret (ptD k t a v c) [pO s 1 (.gsl cs n 5 2) 0 0 12,.map kwM,.tip cs.length]))
  (h:k=0\/k=6) :
  Z tP (.loop 8 F249l0 [(0,.yld 0),(1,.ptr 1 0),(3,.int i)] (TT1 s cs n))=some (.out .ret [(0,.yld 0),(1,.ptr 1 0),(4,.ptr 9 0),(23,.bool true)] (TT1 s (cs++qhj k t a v c) (n+1)++[tkO k t a v c])):=by
 have zr:=qBE (s:=s) (k:=k) (a:=a) (v:=v) (c:=c) (t:=t) hc hn0 hn
 simp only[pO,ptD,qhj] at zs zc zr
 rw[qac]
 rcases h with rfl|rfl<;>simp[qad,qfm,zs,zc,zr,V.len,qhj,qaI,qan,Wa]
end
end
section
open F
attribute [local simp] qbm qcc
abbrev ptT(t:Tk):List D:=qhj (kindT t) (qhx t) t.at_ (valT t) t.bad
def ptC:List Tk->List D
 |[]=>[]
 |t::r=>ptT t++ptC r
theorem qgz(t:Tk):(kindT t=0\/kindT t=6)↔(t.bad≠0\/t.s.size=0):=by
 have he:t.s=⟨#[]⟩↔t.s.size=0:=⟨fun h=>by rw[h]; rfl,fun h=>by
  have:=qdR t.s
  have hb:byl t.s=[]:=WP (by rw[qaZ]; exact h)
  rw[hb] at this
  exact this.symm⟩
 unfold kindT
 by_cases hb:t.bad=0
 ·by_cases h0:t.s=⟨#[]⟩
  ·simp[hb,h0]
   rfl
  ·have h0' : ¬ t.s.size=0:=fun h=>h0 (he.2 h)
   simp only[hb,h0,h0',ne_eq,not_true_eq_false,if_false,false_or,or_self,iff_false]
   split<;>(try split)<;>(try split)<;>omega
 ·simp[hb]
theorem qaX{t:Tk}(h:t.bad=0):qhx t=t.s:=by unfold qhx; rw[h]; rfl
theorem qs4(s:ByteArray){i:Nat}(hi:i<=s.size):qiP s (s.size-i) false i=i+qbc false ((byl s).drop i)/\i+qbc false ((byl s).drop i)<=s.size:=by
 refine⟨qkB s _ false i (Wj _),?_⟩
 have:=qhV ((byl s).drop i) false
 rw[W7,qaZ] at this
 omega
theorem qny(s:ByteArray)(n:Nat){i:Nat}(hi:i<=s.size){t:Tk}(ht:qgH 12 2 6 s (i+qbc false ((byl s).drop i))=t):qdU 12 2 6 s (n+1) i=if t.bad≠0\/t.s.size=0 then [t] else t::qdU 12 2 6 s n (t.at_+t.s.size):=by
 rw[qdU,(qs4 s hi).1,ht]
theorem qt4(s:ByteArray){i:Nat}(hi:i<=s.size){t:Tk}(ht:qgH 12 2 6 s (i+qbc false ((byl s).drop i))=t)(h : ¬ (t.bad≠0\/t.s.size=0)):i<t.at_+t.s.size/\t.at_+t.s.size<=s.size:=by
 obtain⟨_,h2⟩:=qs4 s hi
 have hij:i<=i+qbc false ((byl s).drop i):=by omega
 generalize i+qbc false ((byl s).drop i)=j at ht h2 hij
 by_cases hj:j<s.size
 ·have hp:=qqW hj 12 2 6
  have ha:t.at_=j:=by rw[<- ht,qfB]
  rw[ht] at hp
  omega
 ·obtain rfl:j=s.size:=by omega
  have hd:(byl s).drop s.size=[]:=WZ (by rw[qaZ]; exact Wj _)
  exfalso
  apply h
  rw[<- ht,qfB,hd]
  exact .inr rfl
theorem qjD (s:ByteArray) (hl:s.size<2 ^ 29) : ∀ (n i:Nat) (cs:List D) (m:Nat),s.size-i<n->i<=s.size->0<m->cs.length=m*5->m+(s.size-i)<2 ^ 30 ->
  ∃ k t a v c,Z tP (.loop 8 F249l0 [(0,.yld 0),(1,.ptr 1 0),(3,.int i)] (TT1 s cs m))=some (.out .ret [(0,.yld 0),(1,.ptr 1 0),(4,.ptr 9 0),(23,.bool true)] (TT1 s (cs++ptC (qdU 12 2 6 s n i)) (m+(qdU 12 2 6 s n i).length)++[tkO k t a v c]))
 |0,i,cs,m,h,_,_,_,_=>by omega
 |n+1,i,cs,m,hn,hi,h0,hc,hm=>by
  obtain⟨j1,j2⟩:=qs4 s hi
  have zs:=qo9 s (by omega) (LxS.gr cs m cs.length 0 0 12) hi
  have zc:=qtz s (by omega) (LxS.gr cs m cs.length 0 0 12) j2
  obtain⟨t,ht⟩ : ∃ t,qgH 12 2 6 s (i+qbc false ((byl s).drop i))=t:=⟨_,rfl⟩
  rw[qny s n hi ht]
  rw[ht] at zc
  by_cases hend:t.bad≠0\/t.s.size=0
  ·rw[if_pos hend]
   have z:=qrK hc h0 (by omega) zs zc ((qgz t).2 hend)
   simp only[ptC,Wm,Ws]
   exact⟨_,_,_,_,_,z⟩
  ·rw[if_neg hend]
   obtain⟨q1,q2⟩:=qt4 s hi ht hend
   have hb:t.bad=0:=by simp only[not_or,ne_eq,Decidable.not_not] at hend; exact hend.1
   have hk : ¬ (kindT t=0\/kindT t=6):=fun h=>hend ((qgz t).1 h)
   simp only[not_or] at hk
   have z:=qrJ hc h0 (by omega) zs zc (by rw[qaX hb,qag _ (by omega)]) (decide_eq_false hk.1) (decide_eq_false hk.2)
   have hT:qhj (kindT t) t.s t.at_ (valT t) t.bad=ptT t:=by show _=qhj (kindT t) (qhx t) t.at_ (valT t) t.bad; rw[qaX hb]
   rw[qaX hb,hT] at z
   obtain⟨k,x,a,v,c,ih⟩:=qjD s hl n (t.at_+t.s.size) (cs++ptT t) (m+1) (by omega) q2 (by omega) (by rw[Wb,hc]; simp only[qhj,We,Wk]; omega) (by omega)
   refine⟨k,x,a,v,c,z.trans ?_⟩
   have e1:((t.at_:Int)+t.s.size)=((t.at_+t.s.size:Nat):Int):=by omega
   rw[e1,ih]
   simp only[ptC,Wf,We]
   rw[show m+1+(qdU 12 2 6 s n (t.at_+t.s.size)).length=m+((qdU 12 2 6 s n (t.at_+t.s.size)).length+1) by omega]
theorem qqB(s:ByteArray)(hl:s.size<2 ^ 29):Z tP (.call 249 [.yld 0,.ptr 1 0] (TT0 s))=some (.ret (.tup []) (TT1 s (ptC (toks s)) (toks s).length)):=by
 obtain⟨j1,j2⟩:=qs4 s (i:=0) (by omega)
 have zs:=qo9 s (by omega) (LxS.nil 0 0 12) (i:=0) (by omega)
 have zc:=qtz s (by omega) (LxS.nil 0 0 12) j2
 obtain⟨t,ht⟩ : ∃ t,qgH 12 2 6 s (0+qbc false ((byl s).drop 0))=t:=⟨_,rfl⟩
 have hn:=qny s s.size (i:=0) (by omega) ht
 rw[show toks s=qdU 12 2 6 s (s.size+1) 0 from rfl,hn]
 rw[ht] at zc
 by_cases hend:t.bad≠0\/t.s.size=0
 ·rw[if_pos hend]
  have z:=qrI zs zc ((qgz t).2 hend)
  simp only[Yt] at z
  refine qab (pf:=F249) rfl rfl ?_
  simp[F249,z,ptC,qhj,Wa]
 ·rw[if_neg hend]
  obtain⟨q1,q2⟩:=qt4 s (i:=0) (by omega) ht hend
  have hb:t.bad=0:=by simp only[not_or,ne_eq,Decidable.not_not] at hend; exact hend.1
  have hk : ¬ (kindT t=0\/kindT t=6):=fun h=>hend ((qgz t).1 h)
  simp only[not_or] at hk
  have z:=qrH zs zc (by rw[qaX hb,qag _ (by omega)]) (decide_eq_false hk.1) (decide_eq_false hk.2)
  have hT:qhj (kindT t) t.s t.at_ (valT t) t.bad=ptT t:=by show _=qhj (kindT t) (qhx t) t.at_ (valT t) t.bad; rw[qaX hb]
  rw[qaX hb,hT] at z
  obtain⟨k,x,a,v,c,ih⟩:=qjD s hl s.size (t.at_+t.s.size) (ptT t) 1 (by omega) q2 (by omega) (by simp only[qhj,We,Wk]) (by omega)
  have e1:((t.at_:Int)+t.s.size)=((t.at_+t.s.size:Nat):Int):=by omega
  rw[e1,ih] at z
  simp only[Yt] at z
  have e2:ptT t++ptC (qdU 12 2 6 s s.size (t.at_+t.s.size))=ptC (t::qdU 12 2 6 s s.size (t.at_+t.s.size)):=rfl
  rw[e2] at z
  have e3:1+(qdU 12 2 6 s s.size (t.at_+t.s.size)).length=(t::qdU 12 2 6 s s.size (t.at_+t.s.size)).length:=by rw[We]; omega
  rw[e3] at z
  generalize t::qdU 12 2 6 s s.size (t.at_+t.s.size)=T at z ⊢
  refine qab (pf:=F249) rfl rfl ?_
  simp[F249,z,Wa]
end
section
open F
attribute [local simp] qbm qcc dkey
abbrev PS(s:ByteArray)(T:List Tk)(i a c:Int):S:=[pO s 1 (.gsl (ptC T) T.length 5 2) i a c,.map kwM,.tip (ptC T).length]
theorem qmK : ∀ (T:List Tk) (i:Nat),(ptC T).drop (i*5)=ptC (T.drop i)
 |[],i=>by simp[ptC]
 |t::T,0=>by simp
 |t::T,i+1=>by
  rw[show (i+1)*5=i*5+5 by omega]
  simp only[ptC,qhj,Wi,Wc,YE]
  exact qmK T i
theorem qus{T:List Tk}{i:Nat}{t:Tk}{r:List Tk}(h:T.drop i=t::r):qah (ptC T) (i*5) 5=some [.lit (.int .i64 (kindT t)),.lit (.string (qhx t)),.lit (.int .i64 t.at_),.lit (.int .i64 (valT t)),.lit (.int .i64 t.bad)]:=by
 unfold qah
 rw[qmK,h]
 simp[ptC,qhj]
section
variable{s:ByteArray}{T:List Tk}{i:Nat}{a c:Int}{t:Tk}{r:List Tk}
theorem qmL(h:T.drop i=t::r):i<T.length:=by
 have:=congrArg List.length h
 rw[W7,We] at this
 omega
theorem qca(h:T.drop i=t::r)(hb:t.bad=0):Z tP (.call 252 [.ptr 0 0] (PS s T i a c))=some (.ret (ptk t) (PS s T i a c)):=by
 have hlt:(i:Int)<T.length:=by have:=qmL h; omega
 have hc:=qus h
 have hk : ¬ kindT t=6:=fun e=>by
  unfold kindT at e
  rw[if_neg (by simp[hb])] at e
  revert e
  split<;>(try split)<;>(try split)<;>omega
 refine qab (pf:=F252) rfl rfl ?_
 simp[F252,qae,hlt,hc,hk,Wa]
end
end
section
open F
attribute [local simp] qbm qcc dkey
def WfQ(T:List Tk):Prop := ∀ i t,T.drop i=[t]->t.bad≠0\/t.s=⟨#[]⟩
section
variable{s:ByteArray}{T:List Tk}{i:Nat}{a c:Int}{t:Tk}{r:List Tk}
theorem WfQ.next(hw:WfQ T)(h:T.drop i=t::r)(hb:t.bad=0)(hs:t.s≠⟨#[]⟩):T.drop (i+1)=r/\r≠[]:=by
 refine⟨by rw[<- List.drop_drop,h]; rfl,?_⟩
 rintro rfl
 rcases hw i t h with h1|h1
 ·exact h1 hb
 ·exact hs h1
theorem qlz(hb:t.bad=0):(kindT t=0)=(t.s=⟨#[]⟩):=by
 have:=qgz t
 apply propext
 constructor
 ·intro h
  rcases this.1 (.inl h) with h1|h1
  ·exact absurd hb h1
  ·have hbl:byl t.s=[]:=WP (by rw[qaZ]; exact h1)
   have:=qdR t.s
   rw[hbl] at this
   exact this.symm
 ·intro h
  unfold kindT
  rw[if_neg (by simp[hb]),if_pos h]
theorem qcx(h:T.drop i=t::r)(hb:t.bad=0){d:D}{l:List ByteArray}(hd:RowS d l)(hl:l.length<2 ^ 40)(hn:(⟨#[]⟩:ByteArray)∉l):Z tP (.call 269 [.ptr 0 0,.dat d] (PS s T i a c))=some (.ret (.bool (decide (t.s∈l))) (PS s T i a c)):=by
 have zp:=qca (s:=s) (a:=a) (c:=c) h hb
 have zc:=qob hd hl t.s
 have ho:=hd.one
 have hcl:=hd.cells
 have ht:=qaX hb
 have hk:=qlz hb
 simp only[PS,pO,ptk,ptD,ht] at zp
 refine qab (pf:=F269) rfl rfl ?_
 by_cases h0:t.s=⟨#[]⟩
 ·have hk0:decide (kindT t=0)=true:=decide_eq_true (hk.mpr h0)
  have hm:t.s∉l:=by rw[h0]; exact hn
  simp[F269,zp,zc,ho,hcl,hk0,hm,Wa]
 ·have hk0:decide (kindT t=0)=false:=decide_eq_false (fun e=>h0 (hk.mp e))
  simp[F269,zp,zc,ho,hcl,hk0,Wa]
theorem qcy(h:T.drop i=t::r)(hb:t.bad=0)(hl:T.length<2 ^ 40):Z tP (.call 277 [.ptr 0 0] (PS s T i a c))=some (.ret (ptk t) (PS s T ((i+1:Nat):Int) a c)):=by
 have zp:=qca (s:=s) (a:=a) (c:=c) h hb
 have hlt:=qmL h
 have w1:=qag ((i:Int)+1) (by omega)
 simp only[PS,pO,ptk,ptD] at zp
 refine qab (pf:=F277) rfl rfl ?_
 simp[F277,zp,w1,Wa]
theorem qjC(h:T.drop i=t::r)(hb:t.bad=0)(hl:T.length<2 ^ 40)(hx:t.s≠⟨#[]⟩):Z tP (.call 253 [.ptr 0 0,.str t.s] (PS s T i a c))=some (.ret (.tup []) (PS s T ((i+1:Nat):Int) a c)):=by
 have zi:=qcx (s:=s) (a:=a) (c:=c) h hb (qaU [t.s] true) (by simp) (by simp; exact fun e=>hx e.symm)
 have hlt:=qmL h
 have w1:=qag ((i:Int)+1) (by omega)
 simp only[PS,pO,qb3,Wy,WD,Ws,Wl,decide_true] at zi
 refine qab (pf:=F253) rfl rfl ?_
 simp[F253,zi,w1,Wa]
end
end
section
open F
attribute [local simp] qbm qcc dkey
def fnP:Nat->Nat
 |1=>279|2=>287|3=>290|4=>292|5=>297|6=>304|7=>308|_=>309
def clF:Nat->Nat
 |1=>286|2=>289|5=>303|_=>307
def qjp:Nat->List ByteArray
 |1=>[⟨#[124,124]⟩] | 2=>[⟨#[38,38]⟩] | 5=>[⟨#[43]⟩,⟨#[45]⟩] | _=>[⟨#[42]⟩,⟨#[47]⟩]
def qgs(p:Nat):Prop:=p=1\/p=2\/p=5\/p=6
abbrev CS(s:ByteArray)(T:List Tk)(lv:Int)(i a c:Int):S:=[.cells [.ptr 2 0],.cells [.int lv],pO s 3 (.gsl (ptC T) T.length 5 4) i a c,.map kwM,.tip (ptC T).length]
abbrev BS(s:ByteArray)(T:List Tk)(lv:Int)(i a c:Int):S:=[pO s 3 (.gsl (ptC T) T.length 5 4) i a c,.cells [.ptr 0 0],.cells [.int lv],.map kwM,.tip (ptC T).length]
abbrev ndO(e:E):Ob := .cells [.int e.kind,.int e.num,.str e.str,.dat e.kids]
abbrev nd0:Ob := .cells [.int 0,.int 0,.str ⟨#[]⟩,.dat (.lit (.slice none 0 0))]
abbrev BL(s:ByteArray)(T:List Tk)(lv:Int)(i a c:Int)(e:E):S:=[pO s 3 (.gsl (ptC T) T.length 5 4) i a c,.cells [.ptr 0 0],.cells [.int lv],.map kwM,.tip (ptC T).length,nd0,ndO e]
abbrev bqF(g:Nat)(d:D):Fr:=[(0,.ptr 0 0),(1,.fn g [] [.ptr 1 0,.ptr 2 0]),(2,.dat d),(6,.ptr 5 0),(7,.ptr 6 0)]
section
variable{s:ByteArray}{T:List Tk}{i i':Nat}{lv:Int}{t:Tk}{r:List Tk}{p:Nat}
theorem qpU(hp:qgs p){e:E}(z:Z tP (.call (fnP (p+1)) [.ptr 0 0,.int lv] (PS s T i 0 12))=some (.ret e.node (PS s T i' 0 12))):Z tP (.call (clF p) [.ptr 0 0,.ptr 1 0] (CS s T lv i 0 12))=some (.ret e.node (CS s T lv i' 0 12)):=by
 simp only[PS,pO] at z
 rcases hp with rfl|rfl|rfl|rfl
 ·refine qab (pf:=F286) rfl rfl ?_
  simp only[fnP] at z
  simp[F286,z,Wa]
 ·refine qab (pf:=F289) rfl rfl ?_
  simp only[fnP] at z
  simp[F289,z,Wa]
 ·refine qab (pf:=F303) rfl rfl ?_
  simp only[fnP] at z
  simp[F303,z,Wa]
 ·refine qab (pf:=F307) rfl rfl ?_
  simp only[fnP] at z
  simp[F307,z,Wa]
theorem qsh{g:Nat}{d:D}{l:List ByteArray}(hd:RowS d l)(hl:l.length<2 ^ 40)(hn:(⟨#[]⟩:ByteArray)∉l)(h:T.drop i=t::r)(hb:t.bad=0)(hm:t.s∉l)(e:E):Z tP (.loop 5 F285l0 (bqF g d) (BL s T lv i 0 12 e))=some (.out (.exit 0) (bqF g d++[(13,.bool false)]) (BL s T lv i 0 12 e)):=by
 have zi:=qcx (s:=s) (a:=0) (c:=12) h hb hd hl hn
 have ho:=hd.one
 have hcl:=hd.cells
 simp only[PS,pO,hm,decide_false] at zi
 rw[qac]
 simp[qad,qjb,zi,ho,hcl,Wa]
theorem qpV {g:Nat} {d:D} {l:List ByteArray} (hd:RowS d l) (hl:l.length<2 ^ 40) (hT:T.length<2 ^ 40) (hn:(⟨#[]⟩:ByteArray)∉l) (h:T.drop i=t::r) (hb:t.bad=0) (hm:t.s∈l) {o:Bop} (ho':t.s=o.str) (e e':E)
  (z:Z tP (.call g [.ptr 0 0,.ptr 1 0] (CS s T lv ((i+1:Nat):Int) 0 12))=some (.ret e'.node (CS s T lv i' 0 12))):Z tP (.loop 5 F285l0 (bqF g d) (BL s T lv i 0 12 e))=Z tP (.loop 5 F285l0 (bqF g d) (BL s T lv i' 0 12 (.bin true o e e'))):=by
 have zi:=qcx (s:=s) (a:=0) (c:=12) h hb hd hl hn
 have zt:=qcy (s:=s) (a:=0) (c:=12) h hb hT
 have ho:=hd.one
 have hcl:=hd.cells
 have htx:=qaX hb
 simp only[PS,pO,hm,decide_true] at zi
 simp only[PS,pO,ptk,ptD,htx,ho'] at zt
 simp only[CS,pO] at z
 simp only[WE,Wv] at z zt
 conv=>lhs; rw[qac]
 simp[qad,qjb,zi,zt,z,ho,hcl,qaI,qan,qc6,qeH,qdY,still,V.same,Wa]
 rfl
end
end
section
open F
attribute [local simp] qbm qcc dkey
theorem qwH{p:Nat}(hp:qgs p){y:ByteArray}{o:Bop}(h:qq3 p y=some o):y=o.str/\y∈qjp p:=by
 have h1:o.str=y:=by have:=List.find?_some h; simpa using this
 have h2:=List.mem_of_find?_eq_some h
 subst h1
 refine⟨rfl,?_⟩
 rcases hp with rfl|rfl|rfl|rfl<;>simp only[Wr,Wt,or_false] at h2
 ·subst h2; decide
 ·subst h2; decide
 ·rcases h2 with rfl|rfl<;>decide
 ·rcases h2 with rfl|rfl<;>decide
theorem qwI{p:Nat}(hp:qgs p){y:ByteArray}(h:qq3 p y=none):y∉qjp p:=by
 have h2:=YI.1 h
 rcases hp with rfl|rfl|rfl|rfl<;>simp only[Wr,Wt,or_false] at h2
 ·intro hm
  exact h2 .or rfl (by simpa [qjp,Bop.str,eq_comm] using hm)
 ·intro hm
  exact h2 .and rfl (by simpa [qjp,Bop.str,eq_comm] using hm)
 ·intro hm
  simp only[qjp,Wr,Wt,or_false] at hm
  rcases hm with rfl|rfl
  ·exact h2 .add (.inl rfl) (by decide)
  ·exact h2 .sub (.inr rfl) (by decide)
 ·intro hm
  simp only[qjp,Wr,Wt,or_false] at hm
  rcases hm with rfl|rfl
  ·exact h2 .mul (.inl rfl) (by decide)
  ·exact h2 .div (.inr rfl) (by decide)
theorem qud{p:Nat}(hp:qgs p):(⟨#[]⟩:ByteArray)∉qjp p/\(qjp p).length<2 ^ 40:=by
 rcases hp with rfl|rfl|rfl|rfl<;>exact⟨by decide,by decide⟩
end
section
open F
attribute [local simp] qbm qcc dkey
section
variable{s:ByteArray}{T:List Tk}{lv i i' i2:Nat}{g:Nat}{d:D}{e e':E}{a c:Int}
theorem qCw (ho:V.one (.dat d)=true) (hc:V.cells (.dat d)=[.dat d])
  (z:Z tP (.call g [.ptr 0 0,.ptr 1 0] (CS s T lv i 0 12))=some (.ret e.node (CS s T lv i' 0 12)))
  (zl:Z tP (.loop 5 F285l0 (bqF g d) (BL s T lv i' 0 12 e))=some (.out (.exit 0) (bqF g d++[(13,.bool false)]) (BL s T lv i2 0 12 e'))) :
  Z tP (.call 285 [.ptr 0 0,.fn g [] [.ptr 1 0,.ptr 2 0],.dat d] (BS s T lv i 0 12))=some (.ret e'.node (BS s T lv i2 0 12)):=by
 simp only[CS,BL,pO,ndO] at z zl
 refine qab (pf:=F285) rfl rfl ?_
 simp[F285,z,zl,ho,hc,Wa]
theorem qCx {p:Nat} (hp:qgs p) (z:Z tP (.call 285 [.ptr 0 0,.fn (clF p) [] [.ptr 1 0,.ptr 2 0],.dat (.sl (qb3 (qjp p)) (qjp p).length true)] (BS s T lv i 0 12))=some (.ret e.node (BS s T lv i' 0 12))) :
  Z tP (.call (fnP p) [.ptr 0 0,.int lv] (PS s T i 0 12))=some (.ret e.node (PS s T i' 0 12)):=by
 simp only[BS,pO] at z
 rcases hp with rfl|rfl|rfl|rfl
 ·refine qab (pf:=F279) rfl rfl ?_
  simp only[clF,qjp,qb3,Wy,WD,We,Wk] at z
  simp[F279,z,Wa]
 ·refine qab (pf:=F287) rfl rfl ?_
  simp only[clF,qjp,qb3,Wy,WD,We,Wk] at z
  simp[F287,z,Wa]
 ·refine qab (pf:=F297) rfl rfl ?_
  simp only[clF,qjp,qb3,Wy,WD,We,Wk] at z
  simp[F297,z,Wa]
 ·refine qab (pf:=F304) rfl rfl ?_
  simp only[clF,qjp,qb3,Wy,WD,We,Wk] at z
  simp[F304,z,Wa]
end
end
section
open F
attribute [local simp] qbm qcc dkey
def qsY:List ByteArray:=[⟨#[60]⟩,⟨#[60,61]⟩,⟨#[62]⟩,⟨#[62,61]⟩,⟨#[61,61]⟩,⟨#[33,61]⟩]
theorem qsZ{y:ByteArray}{o:Bop}(h:qq3 4 y=some o):y=o.str/\y∈qsY:=by
 have h1:o.str=y:=by have:=List.find?_some h; simpa using this
 have h2:=List.mem_of_find?_eq_some h
 subst h1
 refine⟨rfl,?_⟩
 simp only[Wr,Wt,or_false] at h2
 rcases h2 with rfl|rfl|rfl|rfl|rfl|rfl<;>decide
theorem qs0{y:ByteArray}(h:qq3 4 y=none):y∉qsY:=by
 have h2:=YI.1 h
 intro hm
 simp only[qsY,Wr,Wt,or_false] at hm
 simp only[Wr,Wt,or_false] at h2
 rcases hm with rfl|rfl|rfl|rfl|rfl|rfl
 ·exact h2 .lt (by simp) (by decide)
 ·exact h2 .le (by simp) (by decide)
 ·exact h2 .gt (by simp) (by decide)
 ·exact h2 .ge (by simp) (by decide)
 ·exact h2 .eq (by simp) (by decide)
 ·exact h2 .ne (by simp) (by decide)
section
variable{s:ByteArray}{T:List Tk}{lv i i' i2:Nat}{e e':E}{a c:Int}{t:Tk}{r:List Tk}
theorem qA1(z:Z tP (.call 297 [.ptr 0 0,.int lv] (PS s T i 0 12))=some (.ret e.node (PS s T i' 0 12)))(h:T.drop i'=t::r)(hb:t.bad=0)(hm:t.s∉qsY):Z tP (.call 292 [.ptr 0 0,.int lv] (PS s T i 0 12))=some (.ret e.node (PS s T i' 0 12)):=by
 have zi:=qcx (s:=s) (a:=0) (c:=12) h hb (qaU qsY true) (by decide) (by decide)
 simp only[PS,pO] at z
 simp only[hm,decide_false] at zi
 simp only[PS,pO,qsY,qb3,Wy,WD,We,Wk] at zi
 refine qab (pf:=F292) rfl rfl ?_
 simp[F292,z,zi,Wa]
theorem qCq (hT:T.length<2 ^ 40) (z:Z tP (.call 297 [.ptr 0 0,.int lv] (PS s T i 0 12))=some (.ret e.node (PS s T i' 0 12))) (h:T.drop i'=t::r) (hb:t.bad=0) (hm:t.s∈qsY) {o:Bop} (hs:t.s=o.str)
  (z2:Z tP (.call 297 [.ptr 0 0,.int lv] (PS s T ((i'+1:Nat):Int) 0 12))=some (.ret e'.node (PS s T i2 0 12))):Z tP (.call 292 [.ptr 0 0,.int lv] (PS s T i 0 12))=some (.ret (E.bin true o e e').node (PS s T i2 0 12)):=by
 have zi:=qcx (s:=s) (a:=0) (c:=12) h hb (qaU qsY true) (by decide) (by decide)
 have zt:=qcy (s:=s) (a:=0) (c:=12) h hb hT
 have htx:=qaX hb
 simp only[PS,pO] at z z2
 simp only[hm,decide_true] at zi
 simp only[PS,pO,qsY,qb3,Wy,WD,We,Wk] at zi
 simp only[PS,pO,ptk,ptD,htx,hs] at zt
 simp only[WE,Wv] at z2 zt
 refine qab (pf:=F292) rfl rfl ?_
 simp[F292,z,zi,zt,z2,qaI,qan,qc6,qeH,qdY,still,V.same,Wa]
 try rfl
end
end
section
open F
attribute [local simp] qbm qcc dkey
def unF(neg:Bool):Nat:=if neg then 308 else 290
def unG(neg:Bool):Nat:=if neg then 309 else 292
section
variable{s:ByteArray}{T:List Tk}{lv i i' i2:Nat}{e e':E}{a c:Int}{t:Tk}{r:List Tk}{neg:Bool}
theorem qBG(h:T.drop i=t::r)(hb:t.bad=0)(hm:t.s≠ustr neg)(z:Z tP (.call (unG neg) [.ptr 0 0,.int lv] (PS s T i 0 12))=some (.ret e.node (PS s T i' 0 12))):Z tP (.call (unF neg) [.ptr 0 0,.int lv] (PS s T i 0 12))=some (.ret e.node (PS s T i' 0 12)):=by
 have zi:=qcx (s:=s) (a:=0) (c:=12) h hb (qaU [ustr neg] true) (by simp) (by cases neg<;>decide)
 simp only[Wl,hm,decide_false] at zi
 simp only[PS,pO] at z
 cases neg
 ·simp only[unG,Wp,if_false] at z
  simp only[PS,pO,ustr,qb3,Wy,WD,Ws,Wp,if_false] at zi
  refine qab (pf:=F290) rfl rfl ?_
  simp[F290,z,zi,Wa]
 ·simp only[unG,if_true] at z
  simp only[PS,pO,ustr,qb3,Wy,WD,Ws,if_true] at zi
  refine qab (pf:=F308) rfl rfl ?_
  simp[F308,z,zi,Wa]
theorem qCo (hlv:lv<=20) (h:T.drop i=t::r) (hb:t.bad=0) (hm:t.s=ustr neg) (zo:Z tP (.call 270 [.ptr 0 0,.str (ustr neg),.int ((lv+1:Nat):Int)] (PS s T i 0 12))=some (.ret (.tup []) (PS s T i' 0 12)))
  (z:Z tP (.call (unF neg) [.ptr 0 0,.int ((lv+1:Nat):Int)] (PS s T i' 0 12))=some (.ret e.node (PS s T i2 0 12))):Z tP (.call (unF neg) [.ptr 0 0,.int lv] (PS s T i 0 12))=some (.ret (E.un true neg e).node (PS s T i2 0 12)):=by
 have zi:=qcx (s:=s) (a:=0) (c:=12) h hb (qaU [ustr neg] true) (by simp) (by cases neg<;>decide)
 have w1:=qag ((lv:Int)+1) (by omega)
 simp only[Wl,hm,decide_true] at zi
 simp only[PS,pO] at zo z
 simp only[WE,Wv] at zo z
 cases neg
 ·simp only[PS,pO,unF,ustr,qb3,Wy,WD,Ws,Wp,if_false] at zi zo z
  refine qab (pf:=F290) rfl rfl ?_
  simp[F290,zo,zi,z,w1,Wa]
  rfl
 ·simp only[PS,pO,unF,ustr,qb3,Wy,WD,Ws,if_true] at zi zo z
  refine qab (pf:=F308) rfl rfl ?_
  simp[F308,zo,zi,z,w1,Wa]
  rfl
end
end
section
open F
attribute [local simp] qbm qcc dkey
def qgG:ByteArray:=⟨#[116,114,117,101]⟩
def qeP:ByteArray:=⟨#[102,97,108,115,101]⟩
def qlX:List ByteArray:=[⟨#[115,101,108,102]⟩,⟨#[111,116,104,101,114]⟩,⟨#[116,105,99,107]⟩]
section
variable{s:ByteArray}{T:List Tk}{lv i i' i2 i3:Nat}{e e':E}{a c:Int}{t:Tk}{r:List Tk}
theorem qzP(hT:T.length<2 ^ 40)(h:T.drop i=t::r)(hb:t.bad=0)(hk:kindT t=4):Z tP (.call 309 [.ptr 0 0,.int lv] (PS s T i 0 12))=some (.ret (E.int (valT t)).node (PS s T ((i+1:Nat):Int) 0 12)):=by
 have zp:=qca (s:=s) (a:=0) (c:=12) h hb
 have zt:=qcy (s:=s) (a:=0) (c:=12) h hb hT
 simp only[PS,pO,ptk,ptD,hk] at zp zt
 refine qab (pf:=F309) rfl rfl ?_
 simp[F309,zp,zt,Wa]
 try rfl
theorem qzQ(hT:T.length<2 ^ 40)(h:T.drop i=t::r)(hb:t.bad=0)(hk:kindT t=1):Z tP (.call 309 [.ptr 0 0,.int lv] (PS s T i 0 12))=some (.ret (E.var t.s).node (PS s T ((i+1:Nat):Int) 0 12)):=by
 have zp:=qca (s:=s) (a:=0) (c:=12) h hb
 have zt:=qcy (s:=s) (a:=0) (c:=12) h hb hT
 simp only[PS,pO,ptk,ptD,hk,qaX hb] at zp zt
 refine qab (pf:=F309) rfl rfl ?_
 simp[F309,zp,zt,Wa]
 try rfl
theorem qzR(h:T.drop i=t::r)(hb:t.bad=0)(hk:kindT t=3)(z:Z tP (.call 280 [.ptr 0 0,.int lv] (PS s T i 0 12))=some (.ret e.node (PS s T i' 0 12))):Z tP (.call 309 [.ptr 0 0,.int lv] (PS s T i 0 12))=some (.ret (E.field true t.s e).node (PS s T i' 0 12)):=by
 have zp:=qca (s:=s) (a:=0) (c:=12) h hb
 simp only[PS,pO,ptk,ptD,hk,qaX hb] at zp z
 refine qab (pf:=F309) rfl rfl ?_
 simp[F309,zp,z,qaI,qan,qc6,qeH,qdY,still,V.same,Wa]
 try rfl
theorem qxd(hT:T.length<2 ^ 40)(h:T.drop i=t::r)(hb:t.bad=0)(hk:kindT t=2)(hm:t.s=qgG):Z tP (.call 309 [.ptr 0 0,.int lv] (PS s T i 0 12))=some (.ret (E.bool 1).node (PS s T ((i+1:Nat):Int) 0 12)):=by
 have zp:=qca (s:=s) (a:=0) (c:=12) h hb
 have zt:=qcy (s:=s) (a:=0) (c:=12) h hb hT
 have z1:=qcx (s:=s) (a:=0) (c:=12) h hb (qaU [qgG] true) (by simp) (by decide)
 simp only[hm,Wl,decide_true] at z1
 simp only[PS,pO,ptk,ptD,hk] at zp zt
 simp only[PS,pO,qgG,qb3,Wy,WD,Ws] at z1
 refine qab (pf:=F309) rfl rfl ?_
 simp[F309,zp,zt,z1,Wa]
 try rfl
theorem qun(hT:T.length<2 ^ 40)(h:T.drop i=t::r)(hb:t.bad=0)(hk:kindT t=2)(hm:t.s=qeP):Z tP (.call 309 [.ptr 0 0,.int lv] (PS s T i 0 12))=some (.ret (E.bool 0).node (PS s T ((i+1:Nat):Int) 0 12)):=by
 have zp:=qca (s:=s) (a:=0) (c:=12) h hb
 have zt:=qcy (s:=s) (a:=0) (c:=12) h hb hT
 have z1:=qcx (s:=s) (a:=0) (c:=12) h hb (qaU [qgG] true) (by simp) (by decide)
 have z2:=qcx (s:=s) (a:=0) (c:=12) h hb (qaU [qeP] true) (by simp) (by decide)
 have hne:qeP≠qgG:=by decide
 simp only[hm,Wl,hne,decide_false,decide_true] at z1 z2
 simp only[PS,pO,ptk,ptD,hk] at zp zt
 simp only[PS,pO,qgG,qeP,qb3,Wy,WD,Ws] at z1 z2
 refine qab (pf:=F309) rfl rfl ?_
 simp[F309,zp,zt,z1,z2,Wa]
 try rfl
theorem qxe(hT:T.length<2 ^ 40)(h:T.drop i=t::r)(hb:t.bad=0)(hk:kindT t=2)(hm:t.s∈qlX):Z tP (.call 309 [.ptr 0 0,.int lv] (PS s T i 0 12))=some (.ret (E.name t.s).node (PS s T ((i+1:Nat):Int) 0 12)):=by
 have zp:=qca (s:=s) (a:=0) (c:=12) h hb
 have zt:=qcy (s:=s) (a:=0) (c:=12) h hb hT
 have z1:=qcx (s:=s) (a:=0) (c:=12) h hb (qaU [qgG] true) (by simp) (by decide)
 have z2:=qcx (s:=s) (a:=0) (c:=12) h hb (qaU [qeP] true) (by simp) (by decide)
 have z3:=qcx (s:=s) (a:=0) (c:=12) h hb (qaU qlX true) (by decide) (by decide)
 have n1:t.s≠qgG:=fun e=>absurd (e ▸ hm) (by decide)
 have n2:t.s≠qeP:=fun e=>absurd (e ▸ hm) (by decide)
 simp only[hm,Wl,n1,n2,decide_false,decide_true] at z1 z2 z3
 simp only[PS,pO,ptk,ptD,hk,qaX hb] at zp zt
 simp only[PS,pO,qgG,qeP,qlX,qb3,Wy,WD,We,Wk] at z1 z2 z3
 refine qab (pf:=F309) rfl rfl ?_
 simp[F309,zp,zt,z1,z2,z3,Wa]
 try rfl
end
end
section
open F
attribute [local simp] qbm qcc dkey
section
variable{s:ByteArray}{T:List Tk}{lv i i' i2 i3:Nat}{e:E}{a c:Int}{t:Tk}{r:List Tk}
theorem qAE (hlv:lv<=20) (h:T.drop i=t::r) (hb:t.bad=0) (h4:decide (kindT t=4)=false) (h1:decide (kindT t=1)=false) (h3:decide (kindT t=3)=false) (n1:t.s≠qgG) (n2:t.s≠qeP) (n3:t.s∉qlX)
  (zo:Z tP (.call 270 [.ptr 0 0,.str ⟨#[40]⟩,.int ((lv+1:Nat):Int)] (PS s T i 0 12))=some (.ret (.tup []) (PS s T i' 0 12)))
  (ze:Z tP (.call 279 [.ptr 0 0,.int ((lv+1:Nat):Int)] (PS s T i' 0 12))=some (.ret e.node (PS s T i2 0 12)))
  (zc:Z tP (.call 253 [.ptr 0 0,.str ⟨#[41]⟩] (PS s T i2 0 12))=some (.ret (.tup []) (PS s T i3 0 12))):Z tP (.call 309 [.ptr 0 0,.int lv] (PS s T i 0 12))=some (.ret e.node (PS s T i3 0 12)):=by
 have w1:=qag ((lv:Int)+1) (by omega)
 have zp:=qca (s:=s) (a:=0) (c:=12) h hb
 have z1:=qcx (s:=s) (a:=0) (c:=12) h hb (qaU [qgG] true) (by simp) (by decide)
 have z2:=qcx (s:=s) (a:=0) (c:=12) h hb (qaU [qeP] true) (by simp) (by decide)
 have z3:=qcx (s:=s) (a:=0) (c:=12) h hb (qaU qlX true) (by decide) (by decide)
 simp only[Wl,n1,n2,n3,decide_false] at z1 z2 z3
 simp only[PS,pO,ptk,ptD,qaX hb] at zp
 simp only[PS,pO,qgG,qeP,qlX,qb3,Wy,WD,We,Wk] at z1 z2 z3
 simp only[PS,pO] at zo ze zc
 simp only[WE,Wv] at zo ze
 refine qab (pf:=F309) rfl rfl ?_
 simp[F309,zp,z1,z2,z3,h4,h1,h3,w1,zo,ze,zc,qbh,Wa]
theorem qAF (hlv:lv<=20) (hT:T.length<2 ^ 40) (h:T.drop i=t::r) (hb:t.bad=0)
  (zo:Z tP (.call 270 [.ptr 0 0,.str ⟨#[91]⟩,.int ((lv+1:Nat):Int)] (PS s T ((i+1:Nat):Int) 0 12))=some (.ret (.tup []) (PS s T i' 0 12)))
  (ze:Z tP (.call 279 [.ptr 0 0,.int ((lv+1:Nat):Int)] (PS s T i' 0 12))=some (.ret e.node (PS s T i2 0 12)))
  (zc:Z tP (.call 253 [.ptr 0 0,.str ⟨#[93]⟩] (PS s T i2 0 12))=some (.ret (.tup []) (PS s T i3 0 12))):Z tP (.call 280 [.ptr 0 0,.int lv] (PS s T i 0 12))=some (.ret e.node (PS s T i3 0 12)):=by
 have w1:=qag ((lv:Int)+1) (by omega)
 have zt:=qcy (s:=s) (a:=0) (c:=12) h hb hT
 simp only[PS,pO,ptk,ptD] at zt
 simp only[WE,Wv] at zt
 simp only[PS,pO] at zo ze zc
 simp only[WE,Wv] at zo ze
 refine qab (pf:=F280) rfl rfl ?_
 simp[F280,zt,w1,zo,ze,zc,qbh,Wa]
end
end
section
open F
def qj3(w:ByteArray):Int:=if w=⟨#[]⟩ then 0 else if qaY qbg w then (if w∈fieldNames then 3 else if w∈wordNames then 2 else 1) else if qaY qaF w then 4 else 5
theorem qcO{t:Tk}(hb:t.bad=0):kindT t=qj3 t.s:=by unfold kindT qj3; rw[if_neg (by simp[hb])]
theorem qpq(w:ByteArray):qaY qaF w=true->w≠⟨#[]⟩/\qaY qbg w=false:=by
 rw[qbG,qbG]
 intro h
 refine⟨?_,?_⟩
 ·rintro rfl
  exact absurd h (by decide)
 ·cases hh:(byl w).head? with
  |none=>rfl
  |some c=>
   rw[hh] at h
   simp only at h ⊢
   by_cases hl:qbg c=true
   ·rw[qpg hl] at h; cases h
   ·simpa using hl
theorem qgj{w:ByteArray}(h:qaY qbg w=true):w≠⟨#[]⟩:=by
 rintro rfl
 exact absurd h (by decide)
end
section
open F
attribute [local simp] qbm qcc dkey
def ifT:ByteArray:=⟨#[105,102]⟩
def qfF:ByteArray:=⟨#[119,104,105,108,101]⟩
def qeN:ByteArray:=⟨#[101,102,102,101,99,116]⟩
def qnO:ByteArray:=⟨#[115,116,111,112]⟩
abbrev nv(k:Int)(x:ByteArray)(d:D):V := .dat (.agg [.lit (.int .i64 k),.lit (.int .i64 0),.lit (.string x),d])
abbrev cE(e:E):List D:=[.lit (.int .i64 e.kind),.lit (.int .i64 e.num),.lit (.string e.str),e.kids]
section
variable{s:ByteArray}{T:List Tk}{lv i i1 i2 i3 i4:Nat}{e e':E}{a c:Int}{t:Tk}{r:List Tk}{d:D}
theorem qzN{k:Int}{x:ByteArray}(o:V.one (.dat d)=true)(oc:V.cells (.dat d)=[.dat d])(z:Z tP (.call 253 [.ptr 0 0,.str ⟨#[59]⟩] (PS s T i 0 12))=some (.ret (.tup []) (PS s T i1 0 12))):Z tP (.call 278 [.ptr 0 0,nv k x d] (PS s T i 0 12))=some (.ret (nv k x d) (PS s T i1 0 12)):=by
 simp only[PS,pO] at z
 refine qab (pf:=F278) rfl rfl ?_
 simp[F278,z,o,oc,Wa]
theorem qlV (hlv:lv<=20) (hT:T.length<2 ^ 40) (h:T.drop i=t::r) (hb:t.bad=0) (hk:kindT t=1)
  (z1:Z tP (.call 253 [.ptr 0 0,.str ⟨#[61]⟩] (PS s T ((i+1:Nat):Int) 0 12))=some (.ret (.tup []) (PS s T i1 0 12)))
  (z2:Z tP (.call 279 [.ptr 0 0,.int lv] (PS s T i1 0 12))=some (.ret (e).node (PS s T i2 0 12)))
  (z3:Z tP (.call 278 [.ptr 0 0,nv 1 t.s (.sl (cE e) 1 true)] (PS s T i2 0 12))=some (.ret (nv 1 t.s (.sl (cE e) 1 true)) (PS s T i3 0 12))):Z tP (.call 271 [.ptr 0 0,.int lv] (PS s T i 0 12))=some (.ret (nv 1 t.s (.sl (cE e) 1 true)) (PS s T i3 0 12)):=by
 have w1:=qag ((lv:Int)+1) (by omega)
 have zp:=qca (s:=s) (a:=0) (c:=12) h hb
 have zt:=qcy (s:=s) (a:=0) (c:=12) h hb hT
 simp only[PS,pO,ptk,ptD,hk,qaX hb] at zp zt
 simp only[PS,pO,cE,nv,Wi,Wc] at z1 z2 z3
 try simp only[WE,Wv] at zt z1 z2 z3
 refine qab (pf:=F271) rfl rfl ?_
 simp[F271,zp,zt,w1,z1,z2,z3,qbh,qbE,qaI,qan,qc6,qeH,qdY,still,V.same,Wa]
theorem qnP (hlv:lv<=20) (hT:T.length<2 ^ 40) (h:T.drop i=t::r) (hb:t.bad=0) (hk:kindT t=3)
  (z1:Z tP (.call 280 [.ptr 0 0,.int lv] (PS s T i 0 12))=some (.ret e.node (PS s T i1 0 12)))
  (z2:Z tP (.call 253 [.ptr 0 0,.str ⟨#[61]⟩] (PS s T i1 0 12))=some (.ret (.tup []) (PS s T i2 0 12)))
  (z3:Z tP (.call 279 [.ptr 0 0,.int lv] (PS s T i2 0 12))=some (.ret (e').node (PS s T i3 0 12)))
  (z4:Z tP (.call 278 [.ptr 0 0,nv 2 t.s (.sl (cE e++cE e') 2 true)] (PS s T i3 0 12))=some (.ret (nv 2 t.s (.sl (cE e++cE e') 2 true)) (PS s T i4 0 12))):Z tP (.call 271 [.ptr 0 0,.int lv] (PS s T i 0 12))=some (.ret (nv 2 t.s (.sl (cE e++cE e') 2 true)) (PS s T i4 0 12)):=by
 have w1:=qag ((lv:Int)+1) (by omega)
 have zp:=qca (s:=s) (a:=0) (c:=12) h hb
 have zt:=qcy (s:=s) (a:=0) (c:=12) h hb hT
 simp only[PS,pO,ptk,ptD,hk,qaX hb] at zp zt
 simp only[PS,pO,cE,nv,Wi,Wc] at z1 z2 z3 z4
 try simp only[WE,Wv] at zt z1 z2 z3 z4
 refine qab (pf:=F271) rfl rfl ?_
 simp[F271,zp,zt,w1,z1,z2,z3,z4,qbh,qbE,qaI,qan,qc6,qeH,qdY,still,V.same,Wa]
theorem qo6 (hlv:lv<=20) (hT:T.length<2 ^ 40) (h:T.drop i=t::r) (hb:t.bad=0) (h1:decide (kindT t=1)=false) (h3:decide (kindT t=3)=false) (hm:t.s=ifT) (od:V.one (.dat d)=true) (oc:V.cells (.dat d)=[.dat d])
  (z1:Z tP (.call 281 [.ptr 0 0,.int lv] (PS s T i 0 12))=some (.ret (nv 3 ⟨#[]⟩ d) (PS s T i1 0 12))):Z tP (.call 271 [.ptr 0 0,.int lv] (PS s T i 0 12))=some (.ret (nv 3 ⟨#[]⟩ d) (PS s T i1 0 12)):=by
 have w1:=qag ((lv:Int)+1) (by omega)
 have zp:=qca (s:=s) (a:=0) (c:=12) h hb
 have zt:=qcy (s:=s) (a:=0) (c:=12) h hb hT
 simp only[PS,pO,ptk,ptD,qaX hb] at zp zt
 have y0:=qcx (s:=s) (a:=0) (c:=12) h hb (qaU [ifT] true) (by simp) (by decide)
 simp only[hm,Wl,decide_true] at y0
 simp only[PS,pO,ifT,qb3,Wy,WD,Ws] at y0
 simp only[PS,pO,cE,nv,Wi,Wc] at z1
 try simp only[WE,Wv] at zt z1
 refine qab (pf:=F271) rfl rfl ?_
 simp[F271,zp,zt,w1,h1,h3,y0,od,oc,z1,qbh,qbE,qaI,qan,qc6,qeH,qdY,still,V.same,Wa]
theorem qnQ (hlv:lv<=20) (hT:T.length<2 ^ 40) (h:T.drop i=t::r) (hb:t.bad=0) (h1:decide (kindT t=1)=false) (h3:decide (kindT t=3)=false) (hm:t.s=qfF) (od:V.one (.dat d)=true) (oc:V.cells (.dat d)=[.dat d])
  (z1:Z tP (.call 279 [.ptr 0 0,.int lv] (PS s T ((i+1:Nat):Int) 0 12))=some (.ret (e).node (PS s T i1 0 12)))
  (z2:Z tP (.call 256 [.ptr 0 0,.int ((lv+1:Nat):Int)] (PS s T i1 0 12))=some (.ret (nv 7 ⟨#[]⟩ d) (PS s T i2 0 12))):Z tP (.call 271 [.ptr 0 0,.int lv] (PS s T i 0 12))=some (.ret (nv 4 ⟨#[]⟩ (.sl (cE e++[.lit (.int .i64 7),.lit (.int .i64 0),.lit (.string ⟨#[]⟩),d]) 2 true)) (PS s T i2 0 12)):=by
 have w1:=qag ((lv:Int)+1) (by omega)
 have zp:=qca (s:=s) (a:=0) (c:=12) h hb
 have zt:=qcy (s:=s) (a:=0) (c:=12) h hb hT
 simp only[PS,pO,ptk,ptD,qaX hb] at zp zt
 have y0:=qcx (s:=s) (a:=0) (c:=12) h hb (qaU [ifT] true) (by simp) (by decide)
 have q0:qfF≠ifT:=by decide
 simp only[hm,Wl,q0,decide_false] at y0
 simp only[PS,pO,ifT,qb3,Wy,WD,Ws] at y0
 have y1:=qcx (s:=s) (a:=0) (c:=12) h hb (qaU [qfF] true) (by simp) (by decide)
 simp only[hm,Wl,decide_true] at y1
 simp only[PS,pO,qfF,qb3,Wy,WD,Ws] at y1
 simp only[PS,pO,cE,nv,Wi,Wc] at z1 z2
 try simp only[WE,Wv] at zt z1 z2
 refine qab (pf:=F271) rfl rfl ?_
 simp[F271,zp,zt,w1,h1,h3,y0,y1,od,oc,z1,z2,qbh,qbE,qaI,qan,qc6,qeH,qdY,still,V.same,Wa]
theorem qlW (hlv:lv<=20) (hT:T.length<2 ^ 40) (h:T.drop i=t::r) (hb:t.bad=0) (h1:decide (kindT t=1)=false) (h3:decide (kindT t=3)=false) (hm:t.s=qeN)
  (z1:Z tP (.call 279 [.ptr 0 0,.int lv] (PS s T ((i+1:Nat):Int) 0 12))=some (.ret (e).node (PS s T i1 0 12)))
  (z2:Z tP (.call 253 [.ptr 0 0,.str ⟨#[44]⟩] (PS s T i1 0 12))=some (.ret (.tup []) (PS s T i2 0 12)))
  (z3:Z tP (.call 279 [.ptr 0 0,.int lv] (PS s T i2 0 12))=some (.ret (e').node (PS s T i3 0 12)))
  (z4:Z tP (.call 278 [.ptr 0 0,nv 5 ⟨#[]⟩ (.sl (cE e++cE e') 2 true)] (PS s T i3 0 12))=some (.ret (nv 5 ⟨#[]⟩ (.sl (cE e++cE e') 2 true)) (PS s T i4 0 12))):Z tP (.call 271 [.ptr 0 0,.int lv] (PS s T i 0 12))=some (.ret (nv 5 ⟨#[]⟩ (.sl (cE e++cE e') 2 true)) (PS s T i4 0 12)):=by
 have w1:=qag ((lv:Int)+1) (by omega)
 have zp:=qca (s:=s) (a:=0) (c:=12) h hb
 have zt:=qcy (s:=s) (a:=0) (c:=12) h hb hT
 simp only[PS,pO,ptk,ptD,qaX hb] at zp zt
 have y0:=qcx (s:=s) (a:=0) (c:=12) h hb (qaU [ifT] true) (by simp) (by decide)
 have q0:qeN≠ifT:=by decide
 simp only[hm,Wl,q0,decide_false] at y0
 simp only[PS,pO,ifT,qb3,Wy,WD,Ws] at y0
 have y1:=qcx (s:=s) (a:=0) (c:=12) h hb (qaU [qfF] true) (by simp) (by decide)
 have q1:qeN≠qfF:=by decide
 simp only[hm,Wl,q1,decide_false] at y1
 simp only[PS,pO,qfF,qb3,Wy,WD,Ws] at y1
 have y2:=qcx (s:=s) (a:=0) (c:=12) h hb (qaU [qeN] true) (by simp) (by decide)
 simp only[hm,Wl,decide_true] at y2
 simp only[PS,pO,qeN,qb3,Wy,WD,Ws] at y2
 simp only[PS,pO,cE,nv,Wi,Wc] at z1 z2 z3 z4
 try simp only[WE,Wv] at zt z1 z2 z3 z4
 refine qab (pf:=F271) rfl rfl ?_
 simp[F271,zp,zt,w1,h1,h3,y0,y1,y2,z1,z2,z3,z4,qbh,qbE,qaI,qan,qc6,qeH,qdY,still,V.same,Wa]
theorem qo7 (hlv:lv<=20) (hT:T.length<2 ^ 40) (h:T.drop i=t::r) (hb:t.bad=0) (h1:decide (kindT t=1)=false) (h3:decide (kindT t=3)=false) (hm:t.s=qnO)
  (z1:Z tP (.call 278 [.ptr 0 0,nv 6 ⟨#[]⟩ (.lit (.slice none 0 0))] (PS s T ((i+1:Nat):Int) 0 12))=some (.ret (nv 6 ⟨#[]⟩ (.lit (.slice none 0 0))) (PS s T i1 0 12))):Z tP (.call 271 [.ptr 0 0,.int lv] (PS s T i 0 12))=some (.ret (nv 6 ⟨#[]⟩ (.lit (.slice none 0 0))) (PS s T i1 0 12)):=by
 have w1:=qag ((lv:Int)+1) (by omega)
 have zp:=qca (s:=s) (a:=0) (c:=12) h hb
 have zt:=qcy (s:=s) (a:=0) (c:=12) h hb hT
 simp only[PS,pO,ptk,ptD,qaX hb] at zp zt
 have y0:=qcx (s:=s) (a:=0) (c:=12) h hb (qaU [ifT] true) (by simp) (by decide)
 have q0:qnO≠ifT:=by decide
 simp only[hm,Wl,q0,decide_false] at y0
 simp only[PS,pO,ifT,qb3,Wy,WD,Ws] at y0
 have y1:=qcx (s:=s) (a:=0) (c:=12) h hb (qaU [qfF] true) (by simp) (by decide)
 have q1:qnO≠qfF:=by decide
 simp only[hm,Wl,q1,decide_false] at y1
 simp only[PS,pO,qfF,qb3,Wy,WD,Ws] at y1
 have y2:=qcx (s:=s) (a:=0) (c:=12) h hb (qaU [qeN] true) (by simp) (by decide)
 have q2:qnO≠qeN:=by decide
 simp only[hm,Wl,q2,decide_false] at y2
 simp only[PS,pO,qeN,qb3,Wy,WD,Ws] at y2
 have y3:=qcx (s:=s) (a:=0) (c:=12) h hb (qaU [qnO] true) (by simp) (by decide)
 simp only[hm,Wl,decide_true] at y3
 simp only[PS,pO,qnO,qb3,Wy,WD,Ws] at y3
 simp only[PS,pO,cE,nv,Wi,Wc] at z1
 try simp only[WE,Wv] at zt z1
 refine qab (pf:=F271) rfl rfl ?_
 simp[F271,zp,zt,w1,h1,h3,y0,y1,y2,y3,z1,qbh,qbE,qaI,qan,qc6,qeH,qdY,still,V.same,Wa]
end
end
section
open F
attribute [local simp] qbm qcc dkey
def qog:ByteArray:=⟨#[101,108,115,101]⟩
abbrev cB(d:D):List D:=[.lit (.int .i64 7),.lit (.int .i64 0),.lit (.string ⟨#[]⟩),d]
section
variable{s:ByteArray}{T:List Tk}{lv i i1 i2 i3 i4:Nat}{e:E}{a c:Int}{t:Tk}{r:List Tk}{d d':D}
theorem qAG (hlv:lv<=20) (od:V.one (.dat d)=true) (oc:V.cells (.dat d)=[.dat d])
  (z1:Z tP (.call 253 [.ptr 0 0,.str ifT] (PS s T i 0 12))=some (.ret (.tup []) (PS s T i1 0 12)))
  (z2:Z tP (.call 279 [.ptr 0 0,.int lv] (PS s T i1 0 12))=some (.ret e.node (PS s T i2 0 12)))
  (z3:Z tP (.call 256 [.ptr 0 0,.int ((lv+1:Nat):Int)] (PS s T i2 0 12))=some (.ret (nv 7 ⟨#[]⟩ d) (PS s T i3 0 12))) (h:T.drop i3=t::r) (hb:t.bad=0) (hm:t.s≠qog):Z tP (.call 281 [.ptr 0 0,.int lv] (PS s T i 0 12))=some (.ret (nv 3 ⟨#[]⟩ (.sl (cE e++cB d++cB (.lit (.slice none 0 0))) 3 true)) (PS s T i3 0 12)):=by
 have w1:=qag ((lv:Int)+1) (by omega)
 simp only[PS,pO,nv,ifT] at z1 z2 z3
 try simp only[WE,Wv] at z1 z2 z3
 have y:=qcx (s:=s) (a:=0) (c:=12) h hb (qaU [qog] true) (by simp) (by decide)
 simp only[Wl,hm,decide_false] at y
 simp only[PS,pO,qog,qb3,Wy,WD,Ws] at y
 refine qab (pf:=F281) rfl rfl ?_
 simp[F281,w1,z1,z2,z3,y,od,oc,qbh,Wa]
theorem qAH (hlv:lv<=20) (od:V.one (.dat d)=true) (oc:V.cells (.dat d)=[.dat d])
  (z1:Z tP (.call 253 [.ptr 0 0,.str ifT] (PS s T i 0 12))=some (.ret (.tup []) (PS s T i1 0 12)))
  (z2:Z tP (.call 279 [.ptr 0 0,.int lv] (PS s T i1 0 12))=some (.ret e.node (PS s T i2 0 12)))
  (z3:Z tP (.call 256 [.ptr 0 0,.int ((lv+1:Nat):Int)] (PS s T i2 0 12))=some (.ret (nv 7 ⟨#[]⟩ d) (PS s T i3 0 12))) (od':V.one (.dat d')=true) (oc':V.cells (.dat d')=[.dat d']) (hT:T.length<2 ^ 40) (h:T.drop i3=t::r) (hb:t.bad=0) (hm:t.s=qog)
  (z4:Z tP (.call 256 [.ptr 0 0,.int ((lv+1:Nat):Int)] (PS s T ((i3+1:Nat):Int) 0 12))=some (.ret (nv 7 ⟨#[]⟩ d') (PS s T i4 0 12))):Z tP (.call 281 [.ptr 0 0,.int lv] (PS s T i 0 12))=some (.ret (nv 3 ⟨#[]⟩ (.sl (cE e++cB d++cB d') 3 true)) (PS s T i4 0 12)):=by
 have w1:=qag ((lv:Int)+1) (by omega)
 simp only[PS,pO,nv,ifT] at z1 z2 z3
 try simp only[WE,Wv] at z1 z2 z3
 have y:=qcx (s:=s) (a:=0) (c:=12) h hb (qaU [qog] true) (by simp) (by decide)
 simp only[Wl,hm,decide_true] at y
 simp only[PS,pO,qog,qb3,Wy,WD,Ws] at y
 have zt:=qcy (s:=s) (a:=0) (c:=12) h hb hT
 simp only[PS,pO,ptk,ptD] at zt
 simp only[PS,pO,nv] at z4
 simp only[WE,Wv] at zt z4
 refine qab (pf:=F281) rfl rfl ?_
 simp[F281,w1,z1,z2,z3,y,zt,z4,od',oc',od,oc,qbh,Wa]
end
end
section
open F
attribute [local simp] qbm qcc dkey
def qw0(v:V)(σt:S)(cs:List D)(n:Nat):Prop:=(n=0/\cs=[]/\v = .dat (.lit (.slice none 0 0)) /\ σt=[])\/(n≠0/\cs.length=n*4/\v = .gsl cs n 4 5 /\ σt=[.tip cs.length])
abbrev bzF(lv:Nat):Fr:=[(0,.ptr 0 0),(1,.int lv),(4,.ptr 3 0),(5,.ptr 4 0)]
abbrev bzS(s:ByteArray)(T:List Tk)(i a c:Int)(v:V)(σt:S):S:=PS s T i a c++(nd0 :: .cells [.int 7,.int 0,.str ⟨#[]⟩,v] :: σt)
def qsD:ByteArray:=⟨#[125]⟩
section
variable{s:ByteArray}{T:List Tk}{lv i i' i1 i2:Nat}{a c:Int}{t:Tk}{r:List Tk}{d:D}{v:V}{σt:S}{cs:List D}{n:Nat}
theorem qyA(h:T.drop i=t::r)(hb:t.bad=0)(hm:t.s=qsD)(hr:qw0 v σt cs n):Z tP (.loop 3 F256l0 (bzF lv) (bzS s T i 0 12 v σt))=some (.out (.exit 0) (bzF lv++[(13,.bool false)]) (bzS s T i 0 12 v σt)):=by
 have y:=qcx (s:=s) (a:=0) (c:=12) h hb (qaU [qsD] true) (by simp) (by decide)
 simp only[Wl,hm,decide_true] at y
 simp only[PS,pO,qsD,qb3,Wy,WD,Ws] at y
 rw[qac]
 rcases hr with ⟨rfl,rfl,rfl,rfl⟩|⟨h0,h1,rfl,rfl⟩<;>simp[qad,qgI,y,Wa]
theorem qsE (h:T.drop i=t::r) (hb:t.bad=0) (hm:t.s≠qsD) (hr:qw0 v σt cs n) (hn:n<=2 ^ 40) {k:Int} {x:ByteArray} (od:V.one (.dat d)=true) (oc:V.cells (.dat d)=[.dat d])
  (z:Z tP (.call 271 [.ptr 0 0,.int lv] (PS s T i 0 12))=some (.ret (nv k x d) (PS s T i' 0 12))) :
  ∃ v' σt',qw0 v' σt' (cs++[.lit (.int .i64 k),.lit (.int .i64 0),.lit (.string x),d]) (n+1)/\Z tP (.loop 3 F256l0 (bzF lv) (bzS s T i 0 12 v σt))=Z tP (.loop 3 F256l0 (bzF lv) (bzS s T i' 0 12 v' σt')):=by
 have y:=qcx (s:=s) (a:=0) (c:=12) h hb (qaU [qsD] true) (by simp) (by decide)
 have hroom:qay (n+1) 56=true:=by simp only[qay,decide_eq_true_eq]; omega
 simp only[Wl,hm,decide_false] at y
 simp only[PS,pO,qsD,qb3,Wy,WD,Ws] at y
 simp only[PS,pO,nv] at z
 refine⟨.gsl (cs++[.lit (.int .i64 k),.lit (.int .i64 0),.lit (.string x),d]) (n+1) 4 5,[.tip (cs++[.lit (.int .i64 k),.lit (.int .i64 0),.lit (.string x),d]).length],.inr ⟨by omega,?_,rfl,rfl⟩,?_⟩
 ·rcases hr with ⟨rfl,rfl,_,_⟩|⟨_,h1,_,_⟩
  ·simp
  ·simp[h1]; omega
 ·conv=>lhs; rw[qac]
  rcases hr with ⟨rfl,rfl,rfl,rfl⟩|⟨h0,h1,rfl,rfl⟩
  ·have hr1:qay 1 56=true:=by decide
   simp[qad,qgI,y,z,od,oc,hr1,qbw,qiL,qaI,qan,qc6,qeH,qdY,still,V.same,Wa]
   try exact qam (by simp[Wa])
  ·simp[qad,qgI,y,z,od,oc,hroom,h0,h1,qbw,qiL,qaI,qan,qc6,qeH,qdY,still,V.same,Wa]
   try exact qam (by simp[Wa])
theorem qAW (hT:T.length<2 ^ 40) (zo:Z tP (.call 270 [.ptr 0 0,.str ⟨#[123]⟩,.int lv] (PS s T i 0 12))=some (.ret (.tup []) (PS s T i1 0 12))) (hr:qw0 v σt cs n)
  (zl:Z tP (.loop 3 F256l0 (bzF lv) (bzS s T i1 0 12 (.dat (.lit (.slice none 0 0))) []))=some (.out (.exit 0) (bzF lv++[(13,.bool false)]) (bzS s T i2 0 12 v σt)))
  (h:T.drop i2=t::r) (hb:t.bad=0) (hm:t.s=qsD):Z tP (.call 256 [.ptr 0 0,.int lv] (PS s T i 0 12))=some (.ret (nv 7 ⟨#[]⟩ (kd false n cs)) (PS s T ((i2+1:Nat):Int) 0 12)):=by
 have zx:=qjC (s:=s) (a:=0) (c:=12) h hb hT (by rw[hm]; decide)
 rw[hm] at zx
 simp only[PS,pO,qsD,WE,Wv] at zx
 simp only[PS,pO,bzS,Wi,Wc] at zo zl
 refine qab (pf:=F256) rfl rfl ?_
 rcases hr with ⟨rfl,rfl,rfl,rfl⟩|⟨h0,h1,rfl,rfl⟩
 ·simp[F256,zo,zl,zx,Wa]
 ·obtain⟨m,rfl⟩ : ∃ m,n=m+1:=⟨n-1,by omega⟩
  simp[F256,zo,zl,zx,Wa]
end
end
section
open F
attribute [local simp] qbm qcc dkey
section
variable{s:ByteArray}{T:List Tk}{i:Nat}{t:Tk}{r:List Tk}{a c:Int}
theorem qoL{k:Nat}(h:T.drop i=t::r)(hb:t.bad=0)(hk:qfp t.s=some k):Z tP (.call 254 [.ptr 0 0] (PS s T i 0 12))=some (.ret (.int k) (PS s T i 0 12)):=by
 have zp:=qca (s:=s) (a:=0) (c:=12) h hb
 simp only[PS,pO,ptk,ptD,qaX hb] at zp
 generalize t.s=w at zp hk
 unfold qfp at hk
 by_cases h1:w=bs [97,99,116]
 ·subst h1
  simp only[if_true,Wg] at hk
  subst hk
  simp only[bs] at zp
  refine qab (pf:=F254) rfl rfl ?_
  simp[F254,zp,qbk,Wa]
 rw[if_neg h1] at hk
 by_cases h2:w=bs [116,105,99,107]
 ·subst h2
  simp only[if_true,Wg] at hk
  subst hk
  simp only[bs] at zp
  refine qab (pf:=F254) rfl rfl ?_
  simp[F254,zp,qbk,Wa]
 rw[if_neg h2] at hk
 by_cases h3:w=qq8
 ·subst h3
  simp only[if_true,Wg] at hk
  subst hk
  simp only[qq8] at zp
  refine qab (pf:=F254) rfl rfl ?_
  simp[F254,zp,qbk,Wa]
 ·rw[if_neg h3] at hk; cases hk
theorem qlH{w:ByteArray}{k:Nat}(h:qfp w=some k):k=0\/k=1\/k=2:=by
 unfold qfp at h
 split at h
 ·cases h; omega
 split at h
 ·cases h; omega
 split at h
 ·cases h; omega
 ·cases h
end
end
section
open F
attribute [local simp] qbm qcc dkey
abbrev pgF:Fr:=[(0,.ptr 0 0),(2,.ptr 3 0),(3,.ptr 4 0)]
abbrev pgS(s:ByteArray)(T:List Tk)(i a c:Int)(q:Nat->N4):S:=PS s T i a c++[qwU,rob q]
section
variable{s:ByteArray}{T:List Tk}{i i' i2:Nat}{t:Tk}{r:List Tk}{a c:Int}{q:Nat->N4}
theorem qxV(h:T.drop i=t::r)(hb:t.bad=0)(hs:t.s=⟨#[]⟩):Z tP (.loop 3 F242l0 pgF (pgS s T i 0 12 q))=some (.out (.exit 0) (pgF++[(8,.bool false)]) (pgS s T i 0 12 q)):=by
 have zp:=qca (s:=s) (a:=0) (c:=12) h hb
 have hk:kindT t=0:=by rw[qcO hb,qj3,if_pos hs]
 have k0:=(q 0).one
 have k1:=(q 1).one
 have k2:=(q 2).one
 have c0:=(q 0).cl
 have c1:=(q 1).cl
 have c2:=(q 2).cl
 simp only[PS,pO,ptk,ptD,hk] at zp
 rw[qac]
 simp[qad,qja,zp,k0,k1,k2,c0,c1,c2,Wa]
theorem qAs {t2:Tk} {r2:List Tk} {k:Nat} {d:D} (hT:T.length<2 ^ 40) (h:T.drop i=t::r) (hb:t.bad=0) (hs:t.s≠⟨#[]⟩) (z:Z tP (.call 253 [.ptr 0 0,.str ⟨#[111,110]⟩] (PS s T i 0 12))=some (.ret (.tup []) (PS s T i' 0 12)))
  (h2:T.drop i'=t2::r2) (hb2:t2.bad=0) (hh:qfp t2.s=some k) (hq:decide ((q k).k=0)=true) (od:V.one (.dat d)=true) (oc:V.cells (.dat d)=[.dat d]) (zb:Z tP (.call 256 [.ptr 0 0,.int 1] (PS s T ((i'+1:Nat):Int) 0 12))=some (.ret (nv 7 ⟨#[]⟩ d) (PS s T i2 0 12))):Z tP (.loop 3 F242l0 pgF (pgS s T i 0 12 q))=Z tP (.loop 3 F242l0 pgF (pgS s T i2 0 12 (qzg q k ⟨7,0,⟨#[]⟩,d,od,oc⟩))):=by
 have zp:=qca (s:=s) (a:=0) (c:=12) h hb
 have zh:=qoL (s:=s) h2 hb2 hh
 have hlt:=qmL h2
 have w1:=qag ((i':Int)+1) (by omega)
 have hk:decide (kindT t=0)=false:=decide_eq_false (fun e=>hs ((qlz hb).mp e))
 simp only[PS,pO,ptk,ptD] at zp z zh
 simp only[PS,pO,nv] at zb
 simp only[WE,Wv] at zb
 have k0:=(q 0).one
 have k1:=(q 1).one
 have k2:=(q 2).one
 have c0:=(q 0).cl
 have c1:=(q 1).cl
 have c2:=(q 2).cl
 conv=>lhs; rw[qac]
 rcases qlH hh with rfl|rfl|rfl<;>simp[qad,qja,zp,z,zh,zb,od,oc,w1,hk,hq,k0,k1,k2,c0,c1,c2,qzg,Wa]<;>rfl
end
end
section
open F
attribute [local simp] qbm qcc dkey
section
variable{s:ByteArray}{T:List Tk}{i':Nat}{q:Nat->N4}{a c:Int}
theorem qn9(z:Z tP (.loop 3 F242l0 pgF (pgS s T 0 0 12 fun k=>qkH none))=some (.out (.exit 0) (pgF++[(8,.bool false)]) (pgS s T i' 0 12 q))):Z tP (.call 242 [.ptr 0 0] (PS s T 0 0 12))=some (.ret (qwb q) (PS s T i' 0 12)):=by
 have k0:=(q 0).one
 have k1:=(q 1).one
 have k2:=(q 2).one
 have c0:=(q 0).cl
 have c1:=(q 1).cl
 have c2:=(q 2).cl
 simp only[pgS,PS,pO,rob,qkH,Wi,Wc] at z
 refine qab (pf:=F242) rfl rfl ?_
 simp[F242,z,k0,k1,k2,c0,c1,c2,Wa]
end
end
section
open F
attribute [local simp] qbm qcc dkey
section
variable{s:ByteArray}{T:List Tk}{i':Nat}{q:Nat->N4}{a c:Int}
abbrev dS(s:ByteArray)(T:List Tk)(q:Nat->N4)(x y:Int)(i a c:Int):S:=[.cells [.ptr 4 0],rob q,.cells [.int x],.cells [.int y],pO s 5 (.gsl (ptC T) T.length 5 6) i a c,.map kwM,.tip (ptC T).length]
theorem qqw{x y i a c:Int}:Z tP (.dcall 240 [.dat (.lit .nilIface),.ptr 0 0,.ptr 1 0,.ptr 2 0,.ptr 3 0] (dS s T q x y i a c))=some (.ret (.dat (.lit undef)) (dS s T q x y i a c)):=by
 have k0:=(q 0).one
 have k1:=(q 1).one
 have k2:=(q 2).one
 have c0:=(q 0).cl
 have c1:=(q 1).cl
 have c2:=(q 2).cl
 refine qo0 (pf:=F240) rfl ?_
 have hfl:F240.body.flat=true:=rfl
 simp only[qa3]
 rw[if_pos ⟨rfl,rfl,rfl,hfl,.inl rfl⟩]
 simp[F240,qga,k0,k1,k2,c0,c1,c2,Wa]
theorem qs2 (h : ¬ (2000:Int)<s.size) (zt:Z tP (.call 249 [.yld 0,.ptr 1 0] (TT0 s))=some (.ret (.tup []) (TT1 s (ptC T) T.length)))
  (z:Z tP (.call 242 [.ptr 0 0] (PS s T 0 0 12))=some (.ret (qwb q) (PS s T i' 0 12))):Z tP (.call 228 [.str s] [])=some (.ret (.tup [qwb q,.int 0,.int 0]) []):=by
 have z1:=qnU s
 have z2:=qpw s
 have k0:=(q 0).one
 have k1:=(q 1).one
 have k2:=(q 2).one
 have c0:=(q 0).cl
 have c1:=(q 1).cl
 have c2:=(q 2).cl
 simp only[pO] at z2
 simp only[TT0,TT1,pO] at zt
 simp only[PS,pO] at z
 have zd:=qqw (s:=s) (T:=T) (q:=q) (x:=0) (y:=0) (i:=i') (a:=0) (c:=12)
 simp only[dS,pO,rob] at zd
 refine qab (pf:=F228) rfl rfl ?_
 simp[F228,z1,z2,zt,z,zd,h,V.len,k0,k1,k2,c0,c1,c2,Wa]
end
end
section
open F
attribute [local simp] qbm qcc dkey
section
variable{s:ByteArray}{T:List Tk}{i':Nat}{a c:Int}
abbrev q0:Nat->N4:=fun _=>qkH none
end
end
section
open F
theorem qk9(s:ByteArray) : ∀ n i,(qdU 12 2 6 s n i).length<=n+1
 |0,i=>by simp[qdU]
 |n+1,i=>by
  rw[qdU]
  have:=qk9 s n
  split
  ·simp
  ·simp only[We]; have:=this ((qgH 12 2 6 s (qiP s (s.size-i) false i)).at_+(qgH 12 2 6 s (qiP s (s.size-i) false i)).s.size); omega
end
section
open F
abbrev Sub(p q:Nat->Option PFun):Prop := ∀ f pf,p f=some pf->q f=some pf
structure Has(prog:Nat->Option PFun):Prop where
 b:Sub qaf prog
 r:Sub tR prog
 s:Sub tS prog
 p:Sub tP prog
 q:Sub tQ prog
 e:Sub tE prog
 k:Sub tK prog
def hdO:Option Ss->Hd
 |none => .none
 |some b => .some false b
theorem quE(o:Option Ss):(qkH o).k=(hdO o).nd.k/\(qkH o).n=(hdO o).nd.n/\(qkH o).s=(hdO o).nd.s/\(qkH o).d=(hdO o).nd.d:=by cases o<;>exact⟨rfl,rfl,rfl,rfl⟩
theorem quF(h:Nat->Option Ss):qwb (fun k=>qkH (h k)) = .dat (ru (hdO (h 0)).nd (hdO (h 1)).nd (hdO (h 2)).nd):=by
 obtain⟨a1,a2,a3,a4⟩:=quE (h 0)
 obtain⟨b1,b2,b3,b4⟩:=quE (h 1)
 obtain⟨c1,c2,c3,c4⟩:=quE (h 2)
 simp only[qwb,ru,a1,a2,a3,a4,b1,b2,b3,b4,c1,c2,c3,c4]
end
section
open F Gr
set_option maxHeartbeats 4000000
theorem qqx{c:Cd}{e:Nat}(D:Nat->Int) : ∀ k:Nat,∃ m:Int,0<=m/\(∀ i,i<k->Gr.Reach c e i->aft c i (D i)<=m)/\(m=0 \/ ∃ i,Gr.Reach c e i/\m=aft c i (D i))
 |0=>⟨0,by omega,fun i h=>by omega,.inl rfl⟩
 |k+1=>by
  obtain⟨m,h0,h1,h2⟩:=qqx D k
  by_cases hr:Gr.Reach c e k/\m<aft c k (D k)
  ·refine⟨aft c k (D k),by omega,fun i hi h=>?_,.inr ⟨k,hr.1,rfl⟩⟩
   by_cases hik:i=k
   ·subst hik; omega
   ·have:=h1 i (by omega) h
    omega
  ·refine⟨m,h0,fun i hi h=>?_,h2⟩
   by_cases hik:i=k
   ·subst hik
    exact Int.not_lt.1 fun h'=>hr ⟨h,h'⟩
   ·exact h1 i (by omega) h
theorem qyN{c:Cd}{e:Int}(he:0<=e->e.toNat<c.length) : ∃ m,DepIs c e m:=by
 by_cases h0:e<0
 ·exact⟨0,fun _=>rfl,fun h=>by omega⟩
 ·by_cases hD : ∃ D,CF c e.toNat D
  ·obtain⟨D,hD⟩:=hD
   obtain⟨m,a,b,d⟩:=qqx (c:=c) (e:=e.toNat) D c.length
   exact⟨m,fun h=>absurd h h0,fun _ D' hD'=>Most.of_eq hD hD' ⟨a,fun i hi=>b i (hi.lt (he (by omega))) hi,d⟩⟩
  ·exact⟨0,fun h=>absurd h h0,fun _ D' hD'=>absurd ⟨D',hD'⟩ hD⟩
theorem qhS(vs:List ByteArray)(f:Bool) : ∀ e:E,qcR vs (e.fl f)=qcR vs e
 |.int n | .bool n | .var s | .name s=>rfl
 |.field _ s e | .un _ n e=>by simp only[E.fl,qcR,qhS vs f e]
 |.bin _ o a b=>by simp only[E.fl,qcR,qhS vs f a,qhS vs f b]
theorem qs3(f:Bool)(e:E):(e.fl f).ty=e.ty:=by induction e<;>simp_all [E.fl,E.ty]
theorem qgy(f:Bool) : ∀ e:E,e.fine->(e.fl f).fine
 |.int n,h | .bool n,h | .var s,h | .name s,h=>h
 |.field _ s e,h=>by simp only[E.fl,E.fine] at h ⊢; simp_all [qgy f e,qs3]
 |.un _ n e,h=>by simp only[E.fl,E.fine] at h ⊢; simp_all [qgy f e,qs3]
 |.bin _ o a b,h=>by simp only[E.fl,E.fine] at h ⊢; simp_all [qgy f a,qgy f b,qs3]
theorem qnx(vs:List ByteArray)(f fi fb:Bool)(b:Ss)(h:b.fine):codeS vs (b.fl f fi fb)=codeS vs b/\(b.fl f fi fb).fine:=by
 fun_induction Ss.fine b with
 |case1=>exact⟨rfl,trivial⟩
 |case8=>exact absurd h id
 |_=>simp_all [Ss.fl,codeS,Ss.fine,qhS,qgy,qs3]
def Hd.rf(h:Hd):Hd:=hdO (h.opt.map (·.fl true true false))
theorem qmr{h:Hd}(hf:h.fine):h.rf.fine:=by
 cases h with
 |none=>exact hf
 | some f b=>exact⟨(qnx [] true true false b hf.fine).2,by
   have e:(b.fl true true false).fo.size=b.fo.size:=qkD (qdr true true false b)
   have:=hf.size
   show (b.fl true true false).fo.size<=2000
   rw[e]
   exact this⟩
end
section
open F Gr
set_option maxHeartbeats 2000000
def ovr(e:E):Nat:=if e.ty=1 then 0 else 1
theorem qpt{s:ByteArray}(h:s∈qq9):1<=s.size:=by
 obtain⟨c,r,hc,-⟩:=qe2 (qks h).1.1
 have hl:=qaZ s
 rw[hc,We] at hl
 omega
theorem qpu(vs:List ByteArray) : ∀ (e:E),e.fine -> ∃ n,Ln (qcR vs e) n/\18*n+ovr e<=5*e.cost+8
 |.int n,h=>by
  obtain⟨h1,h2,c,r,h3⟩:=qgv (n:=n.toNat) (by have:=h.2; omega)
  refine⟨1,fun _=>rfl,?_⟩
  simp[E.cost,ovr,E.ty,h3]; omega
 |.bool n,h=>⟨1,fun _=>rfl,by simp only[E.cost,ovr,E.ty]; by_cases h0:n=0<;>simp[h0]⟩
 |.var s,h=>by
  have:=qpt h
  refine⟨1,fun _=>rfl,?_⟩
  simp[E.cost,ovr,E.ty]; omega
 |.name s,h=>by
  have:4<=s.size:=by rcases (qlx h).1 with rfl|rfl|rfl<;>decide
  refine⟨1,fun _=>rfl,?_⟩
  simp[E.cost,ovr,E.ty]; omega
 |.field _ s e,h=>by
  obtain⟨n,ln,hn⟩:=qpu vs e h.2.1
  refine⟨_,qbL ln,?_⟩
  simp only[E.cost,ovr,E.ty,if_pos h.2.2] at hn ⊢
  simp; omega
 |.un f neg e,h=>by
  obtain⟨n,ln,hn⟩:=qpu vs e h.1
  refine⟨_,qbL ln,?_⟩
  have:ovr (.un f neg e)<=1:=by unfold ovr; split<;>omega
  simp only[E.cost]
  omega
 |.bin f o a b,h=>by
  obtain⟨n,la,ha⟩:=qpu vs a h.1
  obtain⟨m,lb,hb⟩:=qpu vs b h.2.1
  have one : ∀ x,Ln (fun _=>[((1:Int),x)]) 1:=fun x _=>rfl
  have ty:ovr (.bin f o a b)=if o.res=1 then 0 else 1:=by simp only[ovr,E.ty,h.2.2.1,h.2.2.2,and_self,if_true]
  simp only[ovr,h.2.2.1,h.2.2.2] at ha hb
  rw[ty]
  have sz:o.str.size=1\/o.str.size=2:=by cases o<;>simp[Bop.str]<;>decide
  cases o
  case and=>exact⟨_,qiT la lb (one 0),by simp only[E.cost,Bop.w,Bop.opd,Bop.res,show Bop.and.str.size=2 from rfl] at ha hb ⊢; simp at ha hb ⊢; omega⟩
  case or=>exact⟨_,qiT la (one 1) lb,by simp only[E.cost,Bop.w,Bop.opd,Bop.res,show Bop.or.str.size=2 from rfl] at ha hb ⊢; simp at ha hb ⊢; omega⟩
  case gt=>exact⟨_,qbL (qa9 lb la),by simp only[E.cost,Bop.w,Bop.opd,Bop.res] at ha hb ⊢; simp at ha hb ⊢; omega⟩
  case ge=>exact⟨_,qbL (qa9 lb la),by simp only[E.cost,Bop.w,Bop.opd,Bop.res] at ha hb ⊢; simp at ha hb ⊢; omega⟩
  case ne=>exact⟨_,qbL (qbL (qa9 la lb)),by simp only[E.cost,Bop.w,Bop.opd,Bop.res,show Bop.ne.str.size=2 from rfl] at ha hb ⊢; simp at ha hb ⊢; omega⟩
  all_goals exact⟨_,qbL (qa9 la lb),by simp only[E.cost,Bop.w,Bop.opd,Bop.res] at ha hb ⊢; simp at ha hb ⊢; omega⟩
theorem qCl(vs:List ByteArray)(b:Ss)(hf:b.fine) : ∃ n,Ln (codeS vs b) n/\18*n<=5*b.cost:=by
 fun_induction codeS vs b with
 |case1=>exact⟨0,fun _=>rfl,by simp⟩
 |case2 _ s e r ih=>
  obtain⟨n,l,h⟩:=qpu vs e hf.1.2.1
  obtain⟨m,l',h'⟩:=ih hf.2
  have:=qpt hf.1.1
  exact⟨_,qa9 (qbL l) l',by simp only[Ss.cost]; omega⟩
 |case3 _ s a b r ih=>
  obtain⟨n,l,h⟩:=qpu vs a hf.1.2.1
  obtain⟨k,l2,h2⟩:=qpu vs b hf.1.2.2.2.1
  obtain⟨m,l',h'⟩:=ih hf.2
  exact⟨_,qa9 (qbL (qa9 l l2)) l',by simp only[Ss.cost]; omega⟩
 |case4 _ a b r ih=>
  obtain⟨n,l,h⟩:=qpu vs a hf.1.1
  obtain⟨k,l2,h2⟩:=qpu vs b hf.1.2.2.1
  obtain⟨m,l',h'⟩:=ih hf.2
  exact⟨_,qa9 (qbL (qa9 l l2)) l',by simp only[Ss.cost]; omega⟩
 |case5 r ih=>
  obtain⟨m,l',h'⟩:=ih hf
  exact⟨_,qa9 (n:=1) (fun _=>rfl) l',by simp only[Ss.cost]; omega⟩
 |case6 _ c _ x _ y r ih1 ih2 ih3=>
  obtain⟨n,l,h⟩:=qpu vs c hf.1.1
  obtain⟨m1,l1,h1⟩:=ih1 hf.2.1
  obtain⟨m2,l2,h2⟩:=ih2 hf.2.2.1
  obtain⟨m3,l3,h3⟩:=ih3 hf.2.2.2
  exact⟨_,qa9 (qiT l l1 l2) l3,by simp only[Ss.cost]; simp; omega⟩
 |case7 _ c _ x r ih1 ih2=>
  obtain⟨n,l,h⟩:=qpu vs c hf.1.1
  obtain⟨m1,l1,h1⟩:=ih1 hf.2.1
  obtain⟨m2,l2,h2⟩:=ih2 hf.2.2
  exact⟨_,qa9 (qsu l l1) l2,by simp only[Ss.cost]; simp; omega⟩
 |case8=>exact⟨0,fun _=>rfl,by simp⟩
theorem hlen(vs:List ByteArray){h:Hd}(hf:h.fine) : ∃ n,Ln (hdC vs h.rf) n/\18*n<=5*h.cost:=by
 cases h with
 |none=>exact⟨0,fun _=>rfl,by simp⟩
 |some f b=>
  obtain⟨n,l,h⟩:=qCl vs b hf.fine
  rw[<- (qnx vs true true false b hf.fine).1] at l
  exact⟨_,qbL l,by simp only[Hd.cost]; omega⟩
theorem qji : ∀ e:E,e.hh<=e.dp+1:=fun e=>by induction e<;>simp only[E.hh,E.dp]<;>omega
theorem quU : ∀ b:Ss,b.hh<=b.edp+2:=fun b=>by
 induction b with
 |nil=>simp only[Ss.hh,Ss.edp]; omega
 |assign f s e r ih=>have:=qji e; simp only[Ss.hh,Ss.edp]; omega
 |store f s a b r ih=>have:=qji a; have:=qji b; simp only[Ss.hh,Ss.edp]; omega
 |effect f a b r ih=>have:=qji a; have:=qji b; simp only[Ss.hh,Ss.edp]; omega
 |stop r ih=>simpa only [Ss.hh,Ss.edp] using ih
 |cond w f c b r ihb ih=>have:=qji c; simp only[Ss.hh,Ss.edp]; omega
 |block f b r ihb ih=>simp only[Ss.hh,Ss.edp]; omega
theorem qxL(f:Bool) : ∀ e:E,(e.fl f).hh=e.hh:=fun e=>by induction e<;>simp_all [E.fl,E.hh]
theorem qxM(f fi fb:Bool) : ∀ b:Ss,(b.fl f fi fb).hh=b.hh:=fun b=>by induction b<;>simp_all [Ss.fl,Ss.hh,qxL]
theorem qpv{h:Hd}(hg:h.gen):h.rf.ss.hh<=5:=by
 cases h with
 |none=>show (0:Int)<=5; omega
 |some f b=>
  have h1:=quU b
  have h2:=hg.edp
  simp only[Hd.ss] at h2
  show (b.fl true true false).hh<=5
  rw[qxM]
  omega
theorem qrF{a b c:Hd}(ga:a.gen)(gb:b.gen)(gc:c.gen)(hco:a.cost+(b.cost+c.cost)<=1440) : ∃ (K:Cd) (e0 e1 e2:Int),K.length<=400/\(∀ x∈K,1<=x.1/\x.1<=21)/\Z qaf (.call 131 [.dat (ru a.rf.nd b.rf.nd c.rf.nd)] [])=some (.ret (.tup [pgD (qoM K) e0 e1 e2,.int 0]) []):=by
 have fa:=qmr ga.tofine
 have fb:=qmr gb.tofine
 have fc:=qmr gc.tofine
 have l4:=qjh fa.fine fb.fine fc.fine
 obtain⟨ia,ib,ic⟩:=qmX (a:=a.rf) (b:=b.rf) (c:=c.rf)
 obtain⟨n,D,g,p0,p1,p2,hD⟩:=qne (vs:=rvars a.rf.nd b.rf.nd c.rf.nd) (by omega) fa.fine fb.fine fc.fine ia ib ic
 have wa:=qpv ga
 have wb:=qpv gb
 have wc:=qpv gc
 have hn:(qd5 (rvars a.rf.nd b.rf.nd c.rf.nd) a.rf b.rf c.rf).length=n:=g.ln 0
 have h400:(qd5 (rvars a.rf.nd b.rf.nd c.rf.nd) a.rf b.rf c.rf).length<=400:=by
  obtain⟨x,lx,hx⟩:=hlen (rvars a.rf.nd b.rf.nd c.rf.nd) ga.tofine
  obtain⟨y,ly,hy⟩:=hlen (rvars a.rf.nd b.rf.nd c.rf.nd) gb.tofine
  obtain⟨z,lz,hz⟩:=hlen (rvars a.rf.nd b.rf.nd c.rf.nd) gc.tofine
  have:=qa9 lx (qa9 ly lz) 0
  show (sq _ _ 0).length<=400
  rw[this]; omega
 have low : ∀ {e:Int},(e = -1\/(0<=e/\e<n/\D e.toNat=0)) -> ∃ m,DepIs (qd5 (rvars a.rf.nd b.rf.nd c.rf.nd) a.rf b.rf c.rf) e m/\m<=16:=fun {e} p=>by
  obtain⟨m,d⟩:=qyN (c:=qd5 (rvars a.rf.nd b.rf.nd c.rf.nd) a.rf b.rf c.rf) (e:=e) (by rcases p with p|⟨x,y,z⟩<;>omega)
  refine⟨m,d,?_⟩
  rcases p with p|⟨x,y,z⟩
  ·rw[d.1 (by omega)]; omega
  ·have hm:=d.2 x D (g.cf (by omega) z)
   rcases hm.at_ with h0|⟨i,hi,h1⟩
   ·omega
   ·have:=hD i (by rw[<- hn]; exact hi.lt (by omega))
    have hpu : ∀ op:Int,qdF op-qeU op<=1:=fun op=>by unfold qdF qeU; split<;>split<;>omega
    have:=hpu (opA (qd5 (rvars a.rf.nd b.rf.nd c.rf.nd) a.rf b.rf c.rf) i)
    unfold aft at h1
    omega
 obtain⟨m0,d0,b0⟩:=low p0
 obtain⟨m1,d1,b1⟩:=low p1
 obtain⟨m2,d2,b2⟩:=low p2
 have z:=qpQ fa fb fc d0 d1 d2
 unfold qwC at z
 rw[if_neg (by omega),if_neg (by omega)] at z
 refine⟨_,_,_,_,h400,fun x hx=>?_,z⟩
 obtain⟨i,hi,rfl⟩:=List.getElem_of_mem hx
 have:=(g.ok 0 i (by omega)).1
 have e:opA (qd5 (rvars a.rf.nd b.rf.nd c.rf.nd) a.rf b.rf c.rf) i=((qd5 (rvars a.rf.nd b.rf.nd c.rf.nd) a.rf b.rf c.rf)[i]).1:=by simp[opA,Wn,hi]
 rw[<- e]
 exact this
end
section
open F
attribute [local simp] qbm qcc dkey
theorem qhA : ∀ {ts:List Tk} {x:ByteArray},nx ts=some x -> ∃ t r,ts=t::r/\t.bad=0/\t.s=x
 |[],x,h=>by cases h
 |t::r,x,h=>by
  by_cases hb:t.bad=0
  ·rw[nx,if_pos hb] at h
   exact⟨t,r,rfl,hb,WY h⟩
  ·rw[nx,if_neg hb] at h; cases h
theorem qhB{T:List Tk}{i:Nat}{t:Tk}{r:List Tk}(h:T.drop i=t::r):T.drop (i+1)=r:=by rw[<- List.drop_drop,h]; rfl
section
variable(s:ByteArray)(T:List Tk)
def Px(g lv:Nat)(ts:List Tk)(e:E)(r:List Tk):Prop:=
 ∀ i:Nat,T.drop i=ts -> ∃ i':Nat,T.drop i'=r/\Z tP (.call g [.ptr 0 0,.int lv] (PS s T i 0 12))=some (.ret e.node (PS s T i' 0 12))
def Lx(p lv:Nat)(e:E)(ts:List Tk)(e':E)(r:List Tk):Prop:=
 ∀ i:Nat,T.drop i=ts -> ∃ i':Nat,T.drop i'=r/\Z tP (.loop 5 F285l0 (bqF (clF p) (.sl (qb3 (qjp p)) (qjp p).length true)) (BL s T lv i 0 12 e))=Z tP (.loop 5 F285l0 (bqF (clF p) (.sl (qb3 (qjp p)) (qjp p).length true)) (BL s T lv i' 0 12 e'))
variable{s:ByteArray}{T:List Tk}{p q lv i:Nat}{ts r r':List Tk}{e e':E}{x:ByteArray}
theorem pex(hT:T.length<2 ^ 40)(hx:x≠⟨#[]⟩)(hn:nx ts=some x)(hi:T.drop i=ts):T.drop (i+1)=ts.tail/\Z tP (.call 253 [.ptr 0 0,.str x] (PS s T i 0 12))=some (.ret (.tup []) (PS s T ((i+1:Nat):Int) 0 12)):=by
 obtain⟨t,r,rfl,hb,rfl⟩:=qhA hn
 exact⟨qhB hi,qjC hi hb hT hx⟩
theorem pop(hT:T.length<2 ^ 40)(hx:x≠⟨#[]⟩)(hn:nx ts=some x)(hi:T.drop i=ts)(hlv:lv<=20):T.drop (i+1)=ts.tail/\Z tP (.call 270 [.ptr 0 0,.str x,.int lv] (PS s T i 0 12))=some (.ret (.tup []) (PS s T ((i+1:Nat):Int) 0 12)):=by
 obtain⟨h1,z⟩:=pex (s:=s) hT hx hn hi
 obtain⟨t,r,rfl,hb,rfl⟩:=qhA hn
 refine⟨h1,?_⟩
 have zi:=qcx (s:=s) (a:=0) (c:=12) hi hb (qaU [t.s] true) (by simp) (by simp; exact fun e=>hx e.symm)
 simp only[PS,pO,qb3,Wy,WD,Ws,Wl,decide_true] at zi z
 have h20 : ¬ (20:Int)<lv:=by omega
 generalize ((i+1:Nat):Int)=j at *
 refine qab (pf:=F270) rfl rfl ?_
 simp[F270,zi,z,h20,Wa]
theorem qtK(hp:qgs p){e0:E}{r0:List Tk}(h:Px s T (fnP (p+1)) lv ts e0 r0)(hl:Lx s T p lv e0 r0 e r)(hs:Stops p r):Px s T (fnP p) lv ts e r:=fun i hi=>by
 obtain⟨i1,a1,z⟩:=h i hi
 obtain⟨i2,a2,zl⟩:=hl i1 a1
 obtain⟨y,y1,y2⟩:=hs
 obtain⟨t,q,rfl,hb,rfl⟩:=qhA y1
 obtain⟨on,ol⟩:=qud hp
 have hd:=qaU (qjp p) true
 exact⟨i2,a2,qCx hp (qCw hd.one hd.cells (qpU hp z) (zl.trans (qsh hd ol on a2 hb (qwI hp (y2 p (Wj p))) e)))⟩
theorem qvn(h:Px s T (fnP (p+1)) lv ts e r)(h1:1<=p)(h7:p<=7)(hs:Stops p r)(hx:nx ts=some x)(h3:p=3->x≠ustr false)(h7':p=7->x≠ustr true):Px s T (fnP p) lv ts e r:=by
 have bin:qgs p->Px s T (fnP p) lv ts e r:=fun hp=>qtK hp h (fun i hi=>⟨i,hi,rfl⟩) hs
 obtain⟨t,q,rfl,hb,rfl⟩:=qhA hx
 obtain rfl|rfl|rfl|rfl|rfl|rfl|rfl:p=1\/p=2\/p=3\/p=4\/p=5\/p=6\/p=7:=by omega
 ·exact bin (.inl rfl)
 ·exact bin (.inr (.inl rfl))
 ·intro i hi
  obtain⟨i',a1,z⟩:=h i hi
  exact⟨i',a1,qBG (neg:=false) hi hb (h3 rfl) z⟩
 ·intro i hi
  obtain⟨i',a1,z⟩:=h i hi
  obtain⟨y,y1,y2⟩:=hs
  obtain⟨t2,r2,rfl,hb2,rfl⟩:=qhA y1
  exact⟨i',a1,qA1 z a1 hb2 (qs0 (y2 4 (by omega)))⟩
 ·exact bin (.inr (.inr (.inl rfl)))
 ·exact bin (.inr (.inr (.inr rfl)))
 ·intro i hi
  obtain⟨i',a1,z⟩:=h i hi
  exact⟨i',a1,qBG (neg:=true) hi hb (h7' rfl) z⟩
theorem qft(h:Px s T (fnP q) lv ts e r)(hq:q<=8)(hx:nx ts=some x) : ∀ (k p:Nat),p+k=q->1<=p->Stops p r->(p<=3->3<q->x≠ustr false)->(p<=7->7<q->x≠ustr true)->Px s T (fnP p) lv ts e r
 |0,p,hp,_,_,_,_=>by rw[show p=q by omega]; exact h
 |k+1,p,hp,h1,hs,h3,h7=>qvn (qft h hq hx k (p+1) (by omega) (by omega) (hs.mono (by omega)) (fun a b=>h3 (by omega) b) (fun a b=>h7 (by omega) b)) h1 (by omega) hs hx (fun a=>h3 (by omega) (by omega)) (fun a=>h7 (by omega) (by omega))
theorem qvo(hp:qgs p)(hT:T.length<2 ^ 40){o:Bop}(ho:o.prec=p)(hn:nx ts=some o.str)(h:Px s T (fnP (p+1)) lv ts.tail e' r):Lx s T p lv e ts (.bin true o e e') r:=fun i hi=>by
 obtain⟨t,q,rfl,hb,hs⟩:=qhA hn
 obtain⟨i',a1,z⟩:=h (i+1) (qhB hi)
 obtain⟨on,ol⟩:=qud hp
 exact⟨i',a1,qpV (qaU (qjp p) true) ol hT on hi hb (qwH hp (o:=o) (by rw[hs,<- ho]; exact qng o)).2 hs e e' (qpU hp z)⟩
theorem qx7(hT:T.length<2 ^ 40){o:Bop}(ho:o.prec=4)(h:Px s T 297 lv ts e r)(hn:nx r=some o.str)(h2:Px s T 297 lv r.tail e' r'):Px s T 292 lv ts (.bin true o e e') r':=fun i hi=>by
 obtain⟨i1,a1,z⟩:=h i hi
 obtain⟨t,q,rfl,hb,hs⟩:=qhA hn
 obtain⟨i2,a2,z2⟩:=h2 (i1+1) (qhB a1)
 exact⟨i2,a2,qCq hT z a1 hb (qsZ (o:=o) (by rw[hs,<- ho]; exact qng o)).2 hs z2⟩
theorem qAI(hT:T.length<2 ^ 40){neg:Bool}(hlv:lv+1<=20)(hn:nx ts=some (ustr neg))(h:Px s T (unF neg) (lv+1) ts.tail e r):Px s T (unF neg) lv ts (.un true neg e) r:=fun i hi=>by
 obtain⟨a1,zo⟩:=pop (s:=s) hT (by cases neg<;>decide) hn hi hlv
 obtain⟨i2,a2,z⟩:=h _ a1
 obtain⟨t,q,rfl,hb,hs⟩:=qhA hn
 exact⟨i2,a2,qCo (by omega) hi hb hs zo z⟩
theorem qx8(hT:T.length<2 ^ 40)(hlv:lv+1<=20){t:Tk}(hb:t.bad=0)(hn:nx ts=some (bs [91]))(h:Px s T 279 (lv+1) ts.tail e r)(hc:nx r=some (bs [93])):Px s T 280 lv (t::ts) e r.tail:=fun i hi=>by
 obtain⟨a1,zo⟩:=pop (s:=s) (lv:=lv+1) hT (by decide) hn (qhB hi) hlv
 obtain⟨i2,a2,z⟩:=h _ a1
 obtain⟨a3,zc⟩:=pex (s:=s) hT (by decide) hc a2
 exact⟨_,a3,qAF (by omega) hT hi hb zo z zc⟩
theorem qsl(hT:T.length<2 ^ 40)(hlv:lv+1<=20)(hn:nx ts=some (bs [40]))(h:Px s T 279 (lv+1) ts.tail e r)(hc:nx r=some (bs [41])):Px s T 309 lv ts e r.tail:=fun i hi=>by
 obtain⟨a1,zo⟩:=pop (s:=s) hT (by decide) hn hi hlv
 obtain⟨i2,a2,z⟩:=h _ a1
 obtain⟨a3,zc⟩:=pex (s:=s) hT (by decide) hc a2
 obtain⟨t,q,rfl,hb,hs⟩:=qhA hn
 have hk:kindT t=5:=by rw[qcO hb,hs]; decide
 exact⟨_,a3,qAE (by omega) hi hb (by rw[hk]; decide) (by rw[hk]; decide) (by rw[hk]; decide) (by rw[hs]; decide) (by rw[hs]; decide) (by rw[hs]; decide) zo z zc⟩
theorem qx9(hT:T.length<2 ^ 40)(hg:e.good)(h:e.tx false 8=[x])(hn:nx ts=some x):Px s T 309 lv ts e ts.tail:=fun i hi=>by
 obtain⟨t,q,rfl,hb,hs⟩:=qhA hn
 refine⟨i+1,qhB hi,?_⟩
 have hk:=qcO hb
 rw[hs] at hk
 cases e with
 |int n=>
  simp only[E.tx,WX,and_true] at h
  obtain⟨g1,g2⟩:=hg
  have hd:=qhR (n:=n.toNat) (by omega)
  have hv:=(qgv (n:=n.toNat) (by omega)).1
  rw[h] at hd
  obtain⟨d1,d2⟩:=qpq x hd
  have hval:(valT t:Int)=n:=by
   unfold valT
   rw[hs,if_pos hd,<- h,qbX,hv]
   omega
  rw[<- hval]
  exact qzP hT hi hb (by rw[hk,qj3,if_neg d1,d2,if_neg (by decide),if_pos hd])
 |bool n=>
  simp only[E.tx,WX,and_true] at h
  rcases hg with rfl|rfl
  ·have h:qeP=x:=by rw[<- h]; rfl
   subst h
   exact qun hT hi hb (by rw[hk]; decide) hs
  ·have h:qgG=x:=by rw[<- h]; rfl
   subst h
   exact qxd hT hi hb (by rw[hk]; decide) hs
 |var w=>
  simp only[E.tx,WX,and_true] at h
  obtain⟨g1,g2,g3,g4⟩:=hg
  subst h
  rw[<- hs]
  exact qzQ hT hi hb (by rw[hk,qj3,if_neg (qgj g2),if_pos g2,if_neg g3,if_neg g4])
 |name w=>
  simp only[E.tx,WX,and_true] at h
  subst h
  have hm:t.s∈qlX:=by rw[hs]; rcases hg with rfl|rfl|rfl<;>decide
  rw[<- hs]
  exact qxe hT hi hb (by rw[hk]; rcases hg with rfl|rfl|rfl<;>decide) hm
 |field g w e=>simp[E.tx] at h
 |un g n e=>cases n<;>simp[E.tx,qda,qfD] at h
 |bin g o a b=>have:=qsd false hg.1 o.left; cases o<;>simp[E.tx,qda,Bop.prec] at h
theorem qya(hT:T.length<2 ^ 40)(hx:x∈fieldNames)(hn:nx ts=some x)(h:Px s T 280 lv ts e r):Px s T 309 lv ts (.field true x e) r:=fun i hi=>by
 obtain⟨i2,a2,z⟩:=h i hi
 obtain⟨t,q,rfl,hb,rfl⟩:=qhA hn
 have hall : ∀ w∈fieldNames,qj3 w=3:=by decide
 exact⟨i2,a2,qzR hi hb (by rw[qcO hb,hall _ hx]) z⟩
end
end
section
open F
section
variable{s:ByteArray}{T:List Tk}{p q lv i:Nat}{ts r r':List Tk}{e e':E}{x:ByteArray}{l:List ByteArray}
theorem qld(hT:T.length<2 ^ 40)(ho:Hx (bs [40]::(l++[bs [41]])) ts r)(hl:lv+1<=20)(hb : ∀ mid,Hx l ts.tail mid->Stops 1 mid->Px s T (fnP 1) (lv+1) ts.tail e mid)(h1:1<=p)(h8:p<=8)(hs:Stops p r):Px s T (fnP p) lv ts e r:=by
 obtain⟨hn,ht⟩:=qcQ ho
 obtain⟨mid,hm1,hm2⟩:=hx_app.1 ht
 obtain⟨hc,hend⟩:=qcQ hm2
 have hst:Stops 1 mid:=qfS _ (qiv _ (by intro o; cases o<;>decide)) hm2
 have base:Px s T (fnP 8) lv ts e r:=by rw[<- (show mid.tail=r from hend)]; exact qsl hT hl hn (hb mid hm1 hst) hc
 exact qft base (by omega) hn (8-p) p (by omega) h1 hs (fun _ _=>by decide) (fun _ _=>by decide)
theorem rbZ (hT:T.length<2 ^ 40) : ∀ e:E,e.good ->
  (∀ p lv ts r,1<=p->p<=8->Hx (e.tx false p) ts r->lv+e.nest false p<=20->Stops p r->Px s T (fnP p) lv ts (e.fl true) r) /\
  (∀ q lv ts r,qgs q->Hx (e.tx false q) ts r->lv+e.nest false q<=20->Stops (q+1) r -> ∃ e0 r0,Px s T (fnP (q+1)) lv ts e0 r0/\Lx s T q lv e0 r0 (e.fl true) r):=by
 have pr : ∀ {q},qgs q->1<=q/\q<=6/\q≠4/\q≠3:=fun hq=>by rcases hq with rfl|rfl|rfl|rfl<;>omega
 have self : ∀ {e q lv ts r},Px s T (fnP (q+1)) lv ts e r -> ∃ e0 r0,Px s T (fnP (q+1)) lv ts e0 r0/\Lx s T q lv e0 r0 e r:=fun h=>⟨_,_,h,fun i hi=>⟨i,hi,rfl⟩⟩
 have one : ∀ (e:E) (x:ByteArray),e.good->(∀ p,e.tx false p=[x])->e.fl true=e->x≠ustr false->x≠ustr true ->
   (∀ p lv ts r,1<=p->p<=8->Hx (e.tx false p) ts r->lv+e.nest false p<=20->Stops p r->Px s T (fnP p) lv ts (e.fl true) r) /\
   (∀ q lv ts r,qgs q->Hx (e.tx false q) ts r->lv+e.nest false q<=20->Stops (q+1) r -> ∃ e0 r0,Px s T (fnP (q+1)) lv ts e0 r0/\Lx s T q lv e0 r0 (e.fl true) r):=by
  intro e x hg he hfl h1 h2
  have A : ∀ p lv ts r,1<=p->p<=8->Hx (e.tx false p) ts r->Stops p r->Px s T (fnP p) lv ts (e.fl true) r:=fun p lv ts r p1 p8 hx hs=>by
   rw[he p] at hx
   obtain⟨hn,ht⟩:=qcQ hx
   cases ht
   rw[hfl]
   exact qft (q:=8) (qx9 hT hg (he 8) hn) (by omega) hn (8-p) p (by omega) p1 hs (fun _ _=>h1) (fun _ _=>h2)
  exact⟨fun p lv ts r p1 p8 hx _ hs=>A p lv ts r p1 p8 hx hs,fun q lv ts r hq hx _ hs=>self (A (q+1) lv ts r (by omega) (by have:=pr hq; omega) (by rw[he] at hx ⊢; exact hx) hs)⟩
 intro e
 induction e with
 |int n=>
  intro hg
  have hd:=qhR (n:=n.toNat) (by have:=hg.1; have:=hg.2; omega)
  exact one _ _ hg (fun p=>rfl) rfl (by intro h; rw[h] at hd; exact absurd hd (by decide)) (by intro h; rw[h] at hd; exact absurd hd (by decide))
 |bool n=>exact fun hg=>one _ _ hg (fun p=>rfl) rfl (by split<;>decide) (by split<;>decide)
 |var w=>exact fun hg=>one _ _ hg (fun p=>rfl) rfl (by rintro rfl; exact absurd hg.2.1 (by decide)) (by rintro rfl; exact absurd hg.2.1 (by decide))
 |name w=>exact fun hg=>one _ _ hg (fun p=>rfl) rfl (by rcases hg with rfl|rfl|rfl<;>decide) (by rcases hg with rfl|rfl|rfl<;>decide)
 |field g w e ih=>
  intro hg
  obtain⟨g1,g2⟩:=hg
  have A : ∀ p lv ts r,1<=p->p<=8->Hx ((E.field g w e).tx false p) ts r->lv+(E.field g w e).nest false p<=20->Stops p r->Px s T (fnP p) lv ts ((E.field g w e).fl true) r:=fun p lv ts r h1 h8 hx hl hs=>by
   obtain⟨hn,ht⟩:=qcQ hx
   obtain⟨hn2,ht2⟩:=qcQ ht
   obtain⟨mid,hm1,hm2⟩:=hx_app.1 ht2
   obtain⟨hc,hend⟩:=qcQ hm2
   simp only[E.nest] at hl
   have hst:Stops 1 mid:=qfS _ (qiv _ (by intro o; cases o<;>decide)) hm2
   have hk:=(ih g2).1 1 (lv+1) _ mid (by omega) (by omega) hm1 (by omega) hst
   have hs' : ∀ x:ByteArray,x∉fieldNames->w≠x:=fun x hx he=>hx (he ▸ g1)
   obtain⟨t,q,rfl,hb,_⟩:=qhA hn
   have hend:mid.tail=r:=hend
   have hi:=qx8 hT (by omega) hb hn2 hk hc
   rw[hend] at hi
   exact qft (q:=8) (qya hT g1 hn hi) (by omega) hn (8-p) p (by omega) h1 hs (fun _ _=>hs' _ (by decide)) (fun _ _=>hs' _ (by decide))
  exact⟨A,fun q lv ts r hq hx hl hs=>self (A (q+1) lv ts r (by omega) (by have:=pr hq; omega) hx hl hs)⟩
 |un g neg e ih=>
  intro hg
  have bare : ∀ lv ts r,Hx (ustr neg::e.tx false (qfD neg)) ts r->lv+e.nest false (qfD neg)+1<=20 -> ∀ p,1<=p->p<=qfD neg->Stops p r->Px s T (fnP p) lv ts ((E.un g neg e).fl true) r:=fun lv ts r hx hl p h1 hp hs=>by
   obtain⟨hn,ht⟩:=qcQ hx
   have hk:=(ih hg).1 (qfD neg) (lv+1) _ r (by cases neg<;>decide) (by cases neg<;>decide) ht (by omega) (hs.mono hp)
   have e1:fnP (qfD neg)=unF neg:=by cases neg<;>rfl
   rw[e1] at hk
   have base:=qAI (neg:=neg) hT (by omega) hn hk
   rw[<- e1] at base
   refine qft base (by cases neg<;>decide) hn (qfD neg-p) p (by omega) h1 hs (fun a b=>?_) (fun a b=>?_)
   all_goals cases neg<;>first|decide|exact absurd b (by decide)
  have A : ∀ p lv ts r,1<=p->p<=8->Hx ((E.un g neg e).tx false p) ts r->lv+(E.un g neg e).nest false p<=20->Stops p r->Px s T (fnP p) lv ts ((E.un g neg e).fl true) r:=fun p lv ts r h1 h8 hx hl hs=>by
   simp only[E.tx,E.nest,qda,YK,decide_eq_true_eq] at hx hl
   by_cases c:qfD neg<p
   ·rw[if_pos c] at hx hl
    exact qld hT hx (by omega) (fun mid hm hst=>bare (lv+1) _ mid hm (by omega) 1 (by omega) (by cases neg<;>decide) hst) h1 h8 hs
   ·rw[if_neg c] at hx hl
    exact bare lv ts r hx (by omega) p h1 (by omega) hs
  refine⟨A,fun q lv ts r hq hx hl hs=>self (A (q+1) lv ts r (by omega) (by have:=pr hq; omega) ?_ ?_ hs)⟩
  all_goals
   have:(qfD neg<q+1)=(qfD neg<q):=by
    have:=pr hq
    have h:qfD neg=3\/qfD neg=7:=by cases neg<;>decide
    apply propext; omega
   simp only[E.tx,E.nest,this] at hx hl ⊢
   assumption
 |bin g o a b iha ihb=>
  intro hg
  have hp:=qb8 o
  obtain⟨x,l,q1,q2,q3⟩:=qmi false a hg.1 o.left
  have loop : ∀ lv ts r,Hx (a.tx false o.left++o.str::b.tx false (o.prec+1)) ts r->lv+max (a.nest false o.left) (b.nest false (o.prec+1))<=20->Stops (o.prec+1) r ->
    if o.prec=4 then Px s T (fnP 4) lv ts ((E.bin g o a b).fl true) r else∃e0 r0,Px s T (fnP (o.prec+1)) lv ts e0 r0/\Lx s T o.prec lv e0 r0 ((E.bin g o a b).fl true) r:=fun lv ts r hx hl hs=>by
   obtain⟨mid,hm1,hm2⟩:=hx_app.1 hx
   obtain⟨hn,ht⟩:=qcQ hm2
   have hst:Stops (o.prec+1) mid:=⟨_,hn,fun q hq=>qok o q (by omega)⟩
   have hk:=(ihb hg.2).1 (o.prec+1) lv _ r (by omega) (by omega) ht (by omega) hs
   by_cases c:o.prec=4
   ·rw[if_pos c]
    have hleft:o.left=o.prec+1:=by omega
    have ha:=(iha hg.1).1 (o.prec+1) lv ts mid (by omega) (by omega) (hleft ▸ hm1) (by rw[<- hleft]; omega) hst
    rw[c] at hk ha
    exact qx7 hT c ha hn hk
   ·rw[if_neg c]
    have hleft:o.left=o.prec:=by omega
    have h4:qgs o.prec:=by unfold qgs; omega
    rw[hleft] at hm1 hl
    obtain⟨e0,r0,h1,h2⟩:=(iha hg.1).2 o.prec lv ts mid h4 hm1 (by omega) hst
    refine⟨e0,r0,h1,fun i hi=>?_⟩
    obtain⟨i1,a1,z1⟩:=h2 i hi
    obtain⟨i2,a2,z2⟩:=qvo h4 hT rfl hn hk i1 a1
    exact⟨i2,a2,z1.trans z2⟩
  have bare : ∀ lv ts r,Hx (a.tx false o.left++o.str::b.tx false (o.prec+1)) ts r->lv+max (a.nest false o.left) (b.nest false (o.prec+1))<=20 -> ∀ p,1<=p->p<=o.prec->Stops p r->Px s T (fnP p) lv ts ((E.bin g o a b).fl true) r:=fun lv ts r hx hl p h1 hpo hs=>by
   have h2:=loop lv ts r hx hl (hs.mono (by omega))
   have hnx:nx ts=some x:=by
    rw[q1] at hx
    exact (qcQ hx).1
   have base:Px s T (fnP o.prec) lv ts ((E.bin g o a b).fl true) r:=by
    by_cases c:o.prec=4
    ·rw[if_pos c] at h2; rw[c]; exact h2
    ·rw[if_neg c] at h2
     obtain⟨e0,r0,h3,h4⟩:=h2
     exact qtK (by unfold qgs; omega) h3 h4 (hs.mono hpo)
   exact qft base (by omega) hnx (o.prec-p) p (by omega) h1 hs (fun c1 c2 h=>by have:=q2 h; omega) (fun c1 c2=>by omega)
  have A : ∀ p lv ts r,1<=p->p<=8->Hx ((E.bin g o a b).tx false p) ts r->lv+(E.bin g o a b).nest false p<=20->Stops p r->Px s T (fnP p) lv ts ((E.bin g o a b).fl true) r:=fun p lv ts r h1 h8 hx hl hs=>by
   simp only[E.tx,E.nest,qda,YK,decide_eq_true_eq] at hx hl
   by_cases c:o.prec<p
   ·rw[if_pos c] at hx hl
    exact qld hT hx (by omega) (fun mid hm hst=>bare (lv+1) _ mid hm (by omega) 1 (by omega) (by omega) hst) h1 h8 hs
   ·rw[if_neg c] at hx hl
    exact bare lv ts r hx (by omega) p h1 (by omega) hs
  refine⟨A,fun q lv ts r hq hx hl hs=>?_⟩
  have hq':=pr hq
  by_cases c:o.prec=q
  ·subst c
   simp only[E.tx,E.nest,qda,YK,decide_eq_true_eq,WT,if_false] at hx hl
   have:=loop lv ts r hx (by omega) hs
   rw[if_neg hq'.2.2.1] at this
   exact this
  ·have hd:(o.prec<q+1)=(o.prec<q):=by apply propext; omega
   refine self (A (q+1) lv ts r (by omega) (by omega) ?_ ?_ hs)
   all_goals
    simp only[E.tx,E.nest,hd] at hx hl ⊢
    assumption
end
end
end Go.Pm
