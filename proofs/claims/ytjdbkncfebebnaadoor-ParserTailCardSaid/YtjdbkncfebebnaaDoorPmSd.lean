/- Chapter 13's reference printer: every row of statements. Chapter 13's reference printer: Print, whole. The abstract machine's programs: tables of functions. Chapter 13's parser: letters, digits, symbols, rows of texts. Chapter 13's parser: the lexer's reserved words; white space and comments. Chapter 13's parser: words and integers. Chapter 13's parser: a token. Chapter 13's parser: the token at an offset. Chapter 13's parser: the token at an offset is the plain one. -/
import Derived.Test.YtjdbkncfebebnaaDoorPmSb
import Derived.Test.YtjdbkncfebebnaaDoorPmYj
import Derived.Test.YtjdbkncfebebnaaDoorPmFx
import Derived.Test.YtjdbkncfebebnaaDoorPmEt
set_option linter.unusedSimpArgs false
set_option linter.unusedVariables false
section SSd
namespace Go.Pm
open F
set_option maxHeartbeats 8000000
abbrev sbF (s:ByteArray) (i:Int) (ex:Fr):Fr:=(1,.ptr 0 0)::(3,.str s)::(4,.int i)::ex
abbrev sbS (k n:Int) (s:ByteArray) (d:D):S:=[.cells [.int k,.int n,.str s,.dat d]]
def qpx (s:Ss):Prop := ∀ (cs:List D) (m i:Nat) (f:Bool) (k n:Int) (t:ByteArray) w w',cs.drop (i*4)=s.fo.cells->i+s.fo.len=m->m<2 ^ 40->w'=pw w s.tx->w'.length<2 ^ 40 ->
 Z tS (.loop 0 F248l0 (sbF (bs w) i []) (sbS k n t (.sl cs m f)))=some (.out (.exit 0) (sbF (bs w') m [(9,.bool false)]) (sbS k n t (.sl cs m f)))
def qrt:Ss->Prop
 | .block _ b r=>qdv b/\qrt r
 | _=>True
theorem qru {cs:List D} {m i:Nat} {f:Bool} {k0 n0:Int} {s0:ByteArray} {w w1:List UInt8} {T:List ByteArray} {k n:Int} {s:ByteArray} {d:D} {rest:List D} (hd:cs.drop (i*4) = .lit (.int .i64 k) :: .lit (.int .i64 n) :: .lit (.string s)::d::rest)
  (h1:V.one (.dat d)=true) (hcl:V.cells (.dat d)=[.dat d]) (hi:i<m) (hm:m<2 ^ 40) (hT : ∀ t∈T,t.size≠0) (hw:w1=pw w T) (hsz:w1.length<2 ^ 40)
  (zs:Z tS (.call 263 [.dat (.agg [.lit (.int .i64 k),.lit (.int .i64 n),.lit (.string s),d])] [])=some (.ret (.str (bs (qaj false T))) []))
  {r:Res} (zr:Z tS (.loop 0 F248l0 (sbF (bs w1) ((i+1:Nat):Int) []) (sbS k0 n0 s0 (.sl cs m f)))=some r) :
  Z tS (.loop 0 F248l0 (sbF (bs w) i []) (sbS k0 n0 s0 (.sl cs m f)))=some r:=by
 have hc:=quJ hd
 have hlt:(i:Int)<m:=by omega
 have w1':IntKind.i64.wrap ((i:Int)+1)=((i+1:Nat):Int):=by rw[qal _ (by omega)]; omega
 have hle:=qfp T (wl w)
 have zj:=qpr (bs w) (bs (qaj false T)) (by
  rw[qam,qam]
  have:=congrArg List.length hw
  simp only[pw,List.length_append] at this
  omega)
 rw[qbg,qps w hT,<- hw] at zj
 rw[<- zr]
 conv=>lhs; rw[qae]
 generalize ((i+1:Nat):Int)=i1 at *
 generalize bs (qaj false T)=R at *
 generalize bs w1=W1 at *
 generalize bs w=W0 at *
 simp[qag,qfR,qah,V.len,hc,h1,hcl,hlt,hi,zs,zj,w1',List.range_succ]
theorem qkE {b:Ss} (hg:b.good none) (hl:qpx b):qdv b:=by
 have htg:=qlh (qhq b none hg).ok
 have hnz : ∀ t∈b.tx,t.size≠0:=fun t ht=>qiQ (htg t ht)
 refine⟨hnz,?_⟩
 intro k n s f hsz
 obtain⟨w2,e2⟩ : ∃ v,v=pw [123] b.tx:=⟨_,rfl⟩
 have e3:qaj false b.btx=w2++[125]:=by
  rw[<- qnb,Ss.btx,qcT,qhR,e2]
  show pw (pw ([]++(gap (wl []) ⟨#[123]⟩++byl ⟨#[123]⟩)) b.tx) [⟨#[125]⟩]=_
  rw[show ([]++(gap (wl []) ⟨#[123]⟩++byl ⟨#[123]⟩):List UInt8)=[123] by decide,qcT,qej]
  have : ∀ q,gap q ⟨#[125]⟩=[]:=fun q=>by cases q<;>decide
  rw[this]
  rfl
 rw[e3] at hsz ⊢
 have s2:w2.length<2 ^ 40:=by rw[List.length_append] at hsz; omega
 have hb:b.fo.len<2 ^ 40:=by
  have h1:=qeJ b hg
  have h2:=qh1 b.tx (wl [123]) hnz
  have h3:=congrArg List.length e2
  simp only[pw,List.length_append] at h3
  omega
 have hr:bs (w2++[125])=bs w2++⟨#[125]⟩:=(qpq w2 [125]).symm
 have hsz2 : ¬ (9223372036854775807:Int)<((bs w2).size:Int)+1:=by rw[qam]; omega
 have y1:((⟨#[125]⟩:ByteArray).size:Int)=1:=rfl
 have y2:(⟨#[125]⟩:ByteArray).size=1:=rfl
 have z0:(⟨#[123]⟩:ByteArray)=bs [123]:=rfl
 rw[hr]
 refine qaa (pf:=F248) rfl rfl ?_
 cases hbl:b.fo.len with
 | zero=>
  have hn:=qh4 hbl
  subst hn
  have:w2=[123]:=by rw[e2]; exact qej _
  subst this
  have y3:((⟨#[123]⟩:ByteArray).size:Int)=1:=rfl
  simp[F248,V.len,qae,qag,qfR,List.range_succ,bs,y1,y2,y3]
 | succ q=>
  have z2:=hl b.fo.cells (q+1) 0 f k n s [123] w2 (by simp) (by omega) (by omega) e2 s2
  have hk:kd f (q+1) b.fo.cells = .sl b.fo.cells (q+1) f:=rfl
  rw[hk]
  simp only[sbF,sbS,Int.cast_ofNat_Int,<- z0] at z2
  generalize q+1=M at *
  generalize bs w2=W2 at *
  simp[F248,z2,List.range_succ,y1,y2,hsz2]
theorem qpy {S r:Ss} {T:List ByteArray} (htx:S.tx=T++r.tx) (hnz : ∀ t∈S.tx,t.size≠0) {cs:List D} {m i:Nat} {f:Bool} {k0 n0:Int} {s0:ByteArray} {w w':List UInt8} {k n:Int} {s:ByteArray} {d:D}
  (hd:cs.drop (i*4) = .lit (.int .i64 k) :: .lit (.int .i64 n) :: .lit (.string s)::d::r.fo.cells) (h1:V.one (.dat d)=true) (hcl:V.cells (.dat d)=[.dat d]) (hm:i+(r.fo.len+1)=m) (hm2:m<2 ^ 40) (hw:w'=pw w S.tx) (hs:w'.length<2 ^ 40)
  (zs:(qaj false T).length<2 ^ 40->Z tS (.call 263 [.dat (.agg [.lit (.int .i64 k),.lit (.int .i64 n),.lit (.string s),d])] [])=some (.ret (.str (bs (qaj false T))) [])) (ihr:qpx r) :
  Z tS (.loop 0 F248l0 (sbF (bs w) i []) (sbS k0 n0 s0 (.sl cs m f)))=some (.out (.exit 0) (sbF (bs w') m [(9,.bool false)]) (sbS k0 n0 s0 (.sl cs m f))):=by
 obtain⟨w1,e1⟩ : ∃ v,v=pw w T:=⟨_,rfl⟩
 have e2:w'=pw w1 r.tx:=by rw[hw,htx,qhR,e1]
 have s1:w1.length<2 ^ 40:=Nat.lt_of_le_of_lt (by rw[e2]; exact qpf _ _) hs
 have hle:=qfp T (wl w)
 have sT:(qaj false T).length<2 ^ 40:=by
  have:=congrArg List.length e1
  simp only[pw,List.length_append] at this
  omega
 have nT : ∀ t∈T,t.size≠0:=fun t ht=>hnz t (by rw[htx]; exact List.mem_append_left _ ht)
 exact qru hd h1 hcl (by omega) hm2 nT e1 s1 (zs sT) (ihr cs m (i+1) f k0 n0 s0 w1 w' (qnl hd) (by omega) hm2 e2 hs)
theorem qrv : ∀ s:Ss,(s.good none->qpx s)/\((∃ k,s.good (some k))->qrt s):=by
 intro s
 have nz : ∀ s:Ss,s.good none -> ∀ t∈s.tx,t.size≠0:=fun s h t ht=>qiQ (qlh (qhq s none h).ok t ht)
 induction s with
 | nil=>
  refine⟨fun _ cs m i f k0 n0 s0 w w' hd hm hm2 hw hs=>?_,fun _=>trivial⟩
  rw[Ss.tx,qej] at hw
  subst hw
  have:i=m:=by simpa [Ss.fo] using hm
  subst this
  simp only[sbF,sbS]
  rw[qae]
  simp[qag,qfR,V.len,List.range_succ]
 | assign g s e r ih=>
  refine⟨fun h cs m i f k0 n0 s0 w w' hd hm hm2 hw hs=>?_,fun _=>trivial⟩
  have hz:=nz _ h
  obtain⟨_,hn,he,hr⟩:=h
  simp only[Ss.fo,qa4,qjM,qbB,qbk,qpm,qfy,qaT] at hd hm
  exact qpy (S := .assign g s e r) (T:=[s]++([⟨#[61]⟩]++(e.tx false 1++([⟨#[59]⟩]++[])))) (by simp only[Ss.tx,List.cons_append,List.nil_append,List.append_nil,List.append_assoc]; rfl) hz hd rfl rfl (by omega) hm2 hw hs (qmY (fb:=false) (fc:=false) he (by simp only[List.append_assoc,List.append_nil,List.cons_append,List.nil_append])) (ih.1 hr)
 | store g s a b r ih=>
  refine⟨fun h cs m i f k0 n0 s0 w w' hd hm hm2 hw hs=>?_,fun _=>trivial⟩
  have hz:=nz _ h
  obtain⟨_,hn,ha,hb,hr⟩:=h
  simp only[Ss.fo,qa4,qjM,qbB,qbk,qpm,qfy,qaT] at hd hm
  exact qpy (S := .store g s a b r) (T:=[s]++([⟨#[91]⟩]++(a.tx false 1++([⟨#[93]⟩]++([⟨#[61]⟩]++(b.tx false 1++([⟨#[59]⟩]++[]))))))) (by simp only[Ss.tx,List.cons_append,List.nil_append,List.append_nil,List.append_assoc]; rfl) hz hd rfl rfl (by omega) hm2 hw hs (qoy (fb:=false) (fc:=false) ha hb (by simp only[List.append_assoc,List.append_nil,List.cons_append,List.nil_append])) (ih.1 hr)
 | effect g a b r ih=>
  refine⟨fun h cs m i f k0 n0 s0 w w' hd hm hm2 hw hs=>?_,fun _=>trivial⟩
  have hz:=nz _ h
  obtain⟨_,ha,hb,hr⟩:=h
  simp only[Ss.fo,qa4,qjM,qbB,qbk,qpm,qfy,qaT] at hd hm
  exact qpy (S := .effect g a b r) (T:=[⟨#[101,102,102,101,99,116]⟩]++(a.tx false 1++([⟨#[44]⟩]++(b.tx false 1++([⟨#[59]⟩]++[]))))) (by simp only[Ss.tx,List.cons_append,List.nil_append,List.append_nil,List.append_assoc]; rfl) hz hd rfl rfl (by omega) hm2 hw hs (qmZ (fb:=false) (fc:=false) ha hb (by simp only[List.append_assoc,List.append_nil,List.cons_append,List.nil_append])) (ih.1 hr)
 | stop r ih=>
  refine⟨fun h cs m i f k0 n0 s0 w w' hd hm hm2 hw hs=>?_,fun _=>trivial⟩
  have hz:=nz _ h
  obtain⟨_,hr⟩:=h
  simp only[Ss.fo,qa4,qbB,qbk,qaT,qtb] at hd hm
  exact qpy (S := .stop r) (T:=[⟨#[115,116,111,112]⟩,⟨#[59]⟩]) rfl hz hd rfl rfl (by omega) hm2 hw hs (fun _=>qqu rfl rfl) (ih.1 hr)
 | cond w0 g c b r ihb ih=>
  refine⟨fun h cs m i f k0 n0 s0 w w' hd hm hm2 hw hs=>?_,fun _=>trivial⟩
  have hz:=nz _ h
  obtain⟨_,hc,hb,hr⟩:=h
  cases w0 with
  | true=>
   obtain⟨fb,b1,rfl,hb1⟩:=qnc hb
   have hrow:=ihb.2 ⟨1,hb⟩
   simp only[Ss.fo,qa4,qjM,qbB,qbk,qpm,qfy,qaT,if_true] at hd hm
   exact qpy (S := .cond true g c (.block fb b1 .nil) r) (T:=[⟨#[119,104,105,108,101]⟩]++(c.tx false 1++b1.btx)) (by simp only[Ss.tx,Ss.btx,List.cons_append,List.nil_append,List.append_nil,List.append_assoc,qfJ,if_true,Bool.false_eq_true,if_false]; rfl) hz hd rfl rfl (by omega) hm2 hw hs (qoz (fc:=false) hc hrow.1 (by simp only[List.append_assoc,List.append_nil,List.cons_append,List.nil_append])) (ih.1 hr)
  | false=>
   obtain⟨fb,b1,fc,b2,rfl,hb1,hb2⟩:=qqQ hb
   have hrow:=ihb.2 ⟨2,hb⟩
   simp only[Ss.fo,qa4,qjM,qbB,qbk,qpm,qfy,qaT,Bool.false_eq_true,if_false] at hd hm
   cases hl:b2.fo.len with
   | zero=>
    have hn:=qh4 hl
    exact qpy (S := .cond false g c (.block fb b1 (.block fc b2 .nil)) r) (T:=[⟨#[105,102]⟩]++(c.tx false 1++b1.btx)) (by rw[hn]; simp only[Ss.tx,Ss.btx,List.cons_append,List.nil_append,List.append_nil,List.append_assoc,qfJ,if_true,Bool.false_eq_true,if_false]; rfl) hz hd rfl rfl (by omega) hm2 hw hs (qse hc hrow.1 hl (by simp only[List.append_assoc,List.append_nil,List.cons_append,List.nil_append])) (ih.1 hr)
   | succ q=>
    have he:qfJ (.block fc b2 .nil)=true:=by cases b2<;>first | rfl | simp[Ss.fo] at hl
    exact qpy (S := .cond false g c (.block fb b1 (.block fc b2 .nil)) r) (T:=[⟨#[105,102]⟩]++(c.tx false 1++(b1.btx++([⟨#[101,108,115,101]⟩]++b2.btx)))) (by simp only[Ss.tx,Ss.btx,he,List.cons_append,List.nil_append,List.append_nil,List.append_assoc,if_true,Bool.false_eq_true,if_false]; rfl) hz hd rfl rfl (by omega) hm2 hw hs (qsf hc hrow.1 (by omega) hrow.2.1 (by simp only[List.append_assoc,List.append_nil,List.cons_append,List.nil_append])) (ih.1 hr)
 | block g b r ihb ih=>
  refine⟨fun h=>?_,fun ⟨k,h⟩=>?_⟩
  ·obtain⟨n,hn,_⟩:=h; cases hn
  ·obtain⟨n,hn,hb,hr⟩:=h
   exact⟨qkE hb (ihb.1 hb),ih.2 ⟨n,hr⟩⟩
end Go.Pm
end SSd
section SSe
namespace Go.Pm
open F
set_option maxHeartbeats 8000000
abbrev hnD:V := .dat (.sl [.lit (.string ⟨#[97,99,116]⟩),.lit (.string ⟨#[116,105,99,107]⟩),.lit (.string ⟨#[104,105,116]⟩)] 3 true)
theorem qbV:Z tS (.call 152 [] [])=some (.ret hnD []):=by
 refine qaa (pf:=F152) rfl rfl ?_
 simp[F152]
theorem bs_nil:bs (qaj false [])=⟨#[]⟩:=rfl
theorem qcR {T T':List ByteArray} {t:ByteArray} {b:Ss} {R R' Q:ByteArray} (hb:qdv b) (hT : ∀ x∈T,x.size≠0) (hR:R=bs (qaj false T)) (hQ:Q=bs (qaj false b.btx)) (hT':T'=T++(⟨#[111,110]⟩::t::b.btx)) (hR':R'=bs (qaj false T')) (hs:R'.size<2 ^ 40) :
  Z tS (.call 247 [.dat (.sl [.lit (.string R),.lit (.string ⟨#[111,110]⟩),.lit (.string t),.lit (.string Q)] 4 true)] [])=some (.ret (.str R') []):=by
 have hP:Parts [R,⟨#[111,110]⟩,t,Q] T':=by
  rw[hR,hQ,hT']
  have:=Parts.sub hT (.tok (t:=⟨#[111,110]⟩) (.tok (t:=t) (.sub (qdX hb.1) .nil)))
  rw[List.append_nil] at this
  exact this
 exact qbW hP hR' (by simp) hs
theorem qbt {T:List ByteArray} {t:ByteArray} {b:Ss} (hT : ∀ x∈T,x.size≠0) (ht:t.size≠0) (hb:qdv b) : ∀ x∈T++(⟨#[111,110]⟩::t::b.btx),x.size≠0:=
 qeG hT (qeG (a:=[⟨#[111,110]⟩,t]) (qeG (a:=[⟨#[111,110]⟩]) (qiJ (by decide)) (qiJ ht)) (qdX hb.1))
theorem qnW:Z tS (.call 236 [.dat (.agg [.lit (.int .i64 0),.lit (.int .i64 0),.lit (.string ⟨#[]⟩),.lit (.slice none 0 0),.lit (.int .i64 0),.lit (.int .i64 0),.lit (.string ⟨#[]⟩),.lit (.slice none 0 0),.lit (.int .i64 0),.lit (.int .i64 0),.lit (.string ⟨#[]⟩),.lit (.slice none 0 0)])] [])=some (.ret (.str ⟨#[]⟩) []):=by
 have zh:=qbV
 refine qaa (pf:=F236) rfl rfl ?_
 simp[F236,zh,qae,qag,qcj,qah,List.range_succ,show IntKind.i64.wrap 1=1 from rfl,show IntKind.i64.wrap 2=2 from rfl,show IntKind.i64.wrap 3=3 from rfl]
theorem qnX {f0:Bool} {b0:Ss} (h0:qdv b0) {T:List ByteArray} (hT:T=([]++(⟨#[111,110]⟩::⟨#[97,99,116]⟩::b0.btx))) (hsz:(qaj false T).length<2 ^ 40):Z tS (.call 236 [.dat (.agg [.lit (.int .i64 7),.lit (.int .i64 0),.lit (.string ⟨#[]⟩),kd f0 b0.fo.len b0.fo.cells,.lit (.int .i64 0),.lit (.int .i64 0),.lit (.string ⟨#[]⟩),.lit (.slice none 0 0),.lit (.int .i64 0),.lit (.int .i64 0),.lit (.string ⟨#[]⟩),.lit (.slice none 0 0)])] [])=some (.ret (.str (bs (qaj false T))) []):=by
 have zh:=qbV
 have n0 : ∀ x∈([]:List ByteArray),x.size≠0:=qdo
 obtain⟨T1,hT1⟩ : ∃ v,v=[]++(⟨#[111,110]⟩::⟨#[97,99,116]⟩::b0.btx):=⟨_,rfl⟩
 have n1 : ∀ x∈T1,x.size≠0:=by rw[hT1]; exact qbt n0 (by decide) h0
 have hTn:T=T1:=by rw[hT,hT1]
 rw[hTn] at hsz ⊢
 clear hT hTn
 have s1:=hsz
 have q0:(qaj false b0.btx).length<2 ^ 40:=Nat.lt_of_le_of_lt (by
  have:=qad ([]++[⟨#[111,110]⟩,⟨#[97,99,116]⟩]) b0.btx [] false
  rw[List.append_nil,List.append_assoc] at this
  rw[hT1]
  exact this) s1
 have z0:=h0.2 7 0 ⟨#[]⟩ f0 q0
 obtain⟨Q0,hQ0⟩ : ∃ v,v=bs (qaj false b0.btx):=⟨_,rfl⟩
 rw[<- hQ0] at z0
 obtain⟨R1,hR1⟩ : ∃ v,v=bs (qaj false T1):=⟨_,rfl⟩
 have y1:=qcR (t:=⟨#[97,99,116]⟩) h0 n0 (R:=⟨#[]⟩) bs_nil.symm hQ0 hT1 hR1 (by rw[hR1,qam]; exact s1)
 rw[<- hR1]
 clear hT1 hR1 s1 hQ0 q0 hsz n1 n0
 refine qaa (pf:=F236) rfl rfl ?_
 simp[F236,zh,z0,y1,qae,qag,qcj,qah,List.range_succ,show IntKind.i64.wrap 1=1 from rfl,show IntKind.i64.wrap 2=2 from rfl,show IntKind.i64.wrap 3=3 from rfl]
theorem qnY {f1:Bool} {b1:Ss} (h1:qdv b1) {T:List ByteArray} (hT:T=([]++(⟨#[111,110]⟩::⟨#[116,105,99,107]⟩::b1.btx))) (hsz:(qaj false T).length<2 ^ 40):Z tS (.call 236 [.dat (.agg [.lit (.int .i64 0),.lit (.int .i64 0),.lit (.string ⟨#[]⟩),.lit (.slice none 0 0),.lit (.int .i64 7),.lit (.int .i64 0),.lit (.string ⟨#[]⟩),kd f1 b1.fo.len b1.fo.cells,.lit (.int .i64 0),.lit (.int .i64 0),.lit (.string ⟨#[]⟩),.lit (.slice none 0 0)])] [])=some (.ret (.str (bs (qaj false T))) []):=by
 have zh:=qbV
 have n0 : ∀ x∈([]:List ByteArray),x.size≠0:=qdo
 obtain⟨T1,hT1⟩ : ∃ v,v=[]++(⟨#[111,110]⟩::⟨#[116,105,99,107]⟩::b1.btx):=⟨_,rfl⟩
 have n1 : ∀ x∈T1,x.size≠0:=by rw[hT1]; exact qbt n0 (by decide) h1
 have hTn:T=T1:=by rw[hT,hT1]
 rw[hTn] at hsz ⊢
 clear hT hTn
 have s1:=hsz
 have q1:(qaj false b1.btx).length<2 ^ 40:=Nat.lt_of_le_of_lt (by
  have:=qad ([]++[⟨#[111,110]⟩,⟨#[116,105,99,107]⟩]) b1.btx [] false
  rw[List.append_nil,List.append_assoc] at this
  rw[hT1]
  exact this) s1
 have z1:=h1.2 7 0 ⟨#[]⟩ f1 q1
 obtain⟨Q1,hQ1⟩ : ∃ v,v=bs (qaj false b1.btx):=⟨_,rfl⟩
 rw[<- hQ1] at z1
 obtain⟨R1,hR1⟩ : ∃ v,v=bs (qaj false T1):=⟨_,rfl⟩
 have y1:=qcR (t:=⟨#[116,105,99,107]⟩) h1 n0 (R:=⟨#[]⟩) bs_nil.symm hQ1 hT1 hR1 (by rw[hR1,qam]; exact s1)
 rw[<- hR1]
 clear hT1 hR1 s1 hQ1 q1 hsz n1 n0
 refine qaa (pf:=F236) rfl rfl ?_
 simp[F236,zh,z1,y1,qae,qag,qcj,qah,List.range_succ,show IntKind.i64.wrap 1=1 from rfl,show IntKind.i64.wrap 2=2 from rfl,show IntKind.i64.wrap 3=3 from rfl]
theorem qnZ {f0:Bool} {b0:Ss} (h0:qdv b0) {f1:Bool} {b1:Ss} (h1:qdv b1) {T:List ByteArray} (hT:T=(([]++(⟨#[111,110]⟩::⟨#[97,99,116]⟩::b0.btx))++(⟨#[111,110]⟩::⟨#[116,105,99,107]⟩::b1.btx))) (hsz:(qaj false T).length<2 ^ 40):Z tS (.call 236 [.dat (.agg [.lit (.int .i64 7),.lit (.int .i64 0),.lit (.string ⟨#[]⟩),kd f0 b0.fo.len b0.fo.cells,.lit (.int .i64 7),.lit (.int .i64 0),.lit (.string ⟨#[]⟩),kd f1 b1.fo.len b1.fo.cells,.lit (.int .i64 0),.lit (.int .i64 0),.lit (.string ⟨#[]⟩),.lit (.slice none 0 0)])] [])=some (.ret (.str (bs (qaj false T))) []):=by
 have zh:=qbV
 have n0 : ∀ x∈([]:List ByteArray),x.size≠0:=qdo
 obtain⟨T1,hT1⟩ : ∃ v,v=[]++(⟨#[111,110]⟩::⟨#[97,99,116]⟩::b0.btx):=⟨_,rfl⟩
 have n1 : ∀ x∈T1,x.size≠0:=by rw[hT1]; exact qbt n0 (by decide) h0
 obtain⟨T2,hT2⟩ : ∃ v,v=T1++(⟨#[111,110]⟩::⟨#[116,105,99,107]⟩::b1.btx):=⟨_,rfl⟩
 have n2 : ∀ x∈T2,x.size≠0:=by rw[hT2]; exact qbt n1 (by decide) h1
 have hTn:T=T2:=by rw[hT,hT2,hT1]
 rw[hTn] at hsz ⊢
 clear hT hTn
 have s2:=hsz
 have s1:(qaj false T1).length<2 ^ 40:=Nat.lt_of_le_of_lt (by
  have:=qad [] T1 (⟨#[111,110]⟩::⟨#[116,105,99,107]⟩::b1.btx) false
  rw[List.nil_append] at this
  rw[hT2]
  exact this) s2
 have q0:(qaj false b0.btx).length<2 ^ 40:=Nat.lt_of_le_of_lt (by
  have:=qad ([]++[⟨#[111,110]⟩,⟨#[97,99,116]⟩]) b0.btx [] false
  rw[List.append_nil,List.append_assoc] at this
  rw[hT1]
  exact this) s1
 have z0:=h0.2 7 0 ⟨#[]⟩ f0 q0
 obtain⟨Q0,hQ0⟩ : ∃ v,v=bs (qaj false b0.btx):=⟨_,rfl⟩
 rw[<- hQ0] at z0
 obtain⟨R1,hR1⟩ : ∃ v,v=bs (qaj false T1):=⟨_,rfl⟩
 have y1:=qcR (t:=⟨#[97,99,116]⟩) h0 n0 (R:=⟨#[]⟩) bs_nil.symm hQ0 hT1 hR1 (by rw[hR1,qam]; exact s1)
 have q1:(qaj false b1.btx).length<2 ^ 40:=Nat.lt_of_le_of_lt (by
  have:=qad (T1++[⟨#[111,110]⟩,⟨#[116,105,99,107]⟩]) b1.btx [] false
  rw[List.append_nil,List.append_assoc] at this
  rw[hT2]
  exact this) s2
 have z1:=h1.2 7 0 ⟨#[]⟩ f1 q1
 obtain⟨Q1,hQ1⟩ : ∃ v,v=bs (qaj false b1.btx):=⟨_,rfl⟩
 rw[<- hQ1] at z1
 obtain⟨R2,hR2⟩ : ∃ v,v=bs (qaj false T2):=⟨_,rfl⟩
 have y2:=qcR (t:=⟨#[116,105,99,107]⟩) h1 n1 hR1 hQ1 hT2 hR2 (by rw[hR2,qam]; exact s2)
 rw[<- hR2]
 clear hT2 hR2 s2 hT1 hR1 s1 hQ0 q0 hQ1 q1 hsz n2 n1 n0
 refine qaa (pf:=F236) rfl rfl ?_
 simp[F236,zh,z0,z1,y1,y2,qae,qag,qcj,qah,List.range_succ,show IntKind.i64.wrap 1=1 from rfl,show IntKind.i64.wrap 2=2 from rfl,show IntKind.i64.wrap 3=3 from rfl]
theorem qn0 {f2:Bool} {b2:Ss} (h2:qdv b2) {T:List ByteArray} (hT:T=([]++(⟨#[111,110]⟩::⟨#[104,105,116]⟩::b2.btx))) (hsz:(qaj false T).length<2 ^ 40):Z tS (.call 236 [.dat (.agg [.lit (.int .i64 0),.lit (.int .i64 0),.lit (.string ⟨#[]⟩),.lit (.slice none 0 0),.lit (.int .i64 0),.lit (.int .i64 0),.lit (.string ⟨#[]⟩),.lit (.slice none 0 0),.lit (.int .i64 7),.lit (.int .i64 0),.lit (.string ⟨#[]⟩),kd f2 b2.fo.len b2.fo.cells])] [])=some (.ret (.str (bs (qaj false T))) []):=by
 have zh:=qbV
 have n0 : ∀ x∈([]:List ByteArray),x.size≠0:=qdo
 obtain⟨T1,hT1⟩ : ∃ v,v=[]++(⟨#[111,110]⟩::⟨#[104,105,116]⟩::b2.btx):=⟨_,rfl⟩
 have n1 : ∀ x∈T1,x.size≠0:=by rw[hT1]; exact qbt n0 (by decide) h2
 have hTn:T=T1:=by rw[hT,hT1]
 rw[hTn] at hsz ⊢
 clear hT hTn
 have s1:=hsz
 have q2:(qaj false b2.btx).length<2 ^ 40:=Nat.lt_of_le_of_lt (by
  have:=qad ([]++[⟨#[111,110]⟩,⟨#[104,105,116]⟩]) b2.btx [] false
  rw[List.append_nil,List.append_assoc] at this
  rw[hT1]
  exact this) s1
 have z2:=h2.2 7 0 ⟨#[]⟩ f2 q2
 obtain⟨Q2,hQ2⟩ : ∃ v,v=bs (qaj false b2.btx):=⟨_,rfl⟩
 rw[<- hQ2] at z2
 obtain⟨R1,hR1⟩ : ∃ v,v=bs (qaj false T1):=⟨_,rfl⟩
 have y1:=qcR (t:=⟨#[104,105,116]⟩) h2 n0 (R:=⟨#[]⟩) bs_nil.symm hQ2 hT1 hR1 (by rw[hR1,qam]; exact s1)
 rw[<- hR1]
 clear hT1 hR1 s1 hQ2 q2 hsz n1 n0
 refine qaa (pf:=F236) rfl rfl ?_
 simp[F236,zh,z2,y1,qae,qag,qcj,qah,List.range_succ,show IntKind.i64.wrap 1=1 from rfl,show IntKind.i64.wrap 2=2 from rfl,show IntKind.i64.wrap 3=3 from rfl]
theorem qn1 {f0:Bool} {b0:Ss} (h0:qdv b0) {f2:Bool} {b2:Ss} (h2:qdv b2) {T:List ByteArray} (hT:T=(([]++(⟨#[111,110]⟩::⟨#[97,99,116]⟩::b0.btx))++(⟨#[111,110]⟩::⟨#[104,105,116]⟩::b2.btx))) (hsz:(qaj false T).length<2 ^ 40):Z tS (.call 236 [.dat (.agg [.lit (.int .i64 7),.lit (.int .i64 0),.lit (.string ⟨#[]⟩),kd f0 b0.fo.len b0.fo.cells,.lit (.int .i64 0),.lit (.int .i64 0),.lit (.string ⟨#[]⟩),.lit (.slice none 0 0),.lit (.int .i64 7),.lit (.int .i64 0),.lit (.string ⟨#[]⟩),kd f2 b2.fo.len b2.fo.cells])] [])=some (.ret (.str (bs (qaj false T))) []):=by
 have zh:=qbV
 have n0 : ∀ x∈([]:List ByteArray),x.size≠0:=qdo
 obtain⟨T1,hT1⟩ : ∃ v,v=[]++(⟨#[111,110]⟩::⟨#[97,99,116]⟩::b0.btx):=⟨_,rfl⟩
 have n1 : ∀ x∈T1,x.size≠0:=by rw[hT1]; exact qbt n0 (by decide) h0
 obtain⟨T2,hT2⟩ : ∃ v,v=T1++(⟨#[111,110]⟩::⟨#[104,105,116]⟩::b2.btx):=⟨_,rfl⟩
 have n2 : ∀ x∈T2,x.size≠0:=by rw[hT2]; exact qbt n1 (by decide) h2
 have hTn:T=T2:=by rw[hT,hT2,hT1]
 rw[hTn] at hsz ⊢
 clear hT hTn
 have s2:=hsz
 have s1:(qaj false T1).length<2 ^ 40:=Nat.lt_of_le_of_lt (by
  have:=qad [] T1 (⟨#[111,110]⟩::⟨#[104,105,116]⟩::b2.btx) false
  rw[List.nil_append] at this
  rw[hT2]
  exact this) s2
 have q0:(qaj false b0.btx).length<2 ^ 40:=Nat.lt_of_le_of_lt (by
  have:=qad ([]++[⟨#[111,110]⟩,⟨#[97,99,116]⟩]) b0.btx [] false
  rw[List.append_nil,List.append_assoc] at this
  rw[hT1]
  exact this) s1
 have z0:=h0.2 7 0 ⟨#[]⟩ f0 q0
 obtain⟨Q0,hQ0⟩ : ∃ v,v=bs (qaj false b0.btx):=⟨_,rfl⟩
 rw[<- hQ0] at z0
 obtain⟨R1,hR1⟩ : ∃ v,v=bs (qaj false T1):=⟨_,rfl⟩
 have y1:=qcR (t:=⟨#[97,99,116]⟩) h0 n0 (R:=⟨#[]⟩) bs_nil.symm hQ0 hT1 hR1 (by rw[hR1,qam]; exact s1)
 have q2:(qaj false b2.btx).length<2 ^ 40:=Nat.lt_of_le_of_lt (by
  have:=qad (T1++[⟨#[111,110]⟩,⟨#[104,105,116]⟩]) b2.btx [] false
  rw[List.append_nil,List.append_assoc] at this
  rw[hT2]
  exact this) s2
 have z2:=h2.2 7 0 ⟨#[]⟩ f2 q2
 obtain⟨Q2,hQ2⟩ : ∃ v,v=bs (qaj false b2.btx):=⟨_,rfl⟩
 rw[<- hQ2] at z2
 obtain⟨R2,hR2⟩ : ∃ v,v=bs (qaj false T2):=⟨_,rfl⟩
 have y2:=qcR (t:=⟨#[104,105,116]⟩) h2 n1 hR1 hQ2 hT2 hR2 (by rw[hR2,qam]; exact s2)
 rw[<- hR2]
 clear hT2 hR2 s2 hT1 hR1 s1 hQ0 q0 hQ2 q2 hsz n2 n1 n0
 refine qaa (pf:=F236) rfl rfl ?_
 simp[F236,zh,z0,z2,y1,y2,qae,qag,qcj,qah,List.range_succ,show IntKind.i64.wrap 1=1 from rfl,show IntKind.i64.wrap 2=2 from rfl,show IntKind.i64.wrap 3=3 from rfl]
theorem qn2 {f1:Bool} {b1:Ss} (h1:qdv b1) {f2:Bool} {b2:Ss} (h2:qdv b2) {T:List ByteArray} (hT:T=(([]++(⟨#[111,110]⟩::⟨#[116,105,99,107]⟩::b1.btx))++(⟨#[111,110]⟩::⟨#[104,105,116]⟩::b2.btx))) (hsz:(qaj false T).length<2 ^ 40):Z tS (.call 236 [.dat (.agg [.lit (.int .i64 0),.lit (.int .i64 0),.lit (.string ⟨#[]⟩),.lit (.slice none 0 0),.lit (.int .i64 7),.lit (.int .i64 0),.lit (.string ⟨#[]⟩),kd f1 b1.fo.len b1.fo.cells,.lit (.int .i64 7),.lit (.int .i64 0),.lit (.string ⟨#[]⟩),kd f2 b2.fo.len b2.fo.cells])] [])=some (.ret (.str (bs (qaj false T))) []):=by
 have zh:=qbV
 have n0 : ∀ x∈([]:List ByteArray),x.size≠0:=qdo
 obtain⟨T1,hT1⟩ : ∃ v,v=[]++(⟨#[111,110]⟩::⟨#[116,105,99,107]⟩::b1.btx):=⟨_,rfl⟩
 have n1 : ∀ x∈T1,x.size≠0:=by rw[hT1]; exact qbt n0 (by decide) h1
 obtain⟨T2,hT2⟩ : ∃ v,v=T1++(⟨#[111,110]⟩::⟨#[104,105,116]⟩::b2.btx):=⟨_,rfl⟩
 have n2 : ∀ x∈T2,x.size≠0:=by rw[hT2]; exact qbt n1 (by decide) h2
 have hTn:T=T2:=by rw[hT,hT2,hT1]
 rw[hTn] at hsz ⊢
 clear hT hTn
 have s2:=hsz
 have s1:(qaj false T1).length<2 ^ 40:=Nat.lt_of_le_of_lt (by
  have:=qad [] T1 (⟨#[111,110]⟩::⟨#[104,105,116]⟩::b2.btx) false
  rw[List.nil_append] at this
  rw[hT2]
  exact this) s2
 have q1:(qaj false b1.btx).length<2 ^ 40:=Nat.lt_of_le_of_lt (by
  have:=qad ([]++[⟨#[111,110]⟩,⟨#[116,105,99,107]⟩]) b1.btx [] false
  rw[List.append_nil,List.append_assoc] at this
  rw[hT1]
  exact this) s1
 have z1:=h1.2 7 0 ⟨#[]⟩ f1 q1
 obtain⟨Q1,hQ1⟩ : ∃ v,v=bs (qaj false b1.btx):=⟨_,rfl⟩
 rw[<- hQ1] at z1
 obtain⟨R1,hR1⟩ : ∃ v,v=bs (qaj false T1):=⟨_,rfl⟩
 have y1:=qcR (t:=⟨#[116,105,99,107]⟩) h1 n0 (R:=⟨#[]⟩) bs_nil.symm hQ1 hT1 hR1 (by rw[hR1,qam]; exact s1)
 have q2:(qaj false b2.btx).length<2 ^ 40:=Nat.lt_of_le_of_lt (by
  have:=qad (T1++[⟨#[111,110]⟩,⟨#[104,105,116]⟩]) b2.btx [] false
  rw[List.append_nil,List.append_assoc] at this
  rw[hT2]
  exact this) s2
 have z2:=h2.2 7 0 ⟨#[]⟩ f2 q2
 obtain⟨Q2,hQ2⟩ : ∃ v,v=bs (qaj false b2.btx):=⟨_,rfl⟩
 rw[<- hQ2] at z2
 obtain⟨R2,hR2⟩ : ∃ v,v=bs (qaj false T2):=⟨_,rfl⟩
 have y2:=qcR (t:=⟨#[104,105,116]⟩) h2 n1 hR1 hQ2 hT2 hR2 (by rw[hR2,qam]; exact s2)
 rw[<- hR2]
 clear hT2 hR2 s2 hT1 hR1 s1 hQ1 q1 hQ2 q2 hsz n2 n1 n0
 refine qaa (pf:=F236) rfl rfl ?_
 simp[F236,zh,z1,z2,y1,y2,qae,qag,qcj,qah,List.range_succ,show IntKind.i64.wrap 1=1 from rfl,show IntKind.i64.wrap 2=2 from rfl,show IntKind.i64.wrap 3=3 from rfl]
theorem qn3 {f0:Bool} {b0:Ss} (h0:qdv b0) {f1:Bool} {b1:Ss} (h1:qdv b1) {f2:Bool} {b2:Ss} (h2:qdv b2) {T:List ByteArray} (hT:T=((([]++(⟨#[111,110]⟩::⟨#[97,99,116]⟩::b0.btx))++(⟨#[111,110]⟩::⟨#[116,105,99,107]⟩::b1.btx))++(⟨#[111,110]⟩::⟨#[104,105,116]⟩::b2.btx))) (hsz:(qaj false T).length<2 ^ 40):Z tS (.call 236 [.dat (.agg [.lit (.int .i64 7),.lit (.int .i64 0),.lit (.string ⟨#[]⟩),kd f0 b0.fo.len b0.fo.cells,.lit (.int .i64 7),.lit (.int .i64 0),.lit (.string ⟨#[]⟩),kd f1 b1.fo.len b1.fo.cells,.lit (.int .i64 7),.lit (.int .i64 0),.lit (.string ⟨#[]⟩),kd f2 b2.fo.len b2.fo.cells])] [])=some (.ret (.str (bs (qaj false T))) []):=by
 have zh:=qbV
 have n0 : ∀ x∈([]:List ByteArray),x.size≠0:=qdo
 obtain⟨T1,hT1⟩ : ∃ v,v=[]++(⟨#[111,110]⟩::⟨#[97,99,116]⟩::b0.btx):=⟨_,rfl⟩
 have n1 : ∀ x∈T1,x.size≠0:=by rw[hT1]; exact qbt n0 (by decide) h0
 obtain⟨T2,hT2⟩ : ∃ v,v=T1++(⟨#[111,110]⟩::⟨#[116,105,99,107]⟩::b1.btx):=⟨_,rfl⟩
 have n2 : ∀ x∈T2,x.size≠0:=by rw[hT2]; exact qbt n1 (by decide) h1
 obtain⟨T3,hT3⟩ : ∃ v,v=T2++(⟨#[111,110]⟩::⟨#[104,105,116]⟩::b2.btx):=⟨_,rfl⟩
 have n3 : ∀ x∈T3,x.size≠0:=by rw[hT3]; exact qbt n2 (by decide) h2
 have hTn:T=T3:=by rw[hT,hT3,hT2,hT1]
 rw[hTn] at hsz ⊢
 clear hT hTn
 have s3:=hsz
 have s2:(qaj false T2).length<2 ^ 40:=Nat.lt_of_le_of_lt (by
  have:=qad [] T2 (⟨#[111,110]⟩::⟨#[104,105,116]⟩::b2.btx) false
  rw[List.nil_append] at this
  rw[hT3]
  exact this) s3
 have s1:(qaj false T1).length<2 ^ 40:=Nat.lt_of_le_of_lt (by
  have:=qad [] T1 (⟨#[111,110]⟩::⟨#[116,105,99,107]⟩::b1.btx) false
  rw[List.nil_append] at this
  rw[hT2]
  exact this) s2
 have q0:(qaj false b0.btx).length<2 ^ 40:=Nat.lt_of_le_of_lt (by
  have:=qad ([]++[⟨#[111,110]⟩,⟨#[97,99,116]⟩]) b0.btx [] false
  rw[List.append_nil,List.append_assoc] at this
  rw[hT1]
  exact this) s1
 have z0:=h0.2 7 0 ⟨#[]⟩ f0 q0
 obtain⟨Q0,hQ0⟩ : ∃ v,v=bs (qaj false b0.btx):=⟨_,rfl⟩
 rw[<- hQ0] at z0
 obtain⟨R1,hR1⟩ : ∃ v,v=bs (qaj false T1):=⟨_,rfl⟩
 have y1:=qcR (t:=⟨#[97,99,116]⟩) h0 n0 (R:=⟨#[]⟩) bs_nil.symm hQ0 hT1 hR1 (by rw[hR1,qam]; exact s1)
 have q1:(qaj false b1.btx).length<2 ^ 40:=Nat.lt_of_le_of_lt (by
  have:=qad (T1++[⟨#[111,110]⟩,⟨#[116,105,99,107]⟩]) b1.btx [] false
  rw[List.append_nil,List.append_assoc] at this
  rw[hT2]
  exact this) s2
 have z1:=h1.2 7 0 ⟨#[]⟩ f1 q1
 obtain⟨Q1,hQ1⟩ : ∃ v,v=bs (qaj false b1.btx):=⟨_,rfl⟩
 rw[<- hQ1] at z1
 obtain⟨R2,hR2⟩ : ∃ v,v=bs (qaj false T2):=⟨_,rfl⟩
 have y2:=qcR (t:=⟨#[116,105,99,107]⟩) h1 n1 hR1 hQ1 hT2 hR2 (by rw[hR2,qam]; exact s2)
 have q2:(qaj false b2.btx).length<2 ^ 40:=Nat.lt_of_le_of_lt (by
  have:=qad (T2++[⟨#[111,110]⟩,⟨#[104,105,116]⟩]) b2.btx [] false
  rw[List.append_nil,List.append_assoc] at this
  rw[hT3]
  exact this) s3
 have z2:=h2.2 7 0 ⟨#[]⟩ f2 q2
 obtain⟨Q2,hQ2⟩ : ∃ v,v=bs (qaj false b2.btx):=⟨_,rfl⟩
 rw[<- hQ2] at z2
 obtain⟨R3,hR3⟩ : ∃ v,v=bs (qaj false T3):=⟨_,rfl⟩
 have y3:=qcR (t:=⟨#[104,105,116]⟩) h2 n2 hR2 hQ2 hT3 hR3 (by rw[hR3,qam]; exact s3)
 rw[<- hR3]
 clear hT3 hR3 s3 hT2 hR2 s2 hT1 hR1 s1 hQ0 q0 hQ1 q1 hQ2 q2 hsz n3 n2 n1 n0
 refine qaa (pf:=F236) rfl rfl ?_
 simp[F236,zh,z0,z1,z2,y1,y2,y3,qae,qag,qcj,qah,List.range_succ,show IntKind.i64.wrap 1=1 from rfl,show IntKind.i64.wrap 2=2 from rfl,show IntKind.i64.wrap 3=3 from rfl]
theorem qn4 {a b c:Hd} (hg : ∀ k,qmO (Hd.opts a b c k)) (hsz:(qaj false (qdg (Hd.opts a b c))).length<2 ^ 40) :
  Z tS (.call 236 [.dat (ru a.nd b.nd c.nd)] [])=some (.ret (.str (bs (qaj false (qdg (Hd.opts a b c))))) []):=by
 have hb : ∀ {s:Ss} (k:Nat),Hd.opts a b c k=some s->qdv s:=fun k h=>qkE ((hg k) _ h).1 ((qrv _).1 ((hg k) _ h).1)
 cases a<;>cases b<;>cases c
 ·exact qnW
 ·refine qn0 (hb 2 rfl) ?_ hsz
  simp only[qdg,qlF,Hd.opts,Hd.opt,qeQ,onS,qhs,qjL,Ss.btx,List.nil_append,List.append_nil,List.cons_append,List.append_assoc]
  rfl
 ·refine qnY (hb 1 rfl) ?_ hsz
  simp only[qdg,qlF,Hd.opts,Hd.opt,qeQ,onS,qhs,qjL,Ss.btx,List.nil_append,List.append_nil,List.cons_append,List.append_assoc]
  rfl
 ·refine qn2 (hb 1 rfl) (hb 2 rfl) ?_ hsz
  simp only[qdg,qlF,Hd.opts,Hd.opt,qeQ,onS,qhs,qjL,Ss.btx,List.nil_append,List.append_nil,List.cons_append,List.append_assoc]
  rfl
 ·refine qnX (hb 0 rfl) ?_ hsz
  simp only[qdg,qlF,Hd.opts,Hd.opt,qeQ,onS,qhs,qjL,Ss.btx,List.nil_append,List.append_nil,List.cons_append,List.append_assoc]
  rfl
 ·refine qn1 (hb 0 rfl) (hb 2 rfl) ?_ hsz
  simp only[qdg,qlF,Hd.opts,Hd.opt,qeQ,onS,qhs,qjL,Ss.btx,List.nil_append,List.append_nil,List.cons_append,List.append_assoc]
  rfl
 ·refine qnZ (hb 0 rfl) (hb 1 rfl) ?_ hsz
  simp only[qdg,qlF,Hd.opts,Hd.opt,qeQ,onS,qhs,qjL,Ss.btx,List.nil_append,List.append_nil,List.cons_append,List.append_assoc]
  rfl
 ·refine qn3 (hb 0 rfl) (hb 1 rfl) (hb 2 rfl) ?_ hsz
  simp only[qdg,qlF,Hd.opts,Hd.opt,qeQ,onS,qhs,qjL,Ss.btx,List.nil_append,List.append_nil,List.cons_append,List.append_assoc]
  rfl
end Go.Pm
end SSe
section STP
namespace Go.Pm.F
def tP:Nat->Option PFun
 | 228=>some F228
 | 239=>some F239
 | 240=>some F240
 | 241=>some F241
 | 242=>some F242
 | 249=>some F249
 | 250=>some F250
 | 251=>some F251
 | 252=>some F252
 | 253=>some F253
 | 254=>some F254
 | 255=>some F255
 | 256=>some F256
 | 264=>some F264
 | 265=>some F265
 | 266=>some F266
 | 267=>some F267
 | 268=>some F268
 | 269=>some F269
 | 270=>some F270
 | 271=>some F271
 | 275=>some F275
 | 276=>some F276
 | 277=>some F277
 | 278=>some F278
 | 279=>some F279
 | 280=>some F280
 | 281=>some F281
 | 284=>some F284
 | 285=>some F285
 | 286=>some F286
 | 287=>some F287
 | 289=>some F289
 | 290=>some F290
 | 292=>some F292
 | 297=>some F297
 | 303=>some F303
 | 304=>some F304
 | 307=>some F307
 | 308=>some F308
 | 309=>some F309
 | _=>none
end Go.Pm.F
end STP
section SKa
namespace Go.Pm
open F
set_option maxHeartbeats 2000000
theorem qeg (c:UInt8):Z tP (.call 264 [.dat (.lit (.int .u8 c.toNat))] [])=some (.ret (.bool (qbi c)) []):=by
 refine qaa (pf:=F264) rfl rfl ?_
 by_cases h1:(97:Int)<=c.toNat
 ·have h1':97<=c.toNat:=by omega
  by_cases h2:(c.toNat:Int)<=122
  ·have h2':c.toNat<=122:=by omega
   simp[F264,qbi,h1,h1',h2,h2']
  ·have h2' : ¬ c.toNat<=122:=by omega
   simp[F264,qbi,h1,h1',h2,h2']
 ·have h1' : ¬ 97<=c.toNat:=by omega
  simp[F264,qbi,h1,h1']
theorem qfq (c:UInt8):Z tP (.call 266 [.dat (.lit (.int .u8 c.toNat))] [])=some (.ret (.bool (qaA c)) []):=by
 refine qaa (pf:=F266) rfl rfl ?_
 by_cases h1:(48:Int)<=c.toNat
 ·have h1':48<=c.toNat:=by omega
  by_cases h2:(c.toNat:Int)<=57
  ·have h2':c.toNat<=57:=by omega
   simp[F266,qaA,h1,h1',h2,h2']
  ·have h2' : ¬ c.toNat<=57:=by omega
   simp[F266,qaA,h1,h1',h2,h2']
 ·have h1' : ¬ 48<=c.toNat:=by omega
  simp[F266,qaA,h1,h1']
theorem qmG {d:D} {l:List ByteArray} (hd:RowS d l) (hl:l.length<2 ^ 40) (x:ByteArray) : ∀ (m i:Nat),i+m=l.length ->
  (x∉l.drop i->Z tP (.loop 0 F284l0 [(0,.dat d),(1,.str x),(7,.int l.length),(8,.int i)] [])=some (.out (.exit 0) [(0,.dat d),(1,.str x),(7,.int l.length),(8,.int l.length),(9,.bool false)] [])) /\
  (x∈l.drop i -> ∃ (j:Nat),Z tP (.loop 0 F284l0 [(0,.dat d),(1,.str x),(7,.int l.length),(8,.int i)] [])=some (.out .ret [(4,.int j)] []))
 | 0,i,hi=>by
  obtain rfl:i=l.length:=by omega
  have ho:=hd.one
  have hc:=hd.cells
  refine⟨fun _=>?_,fun h=>by simp at h⟩
  rw[qae]
  simp[qag,qeB,ho,hc]
 | m+1,i,hi=>by
  have hlt:i<l.length:=by omega
  have hlt':(i:Int)<l.length:=by omega
  have ho:=hd.one
  have hcl:=hd.cells
  have ha:=hd.at_ i hlt
  have hc:=qiT l i hlt
  have w1:=qal ((i:Int)+1) (by omega)
  have hdr:l.drop i=l[i]::l.drop (i+1):=List.drop_eq_getElem_cons hlt
  obtain⟨ih1,ih2⟩:=qmG hd hl x m (i+1) (by omega)
  simp only[Int.natCast_add,Int.cast_ofNat_Int] at ih1 ih2
  rw[hdr]
  generalize l[i]=y at hc ⊢
  by_cases hx:x=y
  ·subst hx
   refine⟨fun h=>absurd (List.mem_cons_self ..) h,fun _=>⟨i,?_⟩⟩
   rw[qae]
   simp[qag,qeB,hlt',ha,hc,qbO,ho,hcl]
  ·refine⟨fun h=>?_,fun h=>?_⟩
   ·have z:=ih1 (fun h'=>h (List.mem_cons_of_mem _ h'))
    rw[qae]
    simp[qag,qeB,hlt',ha,hc,qbO,hx,w1,z,ho,hcl]
   ·rcases List.mem_cons.1 h with h | h
    ·exact absurd h hx
    ·obtain⟨j,z⟩:=ih2 h
     refine⟨j,?_⟩
     rw[qae]
     simp[qag,qeB,hlt',ha,hc,qbO,hx,w1,z,ho,hcl]
theorem qlE {d:D} {l:List ByteArray} (hd:RowS d l) (hl:l.length<2 ^ 40) (x:ByteArray):Z tP (.call 276 [.dat d,.str x] [])=some (.ret (.bool (decide (x∈l))) []):=by
 have ho:=hd.one
 have hc:=hd.cells
 have hn:=hd.len
 obtain⟨i1,i2⟩:=qmG hd hl x l.length 0 (by omega)
 simp only[Int.natCast_zero,List.drop_zero] at i1 i2
 by_cases h:x∈l
 ·obtain⟨j,z⟩:=i2 h
  have z2:Z tP (.call 284 [.dat d,.str x] [])=some (.ret (.int j) []):=by
   refine qaa (pf:=F284) rfl rfl ?_
   simp[F284,ho,hc,hn,z]
  have hj:(0:Int)<=j:=by omega
  refine qaa (pf:=F276) rfl rfl ?_
  simp[F276,ho,hc,z2,h,hj]
 ·have z:=i1 h
  have z2:Z tP (.call 284 [.dat d,.str x] [])=some (.ret (.int (-1)) []):=by
   refine qaa (pf:=F284) rfl rfl ?_
   simp[F284,ho,hc,hn,z]
  refine qaa (pf:=F276) rfl rfl ?_
  simp[F276,ho,hc,z2,h]
end Go.Pm
end SKa
section SKb
namespace Go.Pm
open F
set_option maxHeartbeats 4000000
def kwL:List (List UInt8 × Int):=[([111,110],2),([97,99,116],2),([116,105,99,107],2),([105,102],2),([101,108,115,101],2),([119,104,105,108,101],2),([101,102,102,101,99,116],2),([115,116,111,112],2),([116,114,117,101],2),([102,97,108,115,101],2),([115,101,108,102],2),([111,116,104,101,114],2),([120],3),([121],3),([118,120],3),([118,121],3),([97],3),([98],3),([104,105,116],3),([115,116,105,108,108],3)]
def kwM:List (Value × V):=kwL.map fun x=>(.string ⟨x.1.toArray⟩,.int x.2)
theorem qhB (s:ByteArray):Z tP (.call 239 [.str s] [])=some (.ret (.agg [.str s,.mp 0]) [.map kwM]):=by
 exact qnx (n:=2) (by kernel_rfl)
theorem qpE (w:ByteArray):qiu .s (.string w) kwM=some (if w∈fieldNames then some (.int 3) else if w∈wordNames then some (.int 2) else none):=by
 have key : ∀ (l:List (List UInt8 × Int)),qiu .s (.string w) (l.map fun x=>(Value.string ⟨x.1.toArray⟩,V.int x.2))=some ((l.find? fun x=>decide (bs x.1=w)).map fun x => .int x.2):=fun l=>by
  induction l with
  | nil=>rfl
  | cons x l ih=>
   simp only[List.map_cons,qiu,qdt,ih,List.find?_cons]
   by_cases h:bs x.1=w
   ·have h':(w==(⟨x.1.toArray⟩:ByteArray))=true:=by rw[beq_iff_eq]; exact h.symm
    have h2:((⟨x.1.toArray⟩:ByteArray)==w)=true:=by rw[beq_iff_eq]; exact h
    simp[h,h',h2]
   ·have h':(w==(⟨x.1.toArray⟩:ByteArray))=false:=by rw[beq_eq_false_iff_ne]; exact fun e=>h e.symm
    have h2:((⟨x.1.toArray⟩:ByteArray)==w)=false:=by rw[beq_eq_false_iff_ne]; exact h
    simp[h,h',h2]
 rw[kwM,key]
 congr 1
 by_cases h1:w∈fieldNames
 ·rw[if_pos h1]
  simp only[fieldNames,List.mem_cons,List.not_mem_nil,or_false] at h1
  rcases h1 with rfl | rfl | rfl | rfl | rfl | rfl | rfl | rfl<;>rfl
 rw[if_neg h1]
 by_cases h2:w∈wordNames
 ·rw[if_pos h2]
  have hne:w≠qjL:=fun e=>h1 (by rw[e]; decide)
  simp only[wordNames,List.mem_cons,List.not_mem_nil,or_false] at h2
  rcases h2 with rfl | rfl | rfl | h2 | rfl | rfl | rfl | rfl | rfl | rfl | rfl | rfl | rfl
  case inr.inr.inr.inl=>exact absurd h2 hne
  all_goals rfl
 rw[if_neg h2]
 have:kwL.find? (fun x=>decide (bs x.1=w))=none:=by
  rw[List.find?_eq_none]
  intro x hx
  have hall : ∀ x∈kwL,bs x.1∈fieldNames\/bs x.1∈wordNames:=by decide
  rw[decide_eq_true_eq]
  rintro rfl
  rcases hall x hx with h | h
  ·exact h1 h
  ·exact h2 h
 rw[this]
 rfl
abbrev pO (s:ByteArray) (m:Nat) (Q:V) (i a c:Int):Ob := .cells [.str s,.mp m,Q,.int i,.int a,.int c]
inductive LxS (s:ByteArray):S->Prop
 | nil (i a c:Int):LxS s [pO s 1 (.dat (.lit (.slice none 0 0))) i a c,.map kwM]
 | gr (cs:List D) (n t:Nat) (i a c:Int):LxS s [pO s 1 (.gsl cs n 5 2) i a c,.map kwM,.tip t]
theorem qbb:qgK kwM=[]:=rfl
theorem qbP (r:Nat->Nat):qo4 r kwM=kwM:=rfl
attribute [local simp] qbb qbP
theorem qhC (s:ByteArray) (hl:s.size<2 ^ 40) {σ : S} (hσ : LxS s σ) : ∀ (m i:Nat) (cm:Bool),i+m=s.size ->
  (i+qaV cm ((byl s).drop i)=s.size /\ ∃ v,Z tP (.loop σ.length F251l0 [(0,.ptr 0 0),(1,.int i),(5,.bool cm)] σ)=some (.out (.exit 0) [(0,.ptr 0 0),(1,.int s.size),(5,v),(13,.bool false)] σ)) \/
  Z tP (.loop σ.length F251l0 [(0,.ptr 0 0),(1,.int i),(5,.bool cm)] σ)=some (.out .ret [(4,.int ((i+qaV cm ((byl s).drop i):Nat)))] σ)
 | 0,i,cm,hi=>by
  obtain rfl:i=s.size:=by omega
  have hd:(byl s).drop s.size=[]:=List.drop_eq_nil_of_le (by rw[qaP]; exact Nat.le_refl _)
  refine .inl ⟨by rw[hd]; simp[qaV],.bool cm,?_⟩
  rw[qae]
  cases hσ <;> simp[qag,qc3,V.len,List.range_succ]
 | m+1,i,cm,hi=>by
  obtain⟨c,h1,h2⟩:=qlO (s:=s) (i:=i) (by omega)
  have hd:=qfQ h2
  have hlt:(i:Int)<s.size:=by omega
  have w1:=qal ((i:Int)+1) (by omega)
  have ih:=fun cm=>qhC s hl hσ m (i+1) cm (by omega)
  have fin : ∀ cm',qaV cm ((byl s).drop i)=1+qaV cm' ((byl s).drop (i+1)) ->
    Z tP (.loop σ.length F251l0 [(0,.ptr 0 0),(1,.int i),(5,.bool cm)] σ)=Z tP (.loop σ.length F251l0 [(0,.ptr 0 0),(1,.int (i+1)),(5,.bool cm')] σ) ->
    (i+qaV cm ((byl s).drop i)=s.size /\ ∃ v,Z tP (.loop σ.length F251l0 [(0,.ptr 0 0),(1,.int i),(5,.bool cm)] σ)=some (.out (.exit 0) [(0,.ptr 0 0),(1,.int s.size),(5,v),(13,.bool false)] σ)) \/
    Z tP (.loop σ.length F251l0 [(0,.ptr 0 0),(1,.int i),(5,.bool cm)] σ)=some (.out .ret [(4,.int ((i+qaV cm ((byl s).drop i):Nat)))] σ):=fun cm' e z=>by
   rw[e,z]
   have ih:=ih cm'
   rw[show i+(1+qaV cm' ((byl s).drop (i+1)))=i+1+qaV cm' ((byl s).drop (i+1)) by omega]
   simpa using ih
  by_cases h10:c.toNat=10
  ·refine fin false (by rw[hd]; simp[qaV,h10]; omega) ?_
   rw[qae]
   cases hσ <;> simp[qag,qc3,V.len,h1,hlt,h10,w1,List.range_succ]
  have h10' : ¬ (c.toNat:Int)=10:=by omega
  by_cases hc:cm=true\/c.toNat=32\/c.toNat=9
  ·refine fin cm (by rw[hd]; simp only[qaV,if_neg h10,if_pos hc]; omega) ?_
   rw[qae]
   cases cm
   ·have h9:c.toNat=32\/c.toNat=9:=by simpa using hc
    rcases h9 with h9 | h9<;>cases hσ <;> simp[qag,qc3,V.len,h1,hlt,h10',h9,w1,List.range_succ]
   ·cases hσ <;> simp[qag,qc3,V.len,h1,hlt,h10',w1,List.range_succ]
  have hc':=hc
  simp only[not_or,Bool.not_eq_true] at hc'
  obtain⟨rfl,h32,h9⟩:=hc'
  have h32' : ¬ (c.toNat:Int)=32:=by omega
  have h9' : ¬ (c.toNat:Int)=9:=by omega
  by_cases h35:c.toNat=35
  ·refine fin true (by rw[hd]; simp only[qaV,if_neg h10,if_neg hc,if_pos h35]; omega) ?_
   rw[qae]
   cases hσ <;> simp[qag,qc3,V.len,h1,hlt,h35,w1,List.range_succ]
  ·have h35' : ¬ (c.toNat:Int)=35:=by omega
   have e:qaV false ((byl s).drop i)=0:=by rw[hd]; simp only[qaV,if_neg h10,if_neg hc,if_neg h35]
   rw[e]
   refine .inr ?_
   rw[qae]
   cases hσ <;> simp[qag,qc3,V.len,h1,hlt,h10',h32',h9',h35',List.range_succ]
theorem qmj (s:ByteArray) (hl:s.size<2 ^ 40) {σ : S} (hσ : LxS s σ) {i:Nat} (hi:i<=s.size):Z tP (.call 251 [.ptr 0 0,.int i] σ)=some (.ret (.int ((i+qaV false ((byl s).drop i):Nat))) σ):=by
 rcases qhC s hl hσ (s.size-i) i false (by omega) with ⟨h,v,z⟩ | z
 ·rw[h]
  refine qaa (pf:=F251) rfl rfl ?_
  cases hσ <;> simp only[List.length_cons,List.length_nil,Nat.reduceAdd] at z<;>simp[F251,z,List.range_succ]
 ·generalize i+qaV false ((byl s).drop i)=j at z ⊢
  refine qaa (pf:=F251) rfl rfl ?_
  cases hσ <;> simp only[List.length_cons,List.length_nil,Nat.reduceAdd] at z<;>simp[F251,z,List.range_succ]
end Go.Pm
end SKb
section SKc
namespace Go.Pm
open F
set_option maxHeartbeats 4000000
attribute [local simp] qbb qbP
abbrev tk5:Ob := .cells [.int 0,.str ⟨#[]⟩,.int 0,.int 0,.int 0]
theorem qhD (s:ByteArray) (hl:s.size<2 ^ 40) {σ : S} (hσ : LxS s σ) (a:Int) : ∀ (m i:Nat),i+m=s.size ->
  Z tP (.loop σ.length F265l0 [(0,.ptr 0 0),(1,.int a),(4,.ptr σ.length 0),(5,.int i)] (σ ++ [tk5]))=some (.out (.exit 0) [(0,.ptr 0 0),(1,.int a),(4,.ptr σ.length 0),(5,.int ((i+qbo qaR ((byl s).drop i):Nat))),(34,.bool false)] (σ ++ [tk5]))
 | 0,i,hi=>by
  obtain rfl:i=s.size:=by omega
  have hd:(byl s).drop s.size=[]:=List.drop_eq_nil_of_le (by rw[qaP]; exact Nat.le_refl _)
  rw[qae,hd]
  cases hσ <;> simp[qag,qey,V.len,qbo,List.range_succ]
 | m+1,i,hi=>by
  obtain⟨c,h1,h2⟩:=qlO (s:=s) (i:=i) (by omega)
  have hd:=qfQ h2
  have hlt:(i:Int)<s.size:=by omega
  have w1:=qal ((i:Int)+1) (by omega)
  have zl:=qeg c
  have zd:=qfq c
  have ih:=qhD s hl hσ a m (i+1) (by omega)
  simp only[Int.natCast_add,Int.cast_ofNat_Int] at ih
  by_cases hc:qaR c=true
  ·have e:(i:Int)+((qbo qaR ((byl s).drop (i+1)):Int)+1)=i+1+qbo qaR ((byl s).drop (i+1)):=by omega
   rw[qae,hd]
   simp only[qaR,Bool.or_eq_true] at hc
   by_cases hcl:qbi c=true
   ·cases hσ <;> simp only[List.cons_append,List.nil_append,List.length_cons,List.length_nil,Nat.reduceAdd] at ih<;>simp[qag,qey,V.len,qbo,h1,hlt,w1,zl,zd,hcl,ih,qaR,e,List.range_succ]
   ·have hcd:qaA c=true:=by rcases hc with h | h; exact absurd h hcl; exact h
    cases hσ <;> simp only[List.cons_append,List.nil_append,List.length_cons,List.length_nil,Nat.reduceAdd] at ih<;>simp[qag,qey,V.len,qbo,h1,hlt,w1,zl,zd,hcl,hcd,ih,qaR,e,List.range_succ]
  ·simp only[qaR,Bool.or_eq_true,not_or] at hc
   rw[qae,hd]
   cases hσ <;> simp[qag,qey,V.len,qbo,h1,hlt,w1,zl,zd,hc.1,hc.2,qaR,List.range_succ]
abbrev ptD (k:Int) (t:ByteArray) (a v c:Int):V := .dat (.agg [.lit (.int .i64 k),.lit (.string t),.lit (.int .i64 a),.lit (.int .i64 v),.lit (.int .i64 c)])
def pkW (w:ByteArray):Int:=if w∈fieldNames then 3 else if w∈wordNames then 2 else if 8<w.size then 6 else 1
def pcW (w:ByteArray):Int:=if w∈fieldNames\/w∈wordNames then 0 else if 8<w.size then 2 else 0
theorem qpF (s:ByteArray) (hl:s.size<2 ^ 40) {σ : S} (hσ : LxS s σ) {i:Nat} (hi:i<=s.size):Z tP (.call 265 [.ptr 0 0,.int i] σ)=some (.ret (ptD (pkW (s.extract i (i+qbo qaR ((byl s).drop i)))) (s.extract i (i+qbo qaR ((byl s).drop i))) i 0 (pcW (s.extract i (i+qbo qaR ((byl s).drop i))))) σ):=by
 have z:=qhD s hl hσ i (s.size-i) i (by omega)
 have hr:=qdk qaR ((byl s).drop i)
 rw[List.length_drop,qaP] at hr
 generalize hq:i+qbo qaR ((byl s).drop i)=q at z ⊢
 have q1:(i:Int)<=q:=by omega
 have q2:(q:Int)<=s.size:=by omega
 have q3:(i:Int)<=s.size:=by omega
 have hk:=qpE (s.extract i q)
 have hws:(s.extract i q).size<=s.size:=by rw[ByteArray.size_extract]; omega
 obtain⟨w,hw⟩ : ∃ w,s.extract i q=w:=⟨_,rfl⟩
 rw[hw] at hk hws ⊢
 refine qaa (pf:=F265) rfl rfl ?_
 unfold pkW pcW
 by_cases h1:w∈fieldNames
 ·rw[if_pos h1] at hk
  cases hσ <;> simp only[List.cons_append,List.nil_append,List.length_cons,List.length_nil,Nat.reduceAdd] at z<;>simp[F265,z,qbD,bound,q1,q2,q3,hw,hk,h1,qly,qcX,qa8,List.range_succ]
 by_cases h2:w∈wordNames
 ·rw[if_neg h1,if_pos h2] at hk
  cases hσ <;> simp only[List.cons_append,List.nil_append,List.length_cons,List.length_nil,Nat.reduceAdd] at z<;>simp[F265,z,qbD,bound,q1,q2,q3,hw,hk,h1,h2,qly,qcX,qa8,List.range_succ]
 rw[if_neg h1,if_neg h2] at hk
 by_cases h3:8<w.size
 ·have h3':(8:Int)<w.size:=by omega
  cases hσ <;> simp only[List.cons_append,List.nil_append,List.length_cons,List.length_nil,Nat.reduceAdd] at z<;>simp[F265,z,qbD,bound,q1,q2,q3,hw,hk,h1,h2,h3,h3',V.len,qly,qcX,qa8,List.range_succ]
 ·have h3' : ¬ (8:Int)<w.size:=by omega
  cases hσ <;> simp only[List.cons_append,List.nil_append,List.length_cons,List.length_nil,Nat.reduceAdd] at z<;>simp[F265,z,qbD,bound,q1,q2,q3,hw,hk,h1,h2,h3,h3',V.len,qly,qcX,qa8,List.range_succ]
def qnF (v:Nat) (l:List UInt8):Nat:=l.foldl (fun v c=>min (10*v+(c.toNat-48)) 2147483648) v
theorem qpG (l:List UInt8) : ∀ n,qnF (min n 2147483648) l=min (l.foldl (fun v c=>10*v+(c.toNat-48)) n) 2147483648:=by
 induction l with
 | nil=>intro n; rfl
 | cons c l ih=>
  intro n
  have:=ih (10*n+(c.toNat-48))
  simp only[qnF,List.foldl_cons] at this ⊢
  rw[<- this]
  congr 1
  omega
theorem qnG (l:List UInt8):qnF 0 l=min (digV l) 2147483648:=qpG l 0
theorem qjh (s:ByteArray) (hl:s.size<2 ^ 40) {σ : S} (hσ : LxS s σ) (a:Int) : ∀ (m i v:Nat),i+m=s.size->v<=2147483648 ->
  Z tP (.loop σ.length F267l0 [(0,.ptr 0 0),(1,.int a),(4,.ptr σ.length 0),(5,.int i),(6,.int v)] (σ ++ [tk5]))=some (.out (.exit 0) [(0,.ptr 0 0),(1,.int a),(4,.ptr σ.length 0),(5,.int ((i+qbo qaA ((byl s).drop i):Nat))),(6,.int (qnF v (((byl s).drop i).take (qbo qaA ((byl s).drop i))))),(24,.bool false)] (σ ++ [tk5]))
 | 0,i,v,hi,hv=>by
  obtain rfl:i=s.size:=by omega
  have hd:(byl s).drop s.size=[]:=List.drop_eq_nil_of_le (by rw[qaP]; exact Nat.le_refl _)
  rw[qae,hd]
  cases hσ <;> simp[qag,qfG,V.len,qbo,qnF,List.range_succ]
 | m+1,i,v,hi,hv=>by
  obtain⟨c,h1,h2⟩:=qlO (s:=s) (i:=i) (by omega)
  have hd:=qfQ h2
  have hlt:(i:Int)<s.size:=by omega
  have w1:=qal ((i:Int)+1) (by omega)
  have zd:=qfq c
  by_cases hc:qaA c=true
  ·have hc2:48<=c.toNat/\c.toNat<=57:=by simpa [qaA] using hc
   have ih:=qjh s hl hσ a m (i+1) (min (10*v+(c.toNat-48)) 2147483648) (by omega) (Nat.min_le_right _ _)
   have e:(i:Int)+((qbo qaA ((byl s).drop (i+1)):Int)+1)=i+1+qbo qaA ((byl s).drop (i+1)):=by omega
   have es:qnF v (((byl s).drop i).take (qbo qaA ((byl s).drop i)))=qnF (min (10*v+(c.toNat-48)) 2147483648) (((byl s).drop (i+1)).take (qbo qaA ((byl s).drop (i+1)))):=by
    rw[hd]; simp[qbo,hc,qnF]
   rw[es]
   have er:i+qbo qaA ((byl s).drop i)=i+1+qbo qaA ((byl s).drop (i+1)):=by
    rw[hd]; simp[qbo,hc]; omega
   rw[er]
   have u0 : ∀ d:Nat,d<10->IntKind.u8.wrap (d:Int)=d:=by decide
   have u1:IntKind.u8.wrap ((c.toNat:Int)-48)=c.toNat-48:=by
    rw[show ((c.toNat:Int)-48)=((c.toNat-48:Nat):Int) by omega]; exact u0 _ (by omega)
   have u2:IntKind.i64.wrap ((c.toNat:Int)-48)=c.toNat-48:=qal _ (by omega)
   have u3:IntKind.i64.wrap (10*(v:Int))=10*v:=qal _ (by omega)
   have u4:IntKind.i64.wrap (10*(v:Int)+((c.toNat:Int)-48))=10*v+(c.toNat-48):=qal _ (by omega)
   have u5:(if 2147483648<10*(v:Int)+(c.toNat-48) then 2147483648 else 10*(v:Int)+(c.toNat-48))=((min (10*v+(c.toNat-48)) 2147483648:Nat):Int):=by split<;>omega
   generalize min (10*v+(c.toNat-48)) 2147483648=v' at ih u5 ⊢
   rw[<- ih,qae]
   cases hσ <;> simp[qag,qfG,V.len,h1,hlt,w1,zd,hc,u1,u2,u3,u4,u5,qnz,qkM,List.range_succ]
  ·have e0:qbo qaA ((byl s).drop i)=0:=by rw[hd]; simp[qbo,hc]
   rw[e0,qae]
   cases hσ <;> simp[qag,qfG,V.len,h1,hlt,zd,hc,qnF,List.range_succ]
end Go.Pm
end SKc
section SKd
namespace Go.Pm
open F
set_option maxHeartbeats 4000000
attribute [local simp] qbb qbP
theorem qrU (s:ByteArray) (hl:s.size<2 ^ 40) {σ : S} (hσ : LxS s σ) {i:Nat} (hi:i<=s.size):Z tP (.call 267 [.ptr 0 0,.int i] σ) =
  some (.ret (ptD (if 2147483647<digV (((byl s).drop i).take (qbo qaA ((byl s).drop i))) then 6 else 4) (s.extract i (i+qbo qaA ((byl s).drop i))) i (min (digV (((byl s).drop i).take (qbo qaA ((byl s).drop i)))) 2147483648:Nat) (if 2147483647<digV (((byl s).drop i).take (qbo qaA ((byl s).drop i))) then 6 else 0)) σ):=by
 have z:=qjh s hl hσ i (s.size-i) i 0 (by omega) (by omega)
 rw[qnG] at z
 have hr:=qdk qaA ((byl s).drop i)
 rw[List.length_drop,qaP] at hr
 generalize digV (((byl s).drop i).take (qbo qaA ((byl s).drop i)))=n at z ⊢
 generalize hq:i+qbo qaA ((byl s).drop i)=q at z ⊢
 have q1:(i:Int)<=q:=by omega
 have q2:(q:Int)<=s.size:=by omega
 have q3:(i:Int)<=s.size:=by omega
 obtain⟨w,hw⟩ : ∃ w,s.extract i q=w:=⟨_,rfl⟩
 rw[hw]
 refine qaa (pf:=F267) rfl rfl ?_
 by_cases hn:2147483647<n
 ·have e:min n 2147483648=2147483648:=by omega
  rw[e] at z ⊢
  rw[if_pos hn,if_pos hn]
  simp only[Int.natCast_zero,Int.cast_ofNat_Int] at z
  cases hσ <;> simp only[List.cons_append,List.nil_append,List.length_cons,List.length_nil,Nat.reduceAdd] at z<;>simp[F267,z,qbD,bound,q1,q2,q3,hw,List.range_succ]
 ·have e:min n 2147483648=n:=by omega
  have hn' : ¬ (2147483647:Int)<n:=by omega
  rw[e] at z ⊢
  rw[if_neg hn,if_neg hn]
  simp only[Int.natCast_zero] at z
  cases hσ <;> simp only[List.cons_append,List.nil_append,List.length_cons,List.length_nil,Nat.reduceAdd] at z<;>simp[F267,z,qbD,bound,q1,q2,q3,hw,hn',List.range_succ]
def qo9:ByteArray:=⟨#[123,125,91,93,40,41,61,59,44,60,62,43,45,42,47,33]⟩
theorem qpZ (c:UInt8):decide (0<=firstIdx qo9 c)=decide (c.toNat∈qkD):=by
 have h : ∀ n:_root_.Fin 256,decide (0<=firstIdx qo9 n.val.toUInt8)=decide (n.val.toUInt8.toNat∈qkD):=by decide +kernel
 have:=h ⟨c.toNat,c.toNat_lt⟩
 simpa using this
theorem qrV (c:UInt8):Z tP (.call 268 [.str qo9,.dat (.lit (.int .u8 c.toNat))] [])=some (.ret (.int (firstIdx qo9 c)) []):=by
 have z:Z tP (.call 275 [.str qo9,.dat (.lit (.int .u8 c.toNat))] [])=some (.ret (.int (firstIdx qo9 c)) []):=by
  refine qaa (pf:=F275) rfl rfl ?_
  simp[F275]
 refine qaa (pf:=F268) rfl rfl ?_
 simp[F268,z]
def kindT (t:Tk):Int:=if t.bad≠0 then 6 else if t.s=⟨#[]⟩ then 0 else if qaH qbi t.s then (if t.s∈fieldNames then 3 else if t.s∈wordNames then 2 else 1) else if qaH qaA t.s then 4 else 5
def qeL (t:Tk):ByteArray:=if t.bad=12 then ⟨#[]⟩ else t.s
def valT (t:Tk):Nat:=if qaH qaA t.s then min (digV (byl t.s)) 2147483648 else 0
abbrev ptk (t:Tk):V:=ptD (kindT t) (qeL t) t.at_ (valT t) t.bad
end Go.Pm
end SKd
section SKe
namespace Go.Pm
open F
set_option maxHeartbeats 4000000
attribute [local simp] qbb qbP
theorem qdE (p:UInt8->Bool) (c:UInt8) (r:List UInt8):qaH p (bs (c::r))=p c:=by rw[qbu,qbg]; rfl
theorem qmt {c:UInt8} (h:qbi c=true):qaA c=false:=by
 simp only[qbi,qaA,Bool.and_eq_true,decide_eq_true_eq,Bool.and_eq_false_iff,decide_eq_false_iff_not] at h ⊢
 omega
theorem qkO {p:UInt8->Bool} {c:UInt8} (r:List UInt8) (h:p c=true):(c::r).take (qbo p (c::r))=c::r.take (qbo p r):=by simp[qbo,h]
theorem qnO (s:ByteArray) {σ : S} (hσ : LxS s σ):Z tP (.call 250 [.ptr 0 0,.int s.size] σ)=some (.ret (ptD 0 ⟨#[]⟩ s.size 0 0) σ):=by
 refine qaa (pf:=F250) rfl rfl ?_
 cases hσ <;> simp[F250,V.len,List.range_succ]
theorem qnP (s:ByteArray) {σ : S} (hσ : LxS s σ) {i:Nat} (hi:i<s.size) {c:UInt8} (h1:s[i]?=some c) (hc:qbi c=true) {v:D} (ho:V.one (.dat v)=true) {k n x e:Int} {t:ByteArray} (z:Z tP (.call 265 [.ptr 0 0,.int i] σ)=some (.ret (ptD k t n x e) σ)):Z tP (.call 250 [.ptr 0 0,.int i] σ)=some (.ret (ptD k t n x e) σ):=by
 have zl:=qeg c
 have hne : ¬ (i:Int)=s.size:=by omega
 have hne' : ¬ i=s.size:=by omega
 refine qaa (pf:=F250) rfl rfl ?_
 cases hσ <;> simp[F250,V.len,h1,hne,hne',zl,hc,z,List.range_succ]
theorem qnQ (s:ByteArray) {σ : S} (hσ : LxS s σ) {i:Nat} (hi:i<s.size) {c:UInt8} (h1:s[i]?=some c) (hl:qbi c=false) (hc:qaA c=true) {k n x e:Int} {t:ByteArray} (z:Z tP (.call 267 [.ptr 0 0,.int i] σ)=some (.ret (ptD k t n x e) σ)):Z tP (.call 250 [.ptr 0 0,.int i] σ)=some (.ret (ptD k t n x e) σ):=by
 have zl:=qeg c
 have zd:=qfq c
 have hne : ¬ (i:Int)=s.size:=by omega
 have hne' : ¬ i=s.size:=by omega
 refine qaa (pf:=F250) rfl rfl ?_
 cases hσ <;> simp[F250,V.len,h1,hne,hne',zl,zd,hl,hc,z,List.range_succ]
theorem qmu (s:ByteArray) (hs:s.size<2 ^ 40) {σ : S} (hσ : LxS s σ) {i:Nat} (hi:i+2<=s.size) {c:UInt8} (h1:s[i]?=some c) (hl:qbi c=false) (hc:qaA c=false) {p:ByteArray} (hx:s.extract i (i+2)=p) (hp:p∈qds):Z tP (.call 250 [.ptr 0 0,.int i] σ)=some (.ret (ptD 5 p i 0 0) σ):=by
 have zl:=qeg c
 have zd:=qfq c
 have hne : ¬ (i:Int)=s.size:=by omega
 have hne' : ¬ i=s.size:=by omega
 have w2:=qal ((i:Int)+2) (by omega)
 have hle:(i:Int)+2<=s.size:=by omega
 have b1:(i:Int)<=s.size:=by omega
 have b2:(i:Int)<=(i:Int)+2:=by omega
 have b3:(0:Int)<=(i:Int)+2:=by omega
 have b4:((i:Int)+2).toNat=i+2:=by omega
 simp only[qds,bs,List.mem_cons,List.not_mem_nil,or_false] at hp
 refine qaa (pf:=F250) rfl rfl ?_
 rcases hp with rfl | rfl | rfl | rfl | rfl | rfl<;>cases hσ <;> simp[F250,V.len,h1,hne,hne',zl,zd,hl,hc,w2,hle,qbD,bound,b1,b2,b3,b4,hx,qbO,List.range_succ]
theorem qnR (s:ByteArray) (hs:s.size<2 ^ 40) {σ : S} (hσ : LxS s σ) {i:Nat} (hi:i<s.size) {c:UInt8} (h1:s[i]?=some c) (hl:qbi c=false) (hc:qaA c=false) (hp:i+2<=s.size->s.extract i (i+2)∉qds) {x:ByteArray} (hx:s.extract i (i+1)=x):Z tP (.call 250 [.ptr 0 0,.int i] σ)=some (.ret (if c.toNat∈qkD then ptD 5 x i 0 0 else ptD 6 ⟨#[]⟩ i 0 12) σ):=by
 have zl:=qeg c
 have zd:=qfq c
 have zx:=qrV c
 have hm:=qpZ c
 obtain⟨j,hj0⟩ : ∃ j,firstIdx qo9 c=j:=⟨_,rfl⟩
 rw[hj0] at zx hm
 simp only[qo9] at zx
 have hne : ¬ (i:Int)=s.size:=by omega
 have hne' : ¬ i=s.size:=by omega
 have w1:=qal ((i:Int)+1) (by omega)
 have w2:=qal ((i:Int)+2) (by omega)
 have a1:(i:Int)+1<=s.size:=by omega
 have a2:(i:Int)<=(i:Int)+1:=by omega
 have a3:(0:Int)<=(i:Int)+1:=by omega
 have a4:((i:Int)+1).toNat=i+1:=by omega
 have b1:(i:Int)<=s.size:=by omega
 have b2:(i:Int)<=(i:Int)+2:=by omega
 have b3:(0:Int)<=(i:Int)+2:=by omega
 have b4:((i:Int)+2).toNat=i+2:=by omega
 by_cases hle:i+2<=s.size
 ·have hle':(i:Int)+2<=s.size:=by omega
  have hp':=hp hle
  generalize hy:s.extract i (i+2)=y at hp'
  simp only[qds,bs,List.mem_cons,List.not_mem_nil,or_false,not_or] at hp'
  obtain⟨n1,n2,n3,n4,n5,n6⟩:=hp'
  refine qaa (pf:=F250) rfl rfl ?_
  by_cases hk:c.toNat∈qkD
  ·have hj:(0:Int)<=j:=by simpa [hk] using hm
   rw[if_pos hk]
   cases hσ <;> simp[F250,V.len,h1,hne,hne',zl,zd,zx,hl,hc,w1,w2,hle',qbD,bound,a1,a2,a3,a4,b1,b2,b3,b4,hx,hy,n1,n2,n3,n4,n5,n6,hj,qbO,List.range_succ]
  ·have hj : ¬ (0:Int)<=j:=by simpa [hk] using hm
   rw[if_neg hk]
   cases hσ <;> simp[F250,V.len,h1,hne,hne',zl,zd,zx,hl,hc,w1,w2,hle',qbD,bound,a1,a2,a3,a4,b1,b2,b3,b4,hx,hy,n1,n2,n3,n4,n5,n6,hj,qbO,List.range_succ]
 ·have hle' : ¬ (i:Int)+2<=s.size:=by omega
  refine qaa (pf:=F250) rfl rfl ?_
  by_cases hk:c.toNat∈qkD
  ·have hj:(0:Int)<=j:=by simpa [hk] using hm
   rw[if_pos hk]
   cases hσ <;> simp[F250,V.len,h1,hne,hne',zl,zd,zx,hl,hc,w1,w2,hle',qbD,bound,a1,a2,a3,a4,hx,hj,qbO,List.range_succ]
  ·have hj : ¬ (0:Int)<=j:=by simpa [hk] using hm
   rw[if_neg hk]
   cases hσ <;> simp[F250,V.len,h1,hne,hne',zl,zd,zx,hl,hc,w1,w2,hle',qbD,bound,hj,qbO,List.range_succ]
end Go.Pm
end SKe
section SKf
namespace Go.Pm
open F
set_option maxHeartbeats 2000000
theorem qpN {c:UInt8} {r:List UInt8}:bs (c::r)≠⟨#[]⟩:=fun h=>by
 have:=congrArg ByteArray.size h
 rw[qam,List.length_cons] at this
 exact absurd this (by show ¬ r.length+1=0; omega)
theorem qo6 (s:ByteArray) (hl:s.size<2 ^ 40) {σ : S} (hσ : LxS s σ) {i:Nat} (hi:i<=s.size):Z tP (.call 250 [.ptr 0 0,.int i] σ)=some (.ret (ptk (tokAt 12 2 6 s i)) σ):=by
 by_cases hend:i=s.size
 ·subst hend
  have hd:(byl s).drop s.size=[]:=List.drop_eq_nil_of_le (by rw[qaP]; exact Nat.le_refl _)
  have e:tokAt 12 2 6 s s.size=⟨s.size,⟨#[]⟩,0⟩:=by rw[qdq,hd]; rfl
  rw[e]
  exact qnO s hσ
 have hi':i<s.size:=by omega
 obtain⟨c,h1,h2⟩:=qlO hi'
 have hd:=qfQ h2
 rw[qdq,hd]
 by_cases hlet:qbi c=true
 ·have hw:qaR c=true:=by simp[qaR,hlet]
  have ht:=qkO ((byl s).drop (i+1)) hw
  have htok:tokL 12 2 6 (c::(byl s).drop (i+1))=(c::((byl s).drop (i+1)).take (qbo qaR ((byl s).drop (i+1))),if 8<qbo qaR (c::(byl s).drop (i+1))/\bs (c::((byl s).drop (i+1)).take (qbo qaR ((byl s).drop (i+1))))∉fieldNames/\bs (c::((byl s).drop (i+1)).take (qbo qaR ((byl s).drop (i+1))))∉wordNames then 2 else 0):=by
   simp only[tokL,hlet,if_true,ht]
  have z:=qpF s hl hσ hi
  rw[qck,hd,ht] at z
  have hsz:(bs (c::((byl s).drop (i+1)).take (qbo qaR ((byl s).drop (i+1))))).size=qbo qaR (c::(byl s).drop (i+1)):=by
   rw[qam,<- ht,List.length_take,Nat.min_eq_left (qdk _ _)]
  rw[htok]
  have s1:=qdE qbi c (((byl s).drop (i+1)).take (qbo qaR ((byl s).drop (i+1))))
  have s2:=qdE qaA c (((byl s).drop (i+1)).take (qbo qaR ((byl s).drop (i+1))))
  have hne:=qpN (c:=c) (r:=((byl s).drop (i+1)).take (qbo qaR ((byl s).drop (i+1))))
  rw[hlet] at s1
  rw[qmt hlet] at s2
  rw[<- hsz]
  generalize bs (c::((byl s).drop (i+1)).take (qbo qaR ((byl s).drop (i+1))))=w at *
  have e:ptk ⟨i,w,if 8<w.size/\w∉fieldNames/\w∉wordNames then 2 else 0⟩=ptD (pkW w) w i 0 (pcW w):=by
   have hb:((if 8<w.size/\w∉fieldNames/\w∉wordNames then 2 else 0:Nat):Int)=pcW w:=by
    unfold pcW
    by_cases a:w∈fieldNames<;>by_cases b:w∈wordNames<;>by_cases d:8<w.size<;>simp[a,b,d]
   have hk:kindT ⟨i,w,if 8<w.size/\w∉fieldNames/\w∉wordNames then 2 else 0⟩=pkW w:=by
    unfold pkW kindT
    by_cases a:w∈fieldNames<;>by_cases b:w∈wordNames<;>by_cases d:8<w.size<;>simp[a,b,d,hne,s1]
   have hx:qeL ⟨i,w,if 8<w.size/\w∉fieldNames/\w∉wordNames then 2 else 0⟩=w:=by
    unfold qeL
    by_cases a:8<w.size/\w∉fieldNames/\w∉wordNames<;>simp[a]
   unfold ptk
   rw[hk,hx,hb]
   simp[valT,s2]
  rw[e]
  exact qnP s hσ hi' h1 hlet (v := .lit (.bool true)) rfl z
 have hlet':qbi c=false:=by simpa using hlet
 by_cases hdig:qaA c=true
 ·have ht:=qkO ((byl s).drop (i+1)) hdig
  have htok:tokL 12 2 6 (c::(byl s).drop (i+1))=(c::((byl s).drop (i+1)).take (qbo qaA ((byl s).drop (i+1))),if 2147483647<digV (c::((byl s).drop (i+1)).take (qbo qaA ((byl s).drop (i+1)))) then 6 else 0):=by
   simp only[tokL,hlet',hdig,if_true,Bool.false_eq_true,if_false,ht]
  have z:=qrU s hl hσ hi
  rw[qck,hd,ht] at z
  rw[htok]
  have s1:=qdE qbi c (((byl s).drop (i+1)).take (qbo qaA ((byl s).drop (i+1))))
  have s2:=qdE qaA c (((byl s).drop (i+1)).take (qbo qaA ((byl s).drop (i+1))))
  have hne:=qpN (c:=c) (r:=((byl s).drop (i+1)).take (qbo qaA ((byl s).drop (i+1))))
  rw[hlet'] at s1
  rw[hdig] at s2
  have hbl:=qbg (c::((byl s).drop (i+1)).take (qbo qaA ((byl s).drop (i+1))))
  generalize c::((byl s).drop (i+1)).take (qbo qaA ((byl s).drop (i+1)))=l at *
  have e:ptk ⟨i,bs l,if 2147483647<digV l then 6 else 0⟩=ptD (if 2147483647<digV l then 6 else 4) (bs l) i (min (digV l) 2147483648:Nat) (if 2147483647<digV l then 6 else 0):=by
   unfold ptk kindT qeL valT
   by_cases a:2147483647<digV l<;>simp[a,hne,s1,s2,hbl]
  rw[e]
  exact qnQ s hσ hi' h1 hlet' hdig z
 have hdig':qaA c=false:=by simpa using hdig
 by_cases hp:bs ((c::(byl s).drop (i+1)).take 2)∈qds
 ·have htok:tokL 12 2 6 (c::(byl s).drop (i+1))=((c::(byl s).drop (i+1)).take 2,0):=by
   simp only[tokL,hlet',hdig',if_pos hp,Bool.false_eq_true,if_false]
  have hsz:=qfT hp
  rw[qam,List.length_take,List.length_cons,List.length_drop,qaP] at hsz
  have z:=qmu s hl hσ (i:=i) (by omega) h1 hlet' hdig' (p:=bs ((c::(byl s).drop (i+1)).take 2)) (by rw[qck,hd]) hp
  rw[htok,z]
  have e:ptk ⟨i,bs ((c::(byl s).drop (i+1)).take 2),0⟩=ptD 5 (bs ((c::(byl s).drop (i+1)).take 2)) i 0 0:=by
   generalize bs ((c::(byl s).drop (i+1)).take 2)=w at hp
   simp only[qds,List.mem_cons,List.not_mem_nil,or_false] at hp
   rcases hp with rfl | rfl | rfl | rfl | rfl | rfl<;>rfl
  rw[e]
 ·have z:=qnR s hl hσ hi' h1 hlet' hdig' (fun h=>by rw[qck,hd]; exact hp) (x:=bs [c]) (by rw[qck,hd]; rfl)
  rw[z]
  have s1:=qdE qbi c []
  have s2:=qdE qaA c []
  by_cases hs:c.toNat∈qkD
  ·have htok:tokL 12 2 6 (c::(byl s).drop (i+1))=([c],0):=by simp only[tokL,hlet',hdig',if_neg hp,if_pos hs,Bool.false_eq_true,if_false]
   rw[htok,if_pos hs]
   have e:ptk ⟨i,bs [c],0⟩=ptD 5 (bs [c]) i 0 0:=by
    unfold ptk kindT qeL valT
    simp[s1,s2,hlet',hdig',qpN]
   rw[e]
  ·have htok:tokL 12 2 6 (c::(byl s).drop (i+1))=([c],12):=by simp only[tokL,hlet',hdig',if_neg hp,if_neg hs,Bool.false_eq_true,if_false]
   rw[htok,if_neg hs]
   have e:ptk ⟨i,bs [c],12⟩=ptD 6 ⟨#[]⟩ i 0 12:=by
    unfold ptk kindT qeL valT
    simp[s2,hdig']
   rw[e]
end Go.Pm
end SKf
