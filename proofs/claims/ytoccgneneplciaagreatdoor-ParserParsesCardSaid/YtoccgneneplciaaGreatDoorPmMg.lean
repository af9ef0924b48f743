/- Chapter 13's parser: Parse behind an error. -/
import Derived.Test.YtoccgneneplciaaGreatDoorPmAL
import Derived.Test.YtoccgneneplciaaGreatDoorPmKl
import Derived.Test.YtoccgneneplciaaGreatDoorPmG5
import Derived.Test.YtoccgneneplciaaGreatDoorPmOj
import Derived.Test.YtoccgneneplciaaGreatDoorPmUc
import Derived.Test.YtoccgneneplciaaGreatDoorPmF3
import Derived.Test.YtoccgneneplciaaGreatDoorPmEt
set_option linter.unusedSimpArgs false
set_option linter.unusedVariables false
set_option maxHeartbeats 4000000
namespace Go.Pm
section
open F
attribute [local simp] qbm qca dkey
section
variable{s:ByteArray}{T:List Tk}{i':Nat}{a c:Int}
abbrev q0:Nat->N4:=fun _=>qcR none
theorem qp1{i a c:Int}:Z tP (.dcall 240 [.iface 1 (.int c),.ptr 0 0,.ptr 1 0,.ptr 2 0,.ptr 3 0] (dS s T q0 0 0 i a c))=some (.ret (.dat (.lit undef)) (dS s T q0 a c i a c)):=by
 refine qmU (pf:=F240) rfl ?_
 have hfl:F240.body.flat=true:=rfl
 simp only[qa7]
 rw[if_pos ⟨rfl,rfl,rfl,hfl,.inl rfl⟩]
 simp[F240,qjZ,qcR,qbX,qaO,Wa]
theorem qp2 (h : ¬ (2000:Int)<s.size) (zt:Z tP (.call 249 [.yld 0,.ptr 1 0] (TT0 s))=some (.ret (.tup []) (TT1 s (ptC T) T.length)))
  (z:Z tP (.call 242 [.ptr 0 0] (PS s T 0 0 12))=some (.ret (qbt c) (PS s T i' a c))):Z tP (.call 228 [.str s] [])=some (.ret (.tup [qq9 fun _=>qcR none,.int a,.int c]) []):=by
 have z1:=qjP s
 have z2:=qmi s
 simp only[pO] at z2
 simp only[TT0,TT1,pO] at zt
 simp only[PS,pO] at z
 have zd:=qp1 (s:=s) (T:=T) (i:=i') (a:=a) (c:=c)
 simp only[dS,pO,rob,q0,qcR] at zd
 refine Z_call (pf:=F228) rfl rfl ?_
 simp[F228,z1,z2,zt,z,zd,h,V.len,qcR,qaf,V.isNilIf,Wa]
end
end
section
open F
theorem qml(s:ByteArray) : ∀ n i,(qbY 12 2 6 s n i).length<=n+1
 |0,i=>by simp[qbY]
 |n+1,i=>by
  rw[qbY]
  have:=qml s n
  split
  ·simp
  ·simp only[Wj]; have:=this ((tokAt 12 2 6 s (qh1 s (s.size-i) false i)).at_+(tokAt 12 2 6 s (qh1 s (s.size-i) false i)).s.size); omega
theorem qsx(s:ByteArray) : ∀ n i,qbY 12 2 6 s n i≠[]
 |0,i=>by simp[qbY]
 |n+1,i=>by rw[qbY]; split<;>simp
theorem qqo(s:ByteArray)(hP : ∀ t∈qh7 s,TokP t):Z tP (.call 228 [.str s] [])=some (.ret (qev true true false s) []):=by
 unfold qev
 by_cases hbig:2000<s.size
 ·have:qbK true true false s = .er 2000 2:=by rw[qbK,if_pos hbig]
  rw[this]
  exact qrb (by omega)
 ·have hlen:=qml s (s.size+1) 0
  have hT:(qh7 s).length<2 ^ 30:=by show (qbY 12 2 6 s (s.size+1) 0).length<_; omega
  have hw:WfQ (qh7 s):=qrf s _ 0
  have zt:=qrg s (by omega)
  obtain⟨t,r,htr⟩:=qbb (show qh7 s≠[] from qsx s _ 0)
  have hv:=qcD (f:=true) (fi:=true) (fb:=false) hbig
  have hp:=hv
  rw[htr] at hp
  have:=qmm (s:=s) hw hT hP _ (fun _=>none) 0 t r _ (by rw[WJ]; exact htr) hp
  cases hx:qbK true true false s with
  |ok h' ts=>
   rw[hx] at this
   obtain⟨i',z⟩:=this
   exact qtd (by omega) zt (qo7 z)
  |er a c=>
   rw[hx] at this
   obtain⟨i',fr,q',f1,z⟩:=this
   exact qp2 (by omega) zt (qnf f1 z)
theorem qqp(s:ByteArray)(hl:s.size<2 ^ 30) : ∀ n i,∀ t∈qbY 12 2 6 s n i,TokP t
 |0,i,t,h=>by
  simp only[qbY,Wk] at h
  rw[h]
  exact⟨fun _=>show (⟨#[]⟩:ByteArray)≠qS by decide,fun _ h=>(by cases h)⟩
 |n+1,i,t,h=>by
  have one : ∀ j,TokP (tokAt 12 2 6 s j):=fun j=>by
   by_cases hj:j<s.size
   ·exact qq8 hl hj
   ·have hd:(byl s).drop j=[]:=WN (by rw[qat]; omega)
    rw[qcB,hd]
    exact⟨fun _=>show (⟨#[]⟩:ByteArray)≠qS by decide,fun _ h=>(by cases h)⟩
  rw[qbY] at h
  split at h
  ·rw[Wk.1 h]; exact one _
  ·rcases Ws.1 h with h|h
   ·rw[h]; exact one _
   ·exact qqp s hl n _ t h
theorem qsy(s:ByteArray)(hl:s.size<2 ^ 30):Z tP (.call 228 [.str s] [])=some (.ret (qev true true false s) []):=qqo s (qqp s hl _ 0)
end
section
open F
abbrev Sub(p q:Nat->Option PFun):Prop := ∀ f pf,p f=some pf->q f=some pf
structure Has(prog:Nat->Option PFun):Prop where
 b:Sub qby prog
 r:Sub tR prog
 s:Sub tS prog
 p:Sub tP prog
 q:Sub tQ prog
 e:Sub tE prog
 k:Sub tK prog
section
variable{prog:Nat->Option PFun}(H:Has prog)
include H
theorem qum(s:ByteArray){m:Nat}(hm:m<=1000) : ∃ t:ByteArray,t.size<=m/\Z prog (.call 225 [.str s,.int m] [])=some (.ret (.str t) []):=by
 by_cases h:m<s.size
 ·refine⟨s.extract 0 m,by rw[Yk]; omega,?_⟩
  have h1:(m:Int)<s.size:=by omega
  have h2:(m:Int)<=s.size:=by omega
  refine Z_call (H.k 225 F225 rfl) rfl ?_
  simp[F225,V.len,h,h1,h2,qa1,bound]
 ·refine⟨s,by omega,?_⟩
  have h1 : ¬ (m:Int)<s.size:=by omega
  refine Z_call (H.k 225 F225 rfl) rfl ?_
  simp[F225,V.len,h,h1]
theorem qnW {s:ByteArray} (hs:s.size<2 ^ 30) {at_ how:Int} {c:Nat} (ha:I64 at_) (hh:I64 how) (hc:c<256) :
  ∃ t:ByteArray,t.size<=s.size+1/\Z prog (.call 226 [.str s,.int at_,.int how,.dat (.lit (.int .u8 c))] [])=some (.ret (.str t) []):=by
 have z1:=qgq H.b (qly ha (m:=(s.size:Int)+1) (by omega))
 have z2:=qgq H.b (qly hh (m:=4) (by omega))
 have r1:=qi8 ha (m:=(s.size:Int)+1) (by omega)
 have r2:=qi8 hh (m:=4) (by omega)
 obtain⟨k,hk⟩ : ∃ k:Nat,qf1 at_ ((s.size:Int)+1)=k:=⟨(qf1 at_ ((s.size:Int)+1)).toNat,by omega⟩
 rw[hk] at z1 r1
 have w1:=qae ((s.size:Int)+1) (by omega)
 have c0:(0:Int)<=c:=by omega
 have c1:(c:Int)<256:=by omega
 obtain⟨C,hC⟩ : ∃ v:ByteArray,v=⟨#[UInt8.ofNat c]⟩:=⟨_,rfl⟩
 have hCs:C.size=1:=by rw[hC]; rfl
 have hb : ∀ (bs:List UInt8),bs=[UInt8.ofNat c]->(⟨bs.toArray⟩:ByteArray)=C:=fun bs h=>by rw[h,hC]
 have hb1:=hb _ rfl
 by_cases hlen:k=s.size
 ·subst hlen
  refine⟨s++C,by rw[WZ]; omega,?_⟩
  have n1 : ¬ (9223372036854775807:Int)<(s.size:Int)+C.size:=by omega
  refine Z_call (H.k 226 F226 rfl) rfl ?_
  simp -implicitDefEqProofs [F226,V.len,w1,z1,c0,c1,hCs,qch,hb1,show ¬ (9223372036854775807:Int)<(s.size:Int)+1 by omega]
 ·have hlt:k<s.size:=by omega
  have w2:IntKind.i64.wrap ((k:Int)+1)=((k+1:Nat):Int):=by rw[qae _ (by omega)]; omega
  obtain⟨k1,hk1⟩ : ∃ v:Nat,v=k+1:=⟨_,rfl⟩
  rw[<- hk1] at w2
  have b1:(k:Int)<=s.size:=by omega
  have b2:(k1:Int)<=s.size:=by omega
  have hne : ¬ (k:Int)=s.size:=by omega
  obtain⟨A,hA⟩ : ∃ v,v=s.extract 0 k:=⟨_,rfl⟩
  obtain⟨B,hB⟩ : ∃ v,v=s.extract k1 s.size:=⟨_,rfl⟩
  obtain⟨B',hB'⟩ : ∃ v,v=s.extract k s.size:=⟨_,rfl⟩
  have sA:A.size=k:=by rw[hA,Yk]; omega
  have sB:B.size=s.size-k1:=by rw[hB,Yk]; omega
  have sB':B'.size=s.size-k:=by rw[hB',Yk]; omega
  have sAC:(A++C).size=A.size+1:=by rw[WZ,hCs]
  have q1 : ¬ (9223372036854775807:Int)<(k:Int)+1:=by omega
  have q2 : ∀ n:Nat,n<=s.size -> ¬ (9223372036854775807:Int)<(k:Int)+1+(n:Int):=fun n hn=>by omega
  have q3:=q2 (s.size-k1) (by omega)
  have q4:=q2 (s.size-k) (by omega)
  have q5 : ¬ (9223372036854775807:Int)<(k:Int)+((s.size-k1:Nat):Int):=by omega
  obtain⟨g,hg⟩ : ∃ v,v=qf1 how 4:=⟨_,rfl⟩
  rw[<- hg] at z2 r2
  obtain h0|h0|h0|h0:g=0\/g=1\/g=2\/g=3:=by omega
  ·refine⟨A++C++B,by rw[WZ,sAC]; omega,?_⟩
   rw[h0] at z2
   refine Z_call (H.k 226 F226 rfl) rfl ?_
   simp -implicitDefEqProofs [F226,V.len,w1,w2,z1,z2,c0,c1,hne,hlen,qa1,bound,b1,b2,<- hA,<- hB,sA,sB,hCs,sAC,qch,hb1,q1,q3]
  ·refine⟨A++B,by rw[WZ]; omega,?_⟩
   rw[h0] at z2
   refine Z_call (H.k 226 F226 rfl) rfl ?_
   simp -implicitDefEqProofs [F226,V.len,w1,w2,z1,z2,c0,c1,hne,hlen,qa1,bound,b1,b2,<- hA,<- hB,sA,sB,hCs,sAC,qch,hb1,q5]
  ·refine⟨A,by omega,?_⟩
   rw[h0] at z2
   refine Z_call (H.k 226 F226 rfl) rfl ?_
   simp -implicitDefEqProofs [F226,V.len,w1,w2,z1,z2,c0,c1,hne,hlen,qa1,bound,b1,b2,<- hA,<- hB,sA,sB,hCs,sAC,qch,hb1]
  ·refine⟨A++C++B',by rw[WZ,sAC]; omega,?_⟩
   rw[h0] at z2
   refine Z_call (H.k 226 F226 rfl) rfl ?_
   simp -implicitDefEqProofs [F226,V.len,w1,w2,z1,z2,c0,c1,hne,hlen,qa1,bound,b1,b2,<- hA,<- hB',sA,sB',hCs,sAC,qch,hb1,q1,q4]
theorem qp4{v:D}{xs:List Int}(h:RowV v xs)(hx : ∀ x∈xs,I64 x) : ∃ a b c:Hd,a.gen/\b.gen/\c.gen/\a.cost+(b.cost+c.cost)<=1440/\Z prog (.call 227 [.dat v] [])=some (.ret (.str (bs (qao false (qa0 (Hd.opts a b c))))) []):=by
 obtain⟨a,b,c,ha,hb,⟨hc,hco⟩,zp⟩:=qpm h hx
 refine⟨a,b,c,ha,hb,hc,hco,?_⟩
 have hl:=qoz a b c
 have zs:=qgq H.s (qn6 (qq2 ha hb hc) (by omega))
 have zp':=qgq H.b zp
 have k0:=h.one
 have k1:=h.cells
 refine Z_call (H.k 227 F227 rfl) rfl ?_
 generalize bs (qao false (qa0 (Hd.opts a b c)))=R at *
 generalize ru a.nd b.nd c.nd=r at *
 simp -implicitDefEqProofs [F227,zp',zs]
theorem qr4{v:D}{xs:List Int}(h:RowV v xs)(hx : ∀ x∈xs,I64 x) : ∃ a b c:Hd,a.gen/\b.gen/\c.gen/\Z prog (.call 227 [.dat v] [])=some (.ret (.str (bs (qao false (qa0 (Hd.opts a b c))))) []):=by
 obtain⟨a,b,c,ha,hb,hc,_,z⟩:=qp4 H h hx
 exact⟨a,b,c,ha,hb,hc,z⟩
theorem qic(s:ByteArray)(hl:s.size<2 ^ 30):Z prog (.call 228 [.str s] [])=some (.ret (qev true true false s) []):=qgq H.p (qsy s hl)
theorem qnX(s:ByteArray)(hl:s.size<2 ^ 30):Z prog (.call 132 [.str s] [])=some (.ret (qev true false false s) []):=qgq H.r (qvI s hl)
end
def hdO:Option Ss->Hd
 |none => .none
 |some b => .some false b
theorem qkR(o:Option Ss):(hdO o).opt=o:=by cases o<;>rfl
theorem qun(o:Option Ss):(qcR o).k=(hdO o).nd.k/\(qcR o).n=(hdO o).nd.n/\(qcR o).s=(hdO o).nd.s/\(qcR o).d=(hdO o).nd.d:=by cases o<;>exact⟨rfl,rfl,rfl,rfl⟩
theorem qm5(h:Nat->Option Ss):qq9 (fun k=>qcR (h k)) = .dat (ru (hdO (h 0)).nd (hdO (h 1)).nd (hdO (h 2)).nd):=by
 obtain⟨a1,a2,a3,a4⟩:=qun (h 0)
 obtain⟨b1,b2,b3,b4⟩:=qun (h 1)
 obtain⟨c1,c2,c3,c4⟩:=qun (h 2)
 simp only[qq9,ru,a1,a2,a3,a4,b1,b2,b3,b4,c1,c2,c3,c4]
theorem qgx(h:Nat->Option Ss):qa0 (Hd.opts (hdO (h 0)) (hdO (h 1)) (hdO (h 2)))=qa0 h:=by
 unfold qa0
 simp only[Hd.opts,qkR]
theorem qnY{h:Nat->Option Ss}(hg : ∀ k,qcI (h k)) : ∀ k,qcI (Hd.opts (hdO (h 0)) (hdO (h 1)) (hdO (h 2)) k)
 |0=>by rw[Hd.opts,qkR]; exact hg 0
 |1=>by rw[Hd.opts,qkR]; exact hg 1
 |_+2=>by show qcI (hdO (h 2)).opt; rw[qkR]; exact hg 2
theorem qda(full:Bool) : ∀ (e:E) p,e.size<=(e.tx full p).length
 |.int n,p | .bool n,p | .var s,p | .name s,p=>by simp[E.tx]
 |.field _ s e,p=>by have:=qda full e 1; simp[E.tx]; omega
 |.un _ neg e,p=>by
  have:=qda full e (qdc neg)
  have h : ∀ b l,l.length<=(qbB b l).length:=fun b l=>by cases b<;>simp[qbB]; omega
  have h2:=h (full||decide (qdc neg<p)) (ustr neg::e.tx full (qdc neg))
  simp only[E.tx,qlu]
  simp only[Wj] at h2
  omega
 |.bin _ o a b,p=>by
  have h1:=qda full a o.left
  have h3:=qda full b (o.prec+1)
  have h : ∀ b l,l.length<=(qbB b l).length:=fun b l=>by cases b<;>simp[qbB]; omega
  have h2:=h (full||decide (o.prec<p)) (a.tx full o.left++o.str::b.tx full (o.prec+1))
  simp only[E.tx,qgX]
  simp only[Wr,Wj] at h2
  omega
theorem qdy : ∀ s:Ss,(s.good none\/s.good (some 1)\/s.good (some 2))->s.fo.size<=s.tx.length
 |.nil,_=>by simp[Ss.fo]
 |.assign _ s e r,h=>by
  have hr:r.good none:=by rcases h with h|h|h<;>simp[Ss.good] at h<;>exact h.2.2
  have h1:=qdy r (.inl hr); have h2:=qda false e 1
  simp[Ss.fo,Ss.tx,qct]; omega
 |.store _ s a b r,h=>by
  have hr:r.good none:=by rcases h with h|h|h<;>simp[Ss.good] at h<;>exact h.2.2.2
  have h1:=qdy r (.inl hr); have h2:=qda false a 1; have h3:=qda false b 1
  simp[Ss.fo,Ss.tx,qct]; omega
 |.effect _ a b r,h=>by
  have hr:r.good none:=by rcases h with h|h|h<;>simp[Ss.good] at h<;>exact h.2.2
  have h1:=qdy r (.inl hr); have h2:=qda false a 1; have h3:=qda false b 1
  simp[Ss.fo,Ss.tx,qct]; omega
 |.stop r,h=>by
  have hr:r.good none:=by rcases h with h|h|h<;>simp[Ss.good] at h<;>exact h
  have h1:=qdy r (.inl hr)
  simp[Ss.fo,Ss.tx]; omega
 |.cond w _ c b r,h=>by
  have hr:b.good (some (if w then 1 else 2))/\r.good none:=by rcases h with h|h|h<;>simp[Ss.good] at h<;>exact h.2
  have h1:=qdy r (.inl hr.2); have h2:=qda false c 1
  have h3:=qdy b (by cases w; exact .inr (.inr hr.1); exact .inr (.inl hr.1))
  simp[Ss.fo,Ss.tx,qct]; omega
 |.block _ b r,h=>by
  have key:b.good none/\(r.good (some 0)\/r.good (some 1)):=by
   rcases h with h|h|h
   ·obtain⟨n,hn,_⟩:=h; cases hn
   ·obtain⟨n,hn,h1,h2⟩:=h; simp at hn; subst hn; exact⟨h1,.inl h2⟩
   ·obtain⟨n,hn,h1,h2⟩:=h; simp at hn; subst hn; exact⟨h1,.inr h2⟩
  obtain⟨hb,hr⟩:=key
  have h1:=qdy b (.inl hb)
  have hr0:qcx r=false->r.fo.size<=1:=fun he=>by
   rcases hr with hr|hr
   ·cases r with
    |nil=>simp[Ss.fo]
    |block _ _ _=>obtain⟨n,hn,_⟩:=hr; simp at hn
    |_=>simp[Ss.good] at hr
   ·obtain⟨fb,b1,rfl,_⟩:=qlr hr
    cases b1<;>simp[qcx] at he
    simp[Ss.fo]
  have hr1:qcx r=true->r.fo.size<=r.tx.length:=fun he=>by
   rcases hr with hr|hr
   ·cases r with
    |nil=>simp[qcx] at he
    |block _ _ _=>obtain⟨n,hn,_⟩:=hr; simp at hn
    |_=>simp[Ss.good] at hr
   ·exact qdy r (.inr (.inl hr))
  cases he:qcx r with
  |true=>
   have:=hr1 he
   simp[Ss.fo,Ss.tx,he]; omega
  |false=>
   have:=hr0 he
   simp[Ss.fo,Ss.tx,he]; omega
theorem qup{h:Nat->Option Ss}(hg : ∀ k,qcI (h k))(hl:(qao false (qa0 h)).length<=2000) : ∀ k,k<3->(hdO (h k)).nd.ks.size<=2000:=by
 intro k hk
 cases hb:h k with
 |none=>simp[hdO,Hd.ks]
 |some b=>
  have hgood:=(hg k b hb).1
  have h1:=qdy b (.inl hgood)
  have h2:=qfL (qdV k (some b)) false (fun t ht=>by
   have hcl:=(qsD (k:=k) (h:=some b) (fun x hx=>by cases hx; exact hg k b hb)).ok
   exact qeN (qkl hcl t ht))
  have h3:=qlA h
  have h4:(qao false (qdV k (some b))).length<=(qao false (qa0 h)).length:=by
   rw[h3]
   obtain rfl|rfl|rfl:k=0\/k=1\/k=2:=by omega
   all_goals rw[hb]; omega
  have h5:b.tx.length<=(qdV k (some b)).length:=by simp[qdV]; omega
  show b.fo.size<=2000
  omega
end
section
open F
def qnt:ByteArray:=⟨#[111,110,32,116,105,99,107,123,120,91,48,93,61,49,43,50,42,118,59,125]⟩
def qrd:ByteArray:=⟨#[111,110,32,97,99,116,32,123,32,115,116,111,112,32,125]⟩
def liveB:Ss := .store true (bs [120]) (.int 0) (.bin true .add (.int 1) (.bin true .mul (.int 2) (.var (bs [118])))) .nil
def liveH:Nat->Option Ss:=fun k=>if k=1 then some liveB else none
theorem qjh : ∀ k,qcI (liveH k):=by
 intro k b hb
 unfold liveH at hb
 split at hb
 ·cases hb
  refine⟨⟨rfl,by decide,⟨by decide,by decide⟩,⟨⟨by decide,by decide⟩,⟨⟨by decide,by decide⟩,?_,by decide,by decide,by decide⟩⟩,.inl rfl⟩,by decide⟩
  exact qqz (by decide) (by decide) (by decide)
 ·cases hb
theorem qmD:bs (qao false (qa0 liveH))=qnt:=by decide +kernel
theorem qvO:(fun k=>if k<3 then (liveH k).map (·.fl true true false) else none)=liveH:=by
 funext k
 unfold liveH
 by_cases h:k=1
 ·subst h; rfl
 ·simp[h]
theorem qpn : ∃ r,qbK true true false qnt = .ok liveH r:=by
 obtain⟨r,h⟩:=qnz (f:=true) (fi:=true) (fb:=false) qjh (by
  have:=congrArg ByteArray.size qmD
  rw[qav] at this
  rw[this]
  decide)
 rw[qmD,qvO] at h
 exact⟨r,h⟩
theorem qte:qbK true true false qrd = .er 14 12:=by
 have h:(match qbK true true false qrd with
  |.er a c=>decide (a=14)&&decide (c=12)
  |.ok _ _=>false)=true:=by decide +kernel
 cases hv:qbK true true false qrd with
 |ok x r=>rw[hv] at h; cases h
 |er a c=>
  rw[hv] at h
  simp only[Wt,decide_eq_true_eq] at h
  rw[h.1,h.2]
theorem qre{prog:Nat->Option PFun}(H:Has prog):Z prog (.call 229 [] [])=some (.ret (.bool true) []):=by
 obtain⟨r,hp⟩:=qpn
 have z1:=qic H qnt (by decide)
 have z2:=qic H qrd (by decide)
 have hgood:=qjh
 have z3:=qgq H.q (qq0 (a := .none) (b := .some false liveB) (c := .none) (fun k=>by
  have:Hd.opts .none (.some false liveB) .none k=liveH k:=by
   match k with
   |0=>rfl
   |1=>rfl
   |k+2=>unfold liveH; rw[if_neg (by omega)]; rfl
  rw[this]
  exact qjh k) (by decide +kernel))
 have e:bs (qao false (qa0 (Hd.opts .none (.some false liveB) .none)))=qnt:=by decide +kernel
 rw[e] at z3
 rw[qev,hp] at z1
 rw[qev,qte] at z2
 have e1:(qq9 fun k=>qcR (liveH k)) = .dat (ru Hd.none.nd (Hd.some false liveB).nd Hd.none.nd):=qm5 liveH
 simp only[e1] at z1
 have c:liveB.fo = .cons 2 0 (bs [120]) true (E.fo (.int 0) (E.fo (.bin true .add (.int 1) (.bin true .mul (.int 2) (.var (bs [118])))) .nil)) .nil:=rfl
 generalize E.fo (.int 0) (E.fo (.bin true .add (.int 1) (.bin true .mul (.int 2) (.var (bs [118])))) .nil)=ks at c
 have hk:=qko true ks.len ks.cells
 have hk2:=qtl true ks.len ks.cells
 have n1:(Hd.some false liveB).nd=⟨7,0,⟨#[]⟩,false,liveB.fo⟩:=rfl
 have n0:Hd.none.nd=⟨0,0,⟨#[]⟩,false,.nil⟩:=rfl
 simp only[n1,n0,c,ru,Nd.d,qaV,qaZ,qaB,qaF,qoF,qvR] at z1 z3
 have m4:qcR none=⟨0,0,⟨#[]⟩,.lit (.slice none 0 0),rfl,rfl⟩:=rfl
 simp only[qq9,m4] at z2
 generalize kd true ks.len ks.cells=kk at *
 have es:eqS qnt qnt=true:=by rw[qah]; simp
 refine Z_call (H.k 229 F229 rfl) rfl ?_
 simp only[qnt] at z1 z3 es
 simp only[qrd] at z2
 simp -implicitDefEqProofs [F229,z1,z2,z3,es,hk,hk2,qja,qag,Wa]
end
section
open F
theorem qhG{f fi fb:Bool}{s:ByteArray}{h:Nat->Option Ss}{r:List Tk}(hp:qbK f fi fb s = .ok h r)(k:Nat):(h k).map (·.fl f fi fb)=h k:=by
 have e:=qjd f fi fb f fi fb s
 rw[hp] at e
 simp only[Rz.map,Rz.ok.injEq,and_true] at e
 exact (congrFun e k).symm
theorem qrN(A:Nd):ndEq A.k A.n A.s A.ks A.k A.n A.s A.ks=true:=by simp[ndEq,qlD]
structure HasD(prog:Nat->Option PFun):Prop extends Has prog where
 kd:Sub tKd prog
section
variable{prog:Nat->Option PFun}(H:Has prog)
include H
theorem qAN{s:ByteArray}(hs:s.size<2 ^ 30){a c:Nat}(hp:qbK true true false s = .er a c):c≠0/\Z prog (.call 228 [.str s] [])=some (.ret (.tup [.dat (ru Hd.none.nd Hd.none.nd Hd.none.nd),.int a,.int c]) []):=by
 refine⟨qmz hp,?_⟩
 have z:=qic H s hs
 rw[qev,hp] at z
 exact z
end
end
section
open F
structure HasZ(prog:Nat->Option PFun):Prop extends Has prog where
 ez:Sub tEz prog
 kz:Sub tKz prog
theorem qnr {h:Nat->Option Ss} {f fi fb g gi gb:Bool} {k:Nat} (hself:(h k).map (·.fl f fi fb)=h k) :
  ndEq (hdO (h k)).nd.k (hdO (h k)).nd.n (hdO (h k)).nd.s (hdO (h k)).nd.ks (hdO (qis g gi gb h k)).nd.k (hdO (qis g gi gb h k)).nd.n (hdO (qis g gi gb h k)).nd.s (hdO (qis g gi gb h k)).nd.ks=true:=by
 unfold qis
 cases hb:h k with
 |none=>simp[hdO,ndEq,Hd.ks,Hd.k,Fo.eqv]
 |some b=>
  rw[hb] at hself
  have hb2:b.fl f fi fb=b:=WC hself
  have:=qeQ f fi fb g gi gb b
  rw[hb2] at this
  simp[hdO,ndEq,Hd.ks,Hd.k,this]
theorem qke(f fi fb:Bool)(h:Nat->Option Ss):qa0 (qis f fi fb h)=qa0 h:=by
 have e : ∀ k,qdV k (qis f fi fb h k)=qdV k (h k):=fun k=>by
  unfold qis
  cases h k with
  |none=>rfl
  |some b=>simp[qdV,qh0]
 simp only[qa0,e]
theorem qs4{f fi fb:Bool}{h:Nat->Option Ss}(hg : ∀ k,qcI (h k)) : ∀ k,qcI (qis f fi fb h k):=fun k b hb=>by
 unfold qis at hb
 cases hk:h k with
 |none=>rw[hk] at hb; cases hb
 |some x=>
  rw[hk] at hb
  cases hb
  have:=hg k x hk
  exact⟨(qdD f fi fb x none).2 this.1,by rw[qd0]; exact this.2⟩
theorem qzF {prog:Nat->Option PFun} (H:Has prog) {s:ByteArray} (hs:s.size<2 ^ 30) {h:Nat->Option Ss} {r:List Tk} (hp:qbK true true false s = .ok h r) : ∃ (A B C:Nd) (S:ByteArray),S=bs (qao false (qa0 h))/\S.size<=s.size/\S.size<=2000/\A=(hdO (h 0)).nd/\B=(hdO (h 1)).nd/\C=(hdO (h 2)).nd /\
  Z prog (.call 228 [.str s] [])=some (.ret (.tup [.dat (ru A B C),.int 0,.int 0]) [])/\Z prog (.call 231 [.dat (ru A B C)] [])=some (.ret (.str S) []):=by
 obtain⟨hg,h3,hl,hb⟩:=qkw hp
 refine⟨_,_,_,_,rfl,by rw[qav]; exact hl,by rw[qav]; omega,rfl,rfl,rfl,?_,?_⟩
 ·have z:=qic H s hs
  rw[qev,hp] at z
  simp only[qm5] at z
  exact z
 ·have z:=qgq H.q (qq0 (qnY hg) (by rw[qgx]; omega))
  rw[qgx] at z
  exact z
section
variable{prog:Nat->Option PFun}(H:HasZ prog)
include H
theorem qim{s:ByteArray}(hs:s.size<2 ^ 30):Z prog (.call 313 [.str s] [])=some (.ret (.bool true) []):=by
 cases hp:qbK true true false s with
 |er a c=>
  obtain⟨c0,z1⟩:=qAN H.toHas hs hp
  have z2:=qnX H.toHas s hs
  have hp2:qbK true false false s = .er a c:=by rw[qjd true false false true true false,hp]; rfl
  rw[qev,hp2] at z2
  have z2':Z prog (.call 132 [.str s] [])=some (.ret (.tup [.dat (ru Hd.none.nd Hd.none.nd Hd.none.nd),.int a,.int c]) []):=z2
  have c1 : ¬ (c:Int)=0:=by omega
  have z3:=qgq H.ez (qn2 (a:=Hd.none.nd) (b:=Hd.none.nd) (c:=Hd.none.nd) (a':=Hd.none.nd) (b':=Hd.none.nd) (c':=Hd.none.nd) (by decide) (by decide) (by decide))
  rw[qrN] at z3
  have nn:Hd.none.nd=⟨0,0,⟨#[]⟩,false,.nil⟩:=rfl
  simp only[nn,ru,Nd.d,qaZ,qaF,qvR,Bool.and_self] at z1 z2' z3
  refine Z_call (H.kz 313 F313 rfl) rfl ?_
  simp -implicitDefEqProofs [F313,z1,z2',z3,c0,c1,Wa]
 |ok h r=>
  obtain⟨hg,h3,hl,hb⟩:=qkw hp
  obtain⟨A,B,C,S,hS,hS1,hS2,hA,hB,hC,z1,z2⟩:=qzF H.toHas hs hp
  have hp2:qbK true false false s = .ok (qis true false false h) r:=by rw[qjd true false false true true false,hp]; rfl
  have y1:=qnX H.toHas s hs
  rw[qev,hp2] at y1
  simp only[qm5] at y1
  have y2:=qgq H.s (qn6 (qnY (qs4 (f:=true) (fi:=false) (fb:=false) hg)) (by rw[qgx,qke]; omega))
  rw[qgx,qke,<- hS] at y2
  have hsz:=qup hg (by omega)
  have y3:=qgq H.ez (qn2 (a:=A) (b:=B) (c:=C) (a':=(hdO (qis true false false h 0)).nd) (b':=(hdO (qis true false false h 1)).nd) (c':=(hdO (qis true false false h 2)).nd) (by rw[hA]; have:=hsz 0 (by omega); omega) (by rw[hB]; have:=hsz 1 (by omega); omega) (by rw[hC]; have:=hsz 2 (by omega); omega))
  have q0:=qnr (g:=true) (gi:=false) (gb:=false) (qhG hp 0)
  have q1:=qnr (g:=true) (gi:=false) (gb:=false) (qhG hp 1)
  have q2:=qnr (g:=true) (gi:=false) (gb:=false) (qhG hp 2)
  rw[<- hA] at q0
  rw[<- hB] at q1
  rw[<- hC] at q2
  rw[q0,q1,q2] at y3
  generalize (hdO (qis true false false h 0)).nd=A' at *
  generalize (hdO (qis true false false h 1)).nd=B' at *
  generalize (hdO (qis true false false h 2)).nd=C' at *
  have es:eqS S S=true:=by rw[qah]; simp
  simp only[ru,Bool.and_self] at z1 z2 y1 y2 y3
  clear hS hA hB hC q0 q1 q2 hsz
  refine Z_call (H.kz 313 F313 rfl) rfl ?_
  simp -implicitDefEqProofs [F313,z1,z2,y1,y2,y3,es,Wa]
theorem qjF (raw:ByteArray) {v:D} {xs:List Int} (hv:RowV v xs) (hx : ∀ x∈xs,I64 x) {at_ how:Int} (ha:I64 at_) (hh:I64 how) {c:Nat} (hc:c<256) :
  Z prog (.call 310 [.str raw,.dat v,.int at_,.int how,.dat (.lit (.int .u8 c))] [])=some (.ret (.bool true) []):=by
 obtain⟨t0,h0,z0⟩:=qum H.toHas raw (m:=300) (by omega)
 obtain⟨a,b,d,ga,gb,gd,z1⟩:=qr4 H.toHas hv hx
 have hl:=qoz a b d
 have g1:=qlm ga
 have g2:=qlm gb
 have g3:=qlm gd
 obtain⟨t1,ht1⟩ : ∃ v,v=bs (qao false (qa0 (Hd.opts a b d))):=⟨_,rfl⟩
 have hs1:t1.size<=75900:=by rw[ht1,qav]; omega
 rw[<- ht1] at z1
 obtain⟨t2,h2,z2⟩:=qnW H.toHas (s:=t1) (by omega) ha hh hc
 have r7:I64 (at_.tdiv 7):=by
  have:=Int.tdiv_le_self (a:=at_) 7
  unfold I64 at *
  rcases Int.le_total 0 at_ with h|h
  ·rw[Yw h]; omega
  ·have:at_.tdiv 7 = -((-at_).tdiv 7):=by rw[Int.neg_tdiv]; omega
   rw[this,Yw (by omega)]; omega
 have r4:I64 (how.tdiv 4):=by
  unfold I64 at *
  rcases Int.le_total 0 how with h|h
  ·rw[Yw h]; omega
  ·have:how.tdiv 4 = -((-how).tdiv 4):=by rw[Int.neg_tdiv]; omega
   rw[this,Yw (by omega)]; omega
 obtain⟨t3,h3,z3⟩:=qnW H.toHas (s:=t2) (by omega) r7 r4 hc
 have p0:=qim H (s:=t0) (by omega)
 have p1:=qim H (s:=t1) (by omega)
 have p2:=qim H (s:=t2) (by omega)
 have p3:=qim H (s:=t3) (by omega)
 have w7:=qae (at_.tdiv 7) r7
 have w4:=qae (how.tdiv 4) r4
 have zl:=qre H.toHas
 have k0:=hv.one
 have k1:=hv.cells
 simp only[Wd] at z0
 refine Z_call (H.kz 310 F310 rfl) rfl ?_
 simp -implicitDefEqProofs [F310,z0,z1,z2,z3,p0,p1,p2,p3,zl,k0,k1,w7,w4]
end
end
end Go.Pm
section
namespace Go.Pm.F
def prog13z:Nat->Option PFun
 |17=>some F17
 |20=>some F20
 |23=>some F23
 |123=>some F123
 |132=>some F132
 |136=>some F136
 |137=>some F137
 |149=>some F149
 |150=>some F150
 |151=>some F151
 |152=>some F152
 |153=>some F153
 |154=>some F154
 |155=>some F155
 |162=>some F162
 |170=>some F170
 |171=>some F171
 |172=>some F172
 |173=>some F173
 |176=>some F176
 |177=>some F177
 |178=>some F178
 |179=>some F179
 |192=>some F192
 |193=>some F193
 |194=>some F194
 |195=>some F195
 |196=>some F196
 |197=>some F197
 |198=>some F198
 |199=>some F199
 |202=>some F202
 |203=>some F203
 |225=>some F225
 |226=>some F226
 |227=>some F227
 |228=>some F228
 |229=>some F229
 |231=>some F231
 |234=>some F234
 |236=>some F236
 |238=>some F238
 |239=>some F239
 |240=>some F240
 |241=>some F241
 |242=>some F242
 |243=>some F243
 |244=>some F244
 |245=>some F245
 |246=>some F246
 |247=>some F247
 |248=>some F248
 |249=>some F249
 |250=>some F250
 |251=>some F251
 |252=>some F252
 |253=>some F253
 |254=>some F254
 |255=>some F255
 |256=>some F256
 |257=>some F257
 |258=>some F258
 |259=>some F259
 |260=>some F260
 |261=>some F261
 |262=>some F262
 |263=>some F263
 |264=>some F264
 |265=>some F265
 |266=>some F266
 |267=>some F267
 |268=>some F268
 |269=>some F269
 |270=>some F270
 |271=>some F271
 |272=>some F272
 |273=>some F273
 |274=>some F274
 |275=>some F275
 |276=>some F276
 |277=>some F277
 |278=>some F278
 |279=>some F279
 |280=>some F280
 |281=>some F281
 |282=>some F282
 |283=>some F283
 |284=>some F284
 |285=>some F285
 |286=>some F286
 |287=>some F287
 |288=>some F288
 |289=>some F289
 |290=>some F290
 |291=>some F291
 |292=>some F292
 |293=>some F293
 |294=>some F294
 |295=>some F295
 |297=>some F297
 |298=>some F298
 |299=>some F299
 |300=>some F300
 |303=>some F303
 |304=>some F304
 |307=>some F307
 |308=>some F308
 |309=>some F309
 |310=>some F310
 |313=>some F313
 |315=>some F315
 |_=>none
theorem qjx : ∀ f pf,tR f=some pf->prog13z f=some pf:=fun f pf h=>by
 unfold tR at h
 split at h<;>first | (cases h; rfl) | cases h
theorem qjy : ∀ f pf,tS f=some pf->prog13z f=some pf:=fun f pf h=>by
 unfold tS at h
 split at h<;>first | (cases h; rfl) | cases h
theorem qjz : ∀ f pf,tP f=some pf->prog13z f=some pf:=fun f pf h=>by
 unfold tP at h
 split at h<;>first | (cases h; rfl) | cases h
theorem qjA : ∀ f pf,tQ f=some pf->prog13z f=some pf:=fun f pf h=>by
 unfold tQ at h
 split at h<;>first | (cases h; rfl) | cases h
theorem qgM : ∀ f pf,qby f=some pf->prog13z f=some pf:=fun f pf h=>by
 unfold qby at h
 split at h<;>first | (cases h; rfl) | cases h
end Go.Pm.F
end
namespace Go.Pm
section
open F
theorem qfd:Sub tEz prog13z:=fun f pf h=>by
 unfold tEz at h
 split at h<;>first | (cases h; rfl) | cases h
theorem qjb:Sub tKz prog13z:=fun f pf h=>by
 unfold tKz at h
 split at h<;>first | (cases h; rfl) | cases h
theorem qjD:Sub tE prog13z:=fun f pf h=>qfd f pf (qfF f pf h)
theorem qjE:Sub tK prog13z:=fun f pf h=>by
 unfold tK at h
 split at h<;>first | (cases h; rfl) | cases h
theorem qxH:HasZ prog13z:=⟨⟨qgM,qjx,qjy,qjz,qjA,qjD,qjE⟩,qfd,qjb⟩
theorem parsesLaw_Z (raw:ByteArray) {v:D} {xs:List Int} (hv:RowV v xs) (hx : ∀ x∈xs,I64 x) {at_ how:Int} (ha:I64 at_) (hh:I64 how) {c:Nat} (hc:c<256) :
  Z prog13z (.call 310 [.str raw,.dat v,.int at_,.int how,.dat (.lit (.int .u8 c))] [])=some (.ret (.bool true) []):=qjF qxH raw hv hx ha hh hc
end
end Go.Pm
