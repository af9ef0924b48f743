/- Chapter 13's reference parser: a token. -/
import Derived.Test.YtoccgneneplciaaGreatDoorPmAL
import Derived.Test.YtoccgneneplciaaGreatDoorPmF3
import Derived.Test.YtoccgneneplciaaGreatDoorPmEt
set_option linter.unusedSimpArgs false
set_option linter.unusedVariables false
set_option maxHeartbeats 4000000
namespace Go.Pm
section
open F
abbrev tk0:Ob := .cells [.int 0,.str ⟨#[]⟩,.int 0]
theorem qlY (s:ByteArray) (hl:s.size<2 ^ 40) (a:Int) : ∀ (m i:Nat) (ex:Fr),i+m=s.size->(ex=[]\/ex=[(19,.bool true)]) ->
  ∃ t v,Z tR (.loop 0 F171l0 ((0,.str s)::(1,.int a)::(4,.ptr 0 0)::(5,.int i)::ex) [tk0])=some (.out (.exit 0) [(0,.str s),(1,.int a),(4,.ptr 0 0),(5,.int ((i+qa3 qaq ((byl s).drop i):Nat))),(t,.bool v)] [tk0])
 |0,i,ex,hi,hex=>by
  obtain rfl:i=s.size:=by omega
  have hd:(byl s).drop s.size=[]:=WN (by rw[qat]; exact Wl _)
  refine⟨35,false,?_⟩
  rw[qab,hd]
  rcases hex with rfl|rfl<;>simp[qaa,qfx,V.len,qa3,Wa]
 |m+1,i,ex,hi,hex=>by
  obtain⟨c,h1,h2⟩:=qh6 (s:=s) (i:=i) (by omega)
  have hd:=qdR h2
  have hlt:(i:Int)<s.size:=by omega
  have w1:=qae ((i:Int)+1) (by omega)
  have zl:=qeM c
  have zd:=qd6 c
  obtain⟨t,v,ih⟩:=qlY s hl a m (i+1) [] (by omega) (.inl rfl)
  simp only[Wn,Wd] at ih
  by_cases hc:qaq c=true
  ·refine⟨t,v,?_⟩
   have e:(i:Int)+((qa3 qaq ((byl s).drop (i+1)):Int)+1)=i+1+qa3 qaq ((byl s).drop (i+1)):=by omega
   rw[qab,hd]
   simp only[qaq,Ya] at hc
   by_cases hcl:qaG c=true
   ·rcases hex with rfl|rfl<;>simp[qaa,qfx,V.len,qa3,h1,hlt,w1,zl,zd,hcl,ih,qaq,e,Wa]
   ·have hcd:qal c=true:=by rcases hc with h|h; exact absurd h hcl; exact h
    rcases hex with rfl|rfl<;>simp[qaa,qfx,V.len,qa3,h1,hlt,w1,zl,zd,hcl,hcd,ih,qaq,e,Wa]
  ·refine⟨35,false,?_⟩
   simp only[qaq,Ya,not_or] at hc
   rw[qab,hd]
   rcases hex with rfl|rfl<;>simp[qaa,qfx,V.len,qa3,h1,hlt,w1,zl,zd,hc.1,hc.2,qaq,Wa]
theorem qnO (s:ByteArray) (hl:s.size<2 ^ 40) (a:Int) : ∀ (m i:Nat) (ex:Fr),i+m=s.size->(ex=[]\/ex=[(59,.bool true)]) ->
  ∃ t v,Z tR (.loop 0 F171l1 ((0,.str s)::(1,.int a)::(4,.ptr 0 0)::(5,.int i)::ex) [tk0])=some (.out (.exit 2) [(0,.str s),(1,.int a),(4,.ptr 0 0),(5,.int ((i+qa3 qal ((byl s).drop i):Nat))),(t,.bool v)] [tk0])
 |0,i,ex,hi,hex=>by
  obtain rfl:i=s.size:=by omega
  have hd:(byl s).drop s.size=[]:=WN (by rw[qat]; exact Wl _)
  refine⟨69,false,?_⟩
  rw[qab,hd]
  rcases hex with rfl|rfl<;>simp[qaa,qha,V.len,qa3,Wa]
 |m+1,i,ex,hi,hex=>by
  obtain⟨c,h1,h2⟩:=qh6 (s:=s) (i:=i) (by omega)
  have hd:=qdR h2
  have hlt:(i:Int)<s.size:=by omega
  have w1:=qae ((i:Int)+1) (by omega)
  have zl:=qeM c
  have zd:=qd6 c
  obtain⟨t,v,ih⟩:=qnO s hl a m (i+1) [] (by omega) (.inl rfl)
  simp only[Wn,Wd] at ih
  by_cases hc:qal c=true
  ·refine⟨t,v,?_⟩
   have e:(i:Int)+((qa3 qal ((byl s).drop (i+1)):Int)+1)=i+1+qa3 qal ((byl s).drop (i+1)):=by omega
   rw[qab,hd]
   rcases hex with rfl|rfl<;>simp[qaa,qha,V.len,qa3,h1,hlt,w1,zd,hc,ih,e,Wa]
  ·refine⟨69,false,?_⟩
   rw[qab,hd]
   rcases hex with rfl|rfl<;>simp[qaa,qha,V.len,qa3,h1,hlt,w1,zd,hc,Wa]
abbrev tkD(t:Tk):V := .dat (.agg [.lit (.int .i64 t.at_),.lit (.string t.s),.lit (.int .i64 t.bad)])
def qyg:List ByteArray:=symB.map fun n=>bs [n.toUInt8]
theorem qrX(c:UInt8):bs [c]∈qyg↔c.toNat∈symB:=by
 constructor
 ·intro h
  obtain⟨n,hn,he⟩:=Yc.1 h
  have:=qkr he
  simp only[Ww,and_true] at this
  rw[<- this]
  revert hn
  simp only[symB,Ws,WA,or_false]
  rintro (rfl|rfl|rfl|rfl|rfl|rfl|rfl|rfl|rfl|rfl|rfl|rfl|rfl|rfl|rfl|rfl)<;>decide
 ·intro h
  refine Yc.2 ⟨c.toNat,h,?_⟩
  simp
theorem qgv(p:UInt8->Bool) : ∀ l:List UInt8,∀ b∈l.take (qa3 p l),p b=true
 |[],b,h=>by simp[qa3] at h
 |c::r,b,h=>by
  simp only[qa3] at h
  split at h
  ·rename_i hc
   rw[List.take_succ_cons] at h
   rcases Ws.1 h with rfl|h
   ·exact hc
   ·exact qgv p r b h
  ·simp at h
theorem qud(s:ByteArray)(hl:s.size<2 ^ 40){i:Nat}(hi:i<s.size):Z tR (.call 171 [.str s,.int i] [])=some (.ret (tkD (tokAt 12 2 6 s i)) []):=by
 refine Z_call (pf:=F171) rfl rfl ?_
 obtain⟨c,h1,h2⟩:=qh6 hi
 have hd:=qdR h2
 have hlt : ¬ (s.size:Int)<=i:=by omega
 have hlt':(i:Int)<s.size:=by omega
 have zl:=qeM c
 have zd:=qd6 c
 have w1:=qae ((i:Int)+1) (by omega)
 obtain⟨t1,v1,zw⟩:=qlY s hl i (s.size-(i+1)) (i+1) [(19,.bool true)] (by omega) (.inr rfl)
 obtain⟨t2,v2,zg⟩:=qnO s hl i (s.size-(i+1)) (i+1) [(59,.bool true)] (by omega) (.inr rfl)
 have e1 : ∀ p,p c=true->i+1+qa3 p ((byl s).drop (i+1))=qoU p s (s.size-i) i:=fun p hp=>by
  rw[qhA p s _ i (Wl _),hd]
  simp only[qa3,hp,if_true]; omega
 have e2 : ∀ p,qoU p s (s.size-i) i<=s.size:=fun p=>by
  rw[qhA p s _ i (Wl _)]
  have:=qdS p ((byl s).drop i)
  rw[WT,qat] at this
  omega
 have e3 : ∀ p,i<=qoU p s (s.size-i) i:=fun p=>by rw[qhA p s _ i (Wl _)]; omega
 simp only[Wn,Wd] at zw zg
 have sz : ∀ j,j<=s.size->i<=j->(s.extract i j).size=j-i:=fun j hj hij=>by rw[Yk]; omega
 by_cases hlet:qaG c=true
 ·have hw:qaq c=true:=by simp[qaq,hlet]
  have q:=e1 qaq hw
  have q2:=e2 qaq
  have q3:=e3 qaq
  generalize hj:qoU qaq s (s.size-i) i=j at q q2 q3
  have q':(i:Int)+1+qa3 qaq ((byl s).drop (i+1))=j:=by omega
  rw[q'] at zw
  have zr:=qfJ (s.extract i j)
  have hsz:=sz j q2 q3
  have w2:=qae ((j:Int)-i) (by omega)
  have b1:(0:Int)<=i/\(i:Int)<=j:=by omega
  have b2:(0:Int)<=j/\(j:Int)<=s.size:=by omega
  have htok:tokAt 12 2 6 s i=⟨i,s.extract i j,if 8<(s.extract i j).size/\s.extract i j∉fieldNames/\s.extract i j∉wordNames then 2 else 0⟩:=by
   unfold tokAt
   rw[h1]
   simp only[hlet,if_true,hj]
  rw[htok,hsz]
  obtain⟨w,hwx⟩ : ∃ w,s.extract i j=w:=⟨_,rfl⟩
  rw[hwx] at zr ⊢
  have b3:(j:Int)<=s.size:=by omega
  have b4:(i:Int)<=j:=by omega
  by_cases h8:8<j-i
  ·have h8':(8:Int)<(j:Int)-i:=by omega
   by_cases hres:w∈fieldNames\/w∈wordNames
   ·have hn : ¬ (8<j-i/\w∉fieldNames/\w∉wordNames):=by
     rintro ⟨_,h,h'⟩
     rcases hres with hres|hres
     ·exact h hres
     ·exact h' hres
    simp[F171,V.len,h1,hlt,zl,hlet,zw,qa1,bound,hwx,b3,b4,w1,w2,h8',zr,hres,if_neg hn,Wa]
   ·have hn:8<j-i/\w∉fieldNames/\w∉wordNames:=⟨h8,fun h=>hres (.inl h),fun h=>hres (.inr h)⟩
    simp[F171,V.len,h1,hlt,zl,hlet,zw,qa1,bound,hwx,b3,b4,w1,w2,h8',zr,hres,if_pos hn,Wa]
  ·have h8' : ¬ (8:Int)<(j:Int)-i:=by omega
   have hn : ¬ (8<j-i/\w∉fieldNames/\w∉wordNames):=fun h=>h8 h.1
   simp[F171,V.len,h1,hlt,zl,hlet,zw,qa1,bound,hwx,b3,b4,w1,w2,h8',if_neg hn,Wa]
 ·by_cases hdig:qal c=true
  ·have q:=e1 qal hdig
   have q2:=e2 qal
   have q3:=e3 qal
   have hrun:=qhA qal s _ i (Wl (s.size-i))
   have hall:=qgv qal ((byl s).drop i)
   have htake:(byl (s.extract i (qoU qal s (s.size-i) i)))=((byl s).drop i).take (qa3 qal ((byl s).drop i)):=by
    rw[hrun,qb8,qbi]
   generalize hj:qoU qal s (s.size-i) i=j at q q2 q3 htake
   have q':(i:Int)+1+qa3 qal ((byl s).drop (i+1))=j:=by omega
   rw[q'] at zg
   have hsz:=sz j q2 q3
   have zv:=qq6 (s:=s.extract i j) (fun b hb=>hall b (by rw[<- htake]; exact hb)) (by omega)
   have b3:(j:Int)<=s.size:=by omega
   have b4:(i:Int)<=j:=by omega
   have htok:tokAt 12 2 6 s i=⟨i,s.extract i j,if 2147483647<digV (s.extract i j).data.toList then 6 else 0⟩:=by
    unfold tokAt
    rw[h1]
    simp only[hlet,hdig,if_true,hj,Wm,if_false,ByteArray.toList_eq]
   rw[htok]
   obtain⟨w,hw⟩ : ∃ w,s.extract i j=w:=⟨_,rfl⟩
   rw[hw] at zv ⊢
   by_cases hb:2147483647<digV w.data.toList
   ·have hv:qtW w.data.toList = -1:=by rw[qtW,if_pos hb]
    rw[hv] at zv
    simp[F171,V.len,h1,hlt,zl,zd,hlet,hdig,zg,qa1,bound,b3,b4,w1,hw,zv,hb,Wa]
   ·have hv : ¬ qtW w.data.toList<0:=by rw[qtW,if_neg hb]; omega
    simp[F171,V.len,h1,hlt,zl,zd,hlet,hdig,zg,qa1,bound,b3,b4,w1,hw,zv,hv,hb,Wa]
  ·have w3:=qae ((i:Int)+2) (by omega)
   have b8:(0:Int)<=(i:Int)+2:=by omega
   have b9:((i:Int)+2).toNat=i+2:=by omega
   have b8':(0:Int)<=(i:Int)+1:=by omega
   have b9':((i:Int)+1).toNat=i+1:=by omega
   have c1:(i:Int)<=(i:Int)+2:=by omega
   have c2:(i:Int)<=(i:Int)+1:=by omega
   have e5:s.extract i (i+1)=bs [c]:=by rw[qb8,hd]; rfl
   have b5:(i:Int)+1<=s.size:=by omega
   have hsym : ∀ (hp : ¬ (i+2<=s.size/\s.extract i (i+2)∈qdh)),tokAt 12 2 6 s i=⟨i,bs [c],if c.toNat∈symB then 0 else 12⟩:=fun hp=>by
    unfold tokAt
    rw[h1]
    simp only[hlet,hdig,Wm,if_false,if_neg hp,e5]
    split<;>rfl
   have zs:=qgT (qai qyg true) (by decide) (bs [c])
   rw[show (decide (bs [c]∈qyg))=decide (c.toNat∈symB) from by rw[decide_eq_decide]; exact qrX c] at zs
   simp only[show qyg=[⟨#[123]⟩,⟨#[125]⟩,⟨#[91]⟩,⟨#[93]⟩,⟨#[40]⟩,⟨#[41]⟩,⟨#[61]⟩,⟨#[59]⟩,⟨#[44]⟩,⟨#[60]⟩,⟨#[62]⟩,⟨#[43]⟩,⟨#[45]⟩,⟨#[42]⟩,⟨#[47]⟩,⟨#[33]⟩] from rfl,strC,Wo,Wq,Wj,Wu,Nat.reduceAdd,WL] at zs
   generalize hgb:bs [c]=q at zs e5 hsym
   generalize hgs:decide (c.toNat∈symB)=bb at zs
   have hs2:(if c.toNat∈symB then 0 else 12)=(if bb=true then 0 else 12):=by rw[<- hgs]; simp
   by_cases h2s:i+2<=s.size
   ·have b6:(i:Int)+2<=s.size:=by omega
    have b7 : ¬ (s.size:Int)<(i:Int)+2:=by omega
    have zp:=qgT (qai qdh true) (by decide) (s.extract i (i+2))
    generalize hgp:decide (s.extract i (i+2)∈qdh)=pb at zp
    simp only[qdh,strC,Wo,Wq,Wj,Wu,bs,Nat.reduceAdd,WL] at zp
    by_cases hp:s.extract i (i+2)∈qdh
    ·have htok:tokAt 12 2 6 s i=⟨i,s.extract i (i+2),0⟩:=by
      unfold tokAt
      rw[h1]
      simp only[hlet,hdig,Wm,if_false,if_pos (And.intro h2s hp)]
     rw[htok]
     obtain⟨w,hwx⟩ : ∃ w,s.extract i (i+2)=w:=⟨_,rfl⟩
     rw[decide_eq_true hp] at hgp
     rw[hwx] at zp ⊢
     subst hgp
     simp[F171,V.len,h1,hlt,zl,zd,hlet,hdig,qa1,bound,w1,w3,b8,b9,b8',b9',c1,c2,b6,b7,hwx,zp,ql7,qo1,Wa]
    ·have htok:=hsym (fun h=>hp h.2)
     obtain⟨w,hwx⟩ : ∃ w,s.extract i (i+2)=w:=⟨_,rfl⟩
     rw[decide_eq_false hp] at hgp
     rw[hwx] at zp
     subst hgp
     rw[htok,hs2]
     cases bb with
     |true=>simp[F171,V.len,h1,hlt,zl,zd,hlet,hdig,qa1,bound,w1,w3,b8,b9,b8',b9',c1,c2,b5,b6,b7,hwx,zp,zs,e5,ql7,qo1,Wa]
     |false=>simp[F171,V.len,h1,hlt,zl,zd,hlet,hdig,qa1,bound,w1,w3,b8,b9,b8',b9',c1,c2,b5,b6,b7,hwx,zp,zs,e5,ql7,qo1,Wa]
   ·have b6 : ¬ (i:Int)+2<=s.size:=by omega
    have htok:=hsym (fun h=>h2s h.1)
    rw[htok,hs2]
    cases bb with
    |true=>simp[F171,V.len,h1,hlt,zl,zd,hlet,hdig,qa1,bound,w1,w3,b8,b9,b8',b9',c1,c2,b5,b6,zs,e5,Wa]
    |false=>simp[F171,V.len,h1,hlt,zl,zd,hlet,hdig,qa1,bound,w1,w3,b8,b9,b8',b9',c1,c2,b5,b6,zs,e5,Wa]
end
section
open F
def tkC:List Tk->List D
 |[]=>[]
 |t::r => .lit (.int .i64 t.at_) :: .lit (.string t.s) :: .lit (.int .i64 t.bad)::tkC r
theorem qrD(a b:List Tk):tkC (a++b)=tkC a++tkC b:=by
 induction a with
 |nil=>rfl
 |cons t a ih=>simp[tkC,ih]
theorem qrE(a:List Tk):(tkC a).length=a.length*3:=by
 induction a with
 |nil=>rfl
 |cons t a ih=>simp[tkC,ih]; omega
theorem qlC : ∀ (T:List Tk) (i:Nat),(tkC T).drop (i*3)=tkC (T.drop i)
 |[],i=>by simp[tkC]
 |t::T,0=>by simp
 |t::T,i+1=>by
  rw[show (i+1)*3=i*3+3 by omega]
  simp only[tkC,Yh]
  exact qlC T i
theorem qv3{T:List Tk}{i:Nat}(h:i<T.length):cutCells (tkC T) (i*3) 3=some [.lit (.int .i64 T[i].at_),.lit (.string T[i].s),.lit (.int .i64 T[i].bad)]:=by
 unfold cutCells
 rw[qlC,WO h]
 simp[tkC]
def qyc(v:V)(σ : S)(T:List Tk):Prop:=(T=[]/\v = .dat (.lit (.slice none 0 0)) /\ σ = [])\/(T≠[]/\v = .gsl (tkC T) T.length 3 0 /\ σ = [.tip (tkC T).length])
def allT(s:ByteArray):Nat->Nat->List Tk
 |0,_=>[]
 |n+1,i=>if i<s.size then tokAt 12 2 6 s i::allT s n (i+(tokAt 12 2 6 s i).s.size+qaD false ((byl s).drop (i+(tokAt 12 2 6 s i).s.size))) else []
theorem qtp(eS eL eR:Nat)(c:UInt8)(r:List UInt8):1<=(tokL eS eL eR (c::r)).1.length/\(tokL eS eL eR (c::r)).1.length<=r.length+1:=by
 have h1:=qdS qaq (c::r)
 have h2:=qdS qal (c::r)
 simp only[tokL]
 split
 ·rename_i h
  have hw:qaq c=true:=by simp[qaq,h]
  have:1<=qa3 qaq (c::r):=by simp only[qa3,hw,if_true]; omega
  simp only[WV,Wj] at h1 ⊢
  omega
 split
 ·rename_i h
  have:1<=qa3 qal (c::r):=by simp only[qa3,h,if_true]; omega
  simp only[WV,Wj] at h2 ⊢
  omega
 split
 ·rename_i h
  have:=qfR h
  rw[qav] at this
  simp only[WV,Wj] at this ⊢
  omega
 split<;>simp
theorem qfn{s:ByteArray}{i:Nat}(hi:i<s.size)(eS eL eR:Nat):1<=(tokAt eS eL eR s i).s.size/\i+(tokAt eS eL eR s i).s.size<=s.size:=by
 obtain⟨c,h1,h2⟩:=qh6 hi
 have hd:=qdR h2
 rw[qcB]
 simp only[qav]
 rw[hd]
 have:=qtp eS eL eR c ((byl s).drop (i+1))
 rw[WT,qat] at this
 omega
theorem qnA{s:ByteArray}{j:Nat}(hj:j<=s.size):j+qaD false ((byl s).drop j)<=s.size:=by
 have:=qfQ ((byl s).drop j) false
 rw[WT,qat] at this
 omega
theorem qmN (s:ByteArray) (hl:s.size<2 ^ 30) : ∀ (n i:Nat) (T:List Tk) (v:V) (σ : S),s.size-i<=n->i<=s.size->T.length<=i->qyc v σ T ->
  ∃ v' σ',qyc v' σ' (T++allT s n i)/\(T++allT s n i).length<=s.size/\Z tR (.loop 0 F149l0 [(0,.str s),(3,v),(4,.int i)] σ)=some (.out (.exit 0) [(0,.str s),(3,v'),(4,.int s.size),(11,.bool false)] σ')
 |n,i,T,v,σ,hn,hi,hT,hr=>by
  by_cases hend:i=s.size
  ·subst hend
   have hall:allT s n s.size=[]:=by cases n<;>simp[allT]
   refine⟨v,σ,by rw[hall,Wp]; exact hr,by rw[hall,Wp]; exact hT,?_⟩
   rw[qab]
   rcases hr with ⟨rfl,rfl,rfl⟩|⟨_,rfl,rfl⟩<;>simp[qaa,qg8,V.len]
  ·cases n with
   |zero=>omega
   |succ n=>
    have hlt:i<s.size:=by omega
    have hlt':(i:Int)<s.size:=by omega
    obtain⟨p1,p2⟩:=qfn hlt 12 2 6
    have zt:=qud s (by omega) hlt
    have htat:(tokAt 12 2 6 s i).at_=i:=by rw[qcB]
    have hall:allT s (n+1) i=tokAt 12 2 6 s i::allT s n (i+(tokAt 12 2 6 s i).s.size+qaD false ((byl s).drop (i+(tokAt 12 2 6 s i).s.size))):=by simp only[allT]; rw[if_pos hlt]
    rw[hall]
    generalize tokAt 12 2 6 s i=t at *
    have zs:=qt2 s (by omega) (i:=i+t.s.size) p2
    have hle:=qnA p2
    obtain⟨j,hj⟩ : ∃ j,j=i+t.s.size+qaD false ((byl s).drop (i+t.s.size)):=⟨_,rfl⟩
    rw[<- hj] at zs hle ⊢
    have hij:i+1<=j:=by omega
    have w1:=qae ((i:Int)+t.s.size) (by omega)
    simp only[Wn] at zs
    have hroom:qaI (T.length+1) 32=true:=by simp only[qaI,decide_eq_true_eq]; omega
    have hr1:qaI 1 32=true:=by decide
    obtain⟨v',σ',g1,g2,g3⟩:=qmN s hl n j (T++[t]) (.gsl (tkC (T++[t])) (T++[t]).length 3 0) [.tip (tkC (T++[t])).length] (by omega) hle (by simp; omega) (.inr ⟨by simp,rfl,rfl⟩)
    rw[Wg] at g1 g2
    refine⟨v',σ',g1,g2,?_⟩
    rw[<- g3,qab]
    have e1:tkC (T++[t])=tkC T++[.lit (.int .i64 t.at_),.lit (.string t.s),.lit (.int .i64 t.bad)]:=by rw[qrD]; rfl
    have e2:(tkC (T++[t])).length=(tkC T).length+3:=by rw[e1]; simp
    have e3:(tkC T).length=T.length*3:=qrE T
    have e4:(T++[t]).length=T.length+1:=by simp
    rcases hr with ⟨rfl,rfl,rfl⟩|⟨hne,rfl,rfl⟩
    ·simp[qaa,qg8,V.len,hlt',zt,zs,w1,qbD,qjv,hr1,tkC,Wa]
     exact qbP (by simp[Wa])
    ·rw[e1,e4]
     simp[qaa,qg8,V.len,hlt',zt,zs,w1,qbD,qjv,hroom,e3,Wa]
     exact qbP (by simp[Wa])
def qlG(s:ByteArray):List Tk:=allT s (s.size+1) (qaD false (byl s))++[⟨s.size,⟨#[]⟩,0⟩]
theorem qoM(s:ByteArray)(hl:s.size<2 ^ 30):Z tR (.call 149 [.str s] [])=some (.ret (.dat (.sl (tkC (qlG s)) (qlG s).length false)) [])/\(qlG s).length<=s.size+1:=by
 have zs:=qt2 s (by omega) (i:=0) (WP _)
 have hle:=qnA (s:=s) (j:=0) (WP _)
 simp only[WJ,WL,Ye] at zs hle
 obtain⟨v',σ',g1,g2,g3⟩:=qmN s hl (s.size+1) (qaD false (byl s)) [] (.dat (.lit (.slice none 0 0))) [] (by omega) hle (WP _) (.inl ⟨rfl,rfl,rfl⟩)
 rw[Wc] at g1 g2
 have hlen:(qlG s).length=(allT s (s.size+1) (qaD false (byl s))).length+1:=by simp[qlG]
 refine⟨?_,by omega⟩
 refine Z_call (pf:=F149) rfl rfl ?_
 unfold qlG at *
 generalize allT s (s.size+1) (qaD false (byl s))=T at *
 have e1:tkC (T++[⟨s.size,⟨#[]⟩,0⟩])=tkC T++[.lit (.int .i64 s.size),.lit (.string ⟨#[]⟩),.lit (.int .i64 0)]:=by rw[qrD]; rfl
 have e3:(tkC T).length=T.length*3:=qrE T
 have hroom:qaI (T.length+1) 32=true:=by simp only[qaI,decide_eq_true_eq]; omega
 have hr1:qaI 1 32=true:=by decide
 rcases g1 with ⟨rfl,rfl,rfl⟩|⟨hne,rfl,rfl⟩
 ·simp[F149,V.len,zs,g3,qbD,qjv,hr1,tkC,Wa]
 ·rw[e1,hlen]
  simp[F149,V.len,zs,g3,qbD,qjv,hroom,e3,Wa]
def qrF:List Tk->List Tk
 |[]=>[]
 |t::r=>if t.bad≠0\/t.s.size=0 then [t] else t::qrF r
theorem qrG(s:ByteArray) : ∀ (n m i:Nat),i<=s.size->s.size-i<n->s.size-i<m->qrF (allT s m (i+qaD false ((byl s).drop i))++[⟨s.size,⟨#[]⟩,0⟩])=qbY 12 2 6 s n i
 |0,m,i,_,h,_=>by omega
 |n+1,0,i,_,_,h=>by omega
 |n+1,m+1,i,hi,h1,h2=>by
  have hle:=qnA hi
  have hsk:qh1 s (s.size-i) false i=i+qaD false ((byl s).drop i):=qir s _ false i (Wl _)
  simp only[qbY,hsk]
  generalize hj:i+qaD false ((byl s).drop i)=j at *
  simp only[allT]
  by_cases hlt:j<s.size
  ·obtain⟨p1,p2⟩:=qfn hlt 12 2 6
   have htat:(tokAt 12 2 6 s j).at_=j:=by rw[qcB]
   rw[if_pos hlt,Wf,qrF,htat]
   split
   ·rfl
   ·rw[qrG s n m (j+(tokAt 12 2 6 s j).s.size) p2 (by omega) (by omega)]
  ·obtain rfl:j=s.size:=by omega
   have hd:(byl s).drop s.size=[]:=WN (by rw[qat]; exact Wl _)
   have ht:tokAt 12 2 6 s s.size=⟨s.size,⟨#[]⟩,0⟩:=by rw[qcB,hd]; rfl
   rw[if_neg hlt,ht]
   rw[Wc,qrF,if_pos (.inr rfl),if_pos (.inr rfl)]
theorem qtq(s:ByteArray):qrF (qlG s)=qbY 12 2 6 s (s.size+1) 0:=by
 have:=qrG s (s.size+1) (s.size+1) 0 (WP _) (by omega) (by omega)
 rw[WJ,WL] at this
 exact this
end
section
open F
structure Ps where
 i:Nat
 a:Nat
 e:Nat
abbrev PO(T:List Tk)(s:Ps):Ob := .cells [.dat (.sl (tkC T) T.length false),.int s.i,.int s.a,.int s.e]
def tkAt(T:List Tk)(i:Nat):Tk:=T.getD i ⟨0,⟨#[]⟩,0⟩
theorem qhd{T:List Tk}{i:Nat}(h:i<T.length):T[i]=tkAt T i:=by simp[tkAt,List.getD_eq_getElem?_getD,h]
theorem qm9(T:List Tk){i:Nat}(h:i<T.length):qag 3 (.dat (.sl (tkC T) T.length false)) (i:Int)=some (.dat (.imm (tkC T) (i*3))):=by
 have:(i:Int)<T.length:=by omega
 simp[qag,h]
theorem qtG{T:List Tk}{i:Nat}(h:i<T.length):cutCells (tkC T) (i*3) 3=some [.lit (.int .i64 (tkAt T i).at_),.lit (.string (tkAt T i).s),.lit (.int .i64 (tkAt T i).bad)]:=by
 rw[qv3 h,qhd h]
theorem qna{T:List Tk}{i:Nat}(h:i<T.length):(tkC T).drop (i*3) = .lit (.int .i64 (tkAt T i).at_) :: .lit (.string (tkAt T i).s) :: .lit (.int .i64 (tkAt T i).bad)::tkC (T.drop (i+1)):=by
 rw[qlC,WO h,qhd h]; rfl
theorem quv{T:List Tk}{i:Nat}(h:i<T.length):cutCells (tkC T) (i*3) 1=some [.lit (.int .i64 (tkAt T i).at_)]:=by
 unfold cutCells
 rw[qna h]; simp
theorem qhe{T:List Tk}{i:Nat}(h:i<T.length):cutCells (tkC T) (i*3+1) 1=some [.lit (.string (tkAt T i).s)]:=by
 unfold cutCells
 rw[<- List.drop_drop,qna h]; simp
theorem quw{T:List Tk}{i:Nat}(h:i<T.length):cutCells (tkC T) (i*3+2) 1=some [.lit (.int .i64 (tkAt T i).bad)]:=by
 unfold cutCells
 rw[<- List.drop_drop,qna h]; simp
def qS:ByteArray:=bs [63]
def nxR(T:List Tk)(s:Ps):ByteArray:=if (tkAt T s.i).bad=0 then (tkAt T s.i).s else qS
def failS(T:List Tk)(c:Nat)(s:Ps):Ps:=if s.e≠0 then s else ⟨s.i,(tkAt T s.i).at_,if (tkAt T s.i).bad≠0 then (tkAt T s.i).bad else c⟩
def takeS(T:List Tk)(s:Ps):Ps:=if s.i+1<T.length then { s with i:=s.i+1 } else s
def expectS(T:List Tk)(x:ByteArray)(s:Ps):Ps:=
 let s1:=if s.e=0/\nxR T s≠x then failS T 12 s else s
 if s1.e=0 then takeS T s1 else s1
def openS(T:List Tk)(x:ByteArray)(lv:Int)(s:Ps):Ps:=
 expectS T x (if s.e=0/\nxR T s=x/\20<lv then failS T 2 s else s)
section
variable{T:List Tk}{s:Ps}
theorem qcF(h:s.i<T.length):Z tR (.call 151 [.ptr 0 0] [PO T s])=some (.ret (.str (nxR T s)) [PO T s]):=by
 refine Z_call (pf:=F151) rfl rfl ?_
 have h1:=qm9 T h
 have h2:=qtG h
 unfold nxR
 by_cases hb:(tkAt T s.i).bad=0
 ·simp[F151,h1,h2,hb,qbX,qaO,Wa]
 ·have hb' : ¬ ((tkAt T s.i).bad:Int)=0:=by omega
  simp[F151,h1,h2,hb,hb',qS,bs,qbX,qaO,Wa]
theorem qhQ(h:s.i<T.length)(c:Nat):Z tR (.call 153 [.ptr 0 0,.int c] [PO T s])=some (.ret (.tup []) [PO T (failS T c s)]):=by
 refine Z_call (pf:=F153) rfl rfl ?_
 have h1:=qm9 T h
 have h2:=qtG h
 have h3:=quv h
 have h4:=qhe h
 have h5:=quw h
 unfold failS
 by_cases he:s.e=0
 ·by_cases hb:(tkAt T s.i).bad=0
  ·simp[F153,h1,h2,h3,h4,h5,he,hb,qbX,qaO,Wa]
  ·have hb' : ¬ ((tkAt T s.i).bad:Int)=0:=by omega
   simp[F153,h1,h2,h3,h4,h5,he,hb,hb',qbX,qaO,Wa]
 ·have he' : ¬ (s.e:Int)=0:=by omega
  simp[F153,he,he',Wa]
theorem qem(h:s.i<T.length)(hT:T.length<2 ^ 40):Z tR (.call 154 [.ptr 0 0] [PO T s])=some (.ret (.tup []) [PO T (takeS T s)]):=by
 refine Z_call (pf:=F154) rfl rfl ?_
 have w1:=qae ((s.i:Int)+1) (by omega)
 unfold takeS
 by_cases hi:s.i+1<T.length
 ·have hi':(s.i:Int)+1<T.length:=by omega
  simp[F154,w1,hi,hi',V.len,qbX,qaO,Wa]
 ·have hi' : ¬ (s.i:Int)+1<T.length:=by omega
  simp[F154,w1,hi,hi',V.len,qbX,qaO,Wa]
theorem qiI(c:Nat):(failS T c s).i=s.i:=by unfold failS; split<;>rfl
theorem qn4(h:s.i<T.length):(takeS T s).i<T.length:=by unfold takeS; split<;>simp_all
theorem qbH(h:s.i<T.length)(hT:T.length<2 ^ 40)(x:ByteArray):Z tR (.call 150 [.ptr 0 0,.str x] [PO T s])=some (.ret (.tup []) [PO T (expectS T x s)]):=by
 refine Z_call (pf:=F150) rfl rfl ?_
 have zn:=qcF h
 have zf:=qhQ h 12
 have zt:=qem h hT
 simp only[Wd] at zf
 unfold expectS
 by_cases he0:s.e=0
 ·have he:decide (s.e=0)=true:=decide_eq_true he0
  by_cases hx:nxR T s=x
  ·have e1:(if s.e=0/\nxR T s≠x then failS T 12 s else s)=s:=by simp[hx]
   rw[e1,if_pos he0]
   simp[F150,zn,zt,he,hx,qah,Wa]
  ·have zt2:=qem (s:=failS T 12 s) (T:=T) (by rw[qiI]; exact h) hT
   have e1:(if s.e=0/\nxR T s≠x then failS T 12 s else s)=failS T 12 s:=by simp[hx,he0]
   rw[e1]
   by_cases he2:(failS T 12 s).e=0
   ·have he2':decide ((failS T 12 s).e=0)=true:=decide_eq_true he2
    rw[if_pos he2]
    simp[F150,zn,zf,zt2,he,he2',hx,qah,Wa]
   ·have he2':decide ((failS T 12 s).e=0)=false:=decide_eq_false he2
    rw[if_neg he2]
    simp[F150,zn,zf,zt2,he,he2',hx,qah,Wa]
 ·have he:decide (s.e=0)=false:=decide_eq_false he0
  have e1:(if s.e=0/\nxR T s≠x then failS T 12 s else s)=s:=by simp[he0]
  rw[e1,if_neg he0]
  simp[F150,he,Wa]
theorem qma(h:s.i<T.length)(hT:T.length<2 ^ 40)(x:ByteArray)(lv:Int):Z tR (.call 172 [.ptr 0 0,.str x,.int lv] [PO T s])=some (.ret (.tup []) [PO T (openS T x lv s)]):=by
 refine Z_call (pf:=F172) rfl rfl ?_
 have zn:=qcF h
 have zf:=qhQ h 2
 simp only[Wd] at zf
 have ze:=qbH h hT x
 have ze2:=qbH (s:=failS T 2 s) (T:=T) (by rw[qiI]; exact h) hT x
 unfold openS
 by_cases he0:s.e=0
 ·have he:decide (s.e=0)=true:=decide_eq_true he0
  by_cases hx:nxR T s=x
  ·by_cases hl:20<lv
   ·rw[if_pos ⟨he0,hx,hl⟩]
    simp[F172,zn,zf,ze2,he,hx,hl,qah,Wa]
   ·rw[if_neg (fun h=>hl h.2.2)]
    simp[F172,zn,ze,he,hx,hl,qah,Wa]
  ·rw[if_neg (fun h=>hx h.2.1)]
   simp[F172,zn,ze,he,hx,qah,Wa]
 ·have he:decide (s.e=0)=false:=decide_eq_false he0
  rw[if_neg (fun h=>he0 h.1)]
  simp[F172,ze,he,Wa]
end
end
section
open F
structure TokP(t:Tk):Prop where
 q:t.bad=0->t.s≠qS
 dig:t.bad=0->qaj qal t.s=true->(∀ c∈t.s.data.toList,qal c=true)/\digV t.s.data.toList<=2147483647/\t.s.size<2 ^ 40
structure WfT(T:List Tk):Prop where
 len:T.length<2 ^ 40
 tok : ∀ t∈T,TokP t
 pos : ∀ i,i+1<T.length->(tkAt T i).s.size≠0
 last : ∀ i,i+1=T.length->(tkAt T i).s=⟨#[]⟩/\(tkAt T i).bad=0
structure Gd(T:List Tk)(s:Ps)(ts:List Tk):Prop where
 e:s.e=0
 a:s.a=0
 lt:s.i<T.length
 ts:qrF (T.drop s.i)=ts
structure Er(T:List Tk)(s:Ps)(p c:Nat):Prop where
 lt:s.i<T.length
 c0:c≠0
 or:(s.e=c/\s.a=p)\/(s.e=0/\(tkAt T s.i).bad=c/\(tkAt T s.i).at_=p)
section
variable{T:List Tk}{s:Ps}{ts:List Tk}
theorem qhk(h:Gd T s ts) : ∃ r,ts=tkAt T s.i::r/\((tkAt T s.i).bad=0->(tkAt T s.i).s.size≠0->r=qrF (T.drop (s.i+1))):=by
 have h1:=h.ts
 rw[WO h.lt,qhd h.lt,qrF] at h1
 split at h1
 ·rename_i hc
  refine⟨[],h1.symm,fun hb hs=>?_⟩
  rcases hc with hc|hc
  ·exact absurd hb hc
  ·exact absurd hc hs
 ·exact⟨_,h1.symm,fun _ _=>rfl⟩
theorem qsG(h:Gd T s ts):nx ts=if (tkAt T s.i).bad=0 then some (tkAt T s.i).s else none:=by
 obtain⟨r,h1,_⟩:=qhk h
 rw[h1]; rfl
theorem qc2(h:Gd T s ts){x:ByteArray}(hx:nx ts=some x):(tkAt T s.i).bad=0/\(tkAt T s.i).s=x/\nxR T s=x:=by
 rw[qsG h] at hx
 split at hx
 ·rename_i hb
  cases hx
  exact⟨hb,rfl,by simp[nxR,hb]⟩
 ·cases hx
theorem qhl(h:Gd T s ts)(hx:nx ts=none):(tkAt T s.i).bad≠0/\nxR T s=qS:=by
 rw[qsG h] at hx
 split at hx
 ·cases hx
 ·rename_i hb
  exact⟨hb,by simp[nxR,hb]⟩
theorem qhm{α : Type}(h:Gd T s ts)(c:Nat):failP (α := α) c ts = .er (tkAt T s.i).at_ (if (tkAt T s.i).bad=0 then c else (tkAt T s.i).bad):=by
 obtain⟨r,h1,_⟩:=qhk h
 rw[h1]; rfl
theorem qk7(h:Gd T s ts){c:Nat}(hc:c≠0):Er T (failS T c s) (tkAt T s.i).at_ (if (tkAt T s.i).bad=0 then c else (tkAt T s.i).bad):=by
 have e:failS T c s=⟨s.i,(tkAt T s.i).at_,if (tkAt T s.i).bad≠0 then (tkAt T s.i).bad else c⟩:=by simp[failS,h.e]
 rw[e]
 refine⟨h.lt,by split<;>assumption,.inl ⟨?_,rfl⟩⟩
 simp only
 by_cases hb:(tkAt T s.i).bad=0<;>simp[hb]
theorem qxq{i:Nat}(h:i<T.length):tkAt T i∈T:=by rw[<- qhd h]; exact Yt h
theorem qga(hw:WfT T)(h:Gd T s ts){x:ByteArray}(hx:nx ts=some x)(h0:x.size≠0):Gd T (takeS T s) ts.tail:=by
 obtain⟨h1,h2,h3⟩:=qc2 h hx
 obtain⟨r,h4,h5⟩:=qhk h
 have hlt:s.i+1<T.length:=by
  rcases Yd (s.i+1) T.length with h'|h'
  ·exact h'
  ·have:=(hw.last s.i (by have:=h.lt; omega)).1
   rw[h2] at this
   rw[this] at h0
   exact absurd rfl h0
 have e:takeS T s={ s with i:=s.i+1 }:=by simp[takeS,hlt]
 rw[e,h4]
 exact⟨h.e,h.a,hlt,(h5 h1 (by rw[h2]; exact h0)).symm⟩
theorem qqE(hw:WfT T){p c:Nat}(h:Er T s p c)(he:s.e=0):nxR T s=qS:=by
 rcases h.or with ⟨h1,_⟩|⟨_,h2,_⟩
 ·rw[he] at h1; exact absurd h1.symm h.c0
 ·have:(tkAt T s.i).bad≠0:=by rw[h2]; exact h.c0
  simp[nxR,this]
theorem qhn{p c k:Nat}(h:Er T s p c):Er T (failS T k s) p c/\(failS T k s).e≠0:=by
 unfold failS
 rcases h.or with ⟨h1,h2⟩|⟨h1,h2,h3⟩
 ·have:s.e≠0:=by rw[h1]; exact h.c0
  rw[if_pos this]
  exact⟨h,this⟩
 ·rw[if_neg (by simp[h1])]
  have hb:(tkAt T s.i).bad≠0:=by rw[h2]; exact h.c0
  rw[if_pos hb]
  exact⟨⟨h.lt,h.c0,.inl ⟨h2,h3⟩⟩,hb⟩
theorem qbI(hw:WfT T){p c:Nat}(h:Er T s p c){x:ByteArray}(hx:x≠qS):Er T (expectS T x s) p c/\(expectS T x s).e≠0:=by
 unfold expectS
 by_cases he:s.e=0
 ·have hn:=qqE hw h he
  have e:(if s.e=0/\nxR T s≠x then failS T 12 s else s)=failS T 12 s:=if_pos ⟨he,by rw[hn]; exact Yl hx⟩
  obtain⟨h1,h2⟩:=qhn (k:=12) h
  simp only[e]
  rw[if_neg h2]
  exact⟨h1,h2⟩
 ·have e:(if s.e=0/\nxR T s≠x then failS T 12 s else s)=s:=by simp[he]
  simp only[e]
  rw[if_neg he]
  exact⟨h,he⟩
theorem qu3(hw:WfT T){p c:Nat}(h:Er T s p c){x:ByteArray}(hx:x≠qS)(lv:Int):Er T (openS T x lv s) p c/\(openS T x lv s).e≠0:=by
 unfold openS
 by_cases hc:s.e=0/\nxR T s=x/\20<lv
 ·rw[if_pos hc]
  exact qbI hw (qhn h).1 hx
 ·rw[if_neg hc]
  exact qbI hw h hx
theorem qcL (hw:WfT T) (h:Gd T s ts) {x:ByteArray} (hx:x≠qS) (h0:x.size≠0):match qam 12 x ts with
  |.ok _ r=>Gd T (expectS T x s) r
  |.er p c=>Er T (expectS T x s) p c/\(expectS T x s).e≠0:=by
 obtain⟨r,h1,h2⟩:=qhk h
 by_cases hc:(tkAt T s.i).bad=0/\(tkAt T s.i).s=x
 ·have hn:nx ts=some x:=by rw[qsG h,if_pos hc.1,hc.2]
  have hR:=(qc2 h hn).2.2
  have e:expectS T x s=takeS T s:=by simp[expectS,hR,h.e]
  have ep:qam 12 x ts = .ok () ts.tail:=by rw[h1]; simp[qam,hc]
  rw[ep,e]
  exact qga hw h hn h0
 ·have hR:nxR T s≠x:=by
   unfold nxR
   split
   ·rename_i hb; exact fun e=>hc ⟨hb,e⟩
   ·exact Yl hx
  have ep:qam 12 x ts=failP 12 ts:=by rw[h1]; simp only[qam]; rw[if_neg hc]
  rw[ep,qhm h 12]
  have hf:=qk7 h (c:=12) (by decide)
  have hf0:(failS T 12 s).e≠0:=by
   rcases hf.or with ⟨q1,_⟩|⟨q1,_⟩
   ·rw[q1]; exact hf.c0
   ·exfalso
    have:(failS T 12 s).e≠0:=by
     simp only[failS,h.e]
     split
     ·rename_i q; exact absurd rfl q
     ·simp only; split<;>first|assumption|decide
    exact this q1
  have e:expectS T x s=failS T 12 s:=by
   have e1:(if s.e=0/\nxR T s≠x then failS T 12 s else s)=failS T 12 s:=if_pos ⟨h.e,hR⟩
   simp only[expectS,e1]
   rw[if_neg hf0]
  rw[e]
  exact⟨hf,hf0⟩
theorem qk8 (hw:WfT T) (h:Gd T s ts) {x:ByteArray} (hx:x≠qS) (h0:x.size≠0) (lv:Nat):match qbO 12 2 x lv ts with
  |.ok _ r=>Gd T (openS T x lv s) r
  |.er p c=>Er T (openS T x lv s) p c/\(openS T x lv s).e≠0:=by
 unfold qbO openS
 by_cases hc:nx ts=some x/\20<lv
 ·obtain⟨q1,q2,q3⟩:=qc2 h hc.1
  rw[if_pos hc,if_pos ⟨h.e,q3,by omega⟩,qhm h 2]
  have hf:=qk7 h (c:=2) (by decide)
  exact qbI hw hf hx
 ·have hn : ¬ (s.e=0/\nxR T s=x/\(20:Int)<lv):=by
   rintro ⟨_,q2,q3⟩
   refine hc ⟨?_,by omega⟩
   rw[qsG h]
   unfold nxR at q2
   split at q2
   ·rename_i hb; rw[if_pos hb,q2]
   ·exact absurd q2.symm hx
  rw[if_neg hc,if_neg hn]
  exact qcL hw h hx h0
end
end
section
open F
def NdD(d:V):Prop := ∃ (k n:Int) (s:ByteArray) (ks:D),d = .dat (.agg [.lit (.int .i64 k),.lit (.int .i64 n),.lit (.string s),ks])/\V.one (.dat ks)=true/\V.cells (.dat ks)=[.dat ks]
theorem qip(e:E):NdD e.node:=⟨_,_,_,_,rfl,by simp,by simp⟩
theorem qdZ:NdD qlv:=⟨_,_,_,_,rfl,rfl,rfl⟩
abbrev zob:Ob := .cells [.int 0,.int 0,.str ⟨#[]⟩,.dat (.lit (.slice none 0 0))]
abbrev sr1:D := .sl [.lit (.string ⟨#[124,124]⟩)] 1 true
abbrev sr2:D := .sl [.lit (.string ⟨#[38,38]⟩)] 1 true
abbrev sr4:D := .sl [.lit (.string ⟨#[60]⟩),.lit (.string ⟨#[60,61]⟩),.lit (.string ⟨#[62]⟩),.lit (.string ⟨#[62,61]⟩),.lit (.string ⟨#[61,61]⟩),.lit (.string ⟨#[33,61]⟩)] 6 true
abbrev sr5:D := .sl [.lit (.string ⟨#[43]⟩),.lit (.string ⟨#[45]⟩)] 2 true
abbrev sr6:D := .sl [.lit (.string ⟨#[42]⟩),.lit (.string ⟨#[47]⟩)] 2 true
abbrev qzI:List D:=[.lit (.slice none 0 0),sr1,sr2,.lit (.slice none 0 0),sr4,sr5,sr6]
abbrev qAd:D := .sl qzI 7 true
def qAe:Nat->D
 |1=>sr1|2=>sr2|4=>sr4|5=>sr5|6=>sr6|_ => .lit (.slice none 0 0)
def qjH(p:Nat):Prop:=p=1\/p=2\/p=4\/p=5\/p=6
theorem qt0{p:Nat}(hp:qjH p):qag 1 (.dat qAd) (p:Int)=some (.dat (.imm qzI p))/\cutCells qzI p 1=some [qAe p]:=by
 rcases hp with rfl|rfl|rfl|rfl|rfl<;>exact⟨rfl,rfl⟩
theorem qxR{p:Nat}(hp:qjH p)(x:ByteArray):Z tR (.call 196 [.dat (qAe p),.str x] [])=some (.ret (.bool (qhL p x).isSome) []):=by
 have key : ∀ l:List Bop,(l.find? fun o=>decide (o.str=x)).isSome=decide (x∈l.map Bop.str):=fun l=>by
  rw[Bool.eq_iff_iff,List.find?_isSome]
  simp only[decide_eq_true_eq,Yc]
 rcases hp with rfl|rfl|rfl|rfl|rfl
 ·exact (qgT (qai ([Bop.or].map Bop.str) true) (by decide) x).trans (by rw[<- key]; rfl)
 ·exact (qgT (qai ([Bop.and].map Bop.str) true) (by decide) x).trans (by rw[<- key]; rfl)
 ·exact (qgT (qai ([Bop.lt,.le,.gt,.ge,.eq,.ne].map Bop.str) true) (by decide) x).trans (by rw[<- key]; rfl)
 ·exact (qgT (qai ([Bop.add,.sub].map Bop.str) true) (by decide) x).trans (by rw[<- key]; rfl)
 ·exact (qgT (qai ([Bop.mul,.div].map Bop.str) true) (by decide) x).trans (by rw[<- key]; rfl)
theorem qxS(p:Nat):qhL p qS=none:=by
 unfold qhL
 rw[YB]
 intro o _
 cases o<;>decide
abbrev qta(lv p:Nat)(ex:Fr):Fr:=(0,.ptr 0 0)::(1,.int lv)::(2,.int p)::(6,.ptr 1 0)::(7,.dat qAd)::(8,.ptr 2 0)::ex
section
variable{T:List Tk}{s:Ps}{lv p:Nat}
theorem qjg (h:s.i<T.length) (hp:qjH p) (hend:s.e≠0\/qhL p (nxR T s)=none) {ex:Fr} (hex:ex=[]\/ex=[(51,.bool false)]) (k n:Int) (x:ByteArray) {ks:D} (h1:V.one (.dat ks)=true) (h2:V.cells (.dat ks)=[.dat ks]) :
  ∃ b,Z tR (.loop 1 F203l0 (qta lv p ex) [PO T s,zob,.cells [.int k,.int n,.str x,.dat ks]])=some (.out (.exit 0) (qta lv p [(35,.bool b)]) [PO T s,zob,.cells [.int k,.int n,.str x,.dat ks]]):=by
 refine⟨false,?_⟩
 have zn:=qcF h
 rw[qab]
 by_cases he0:s.e=0
 ·have he:decide (s.e=0)=true:=decide_eq_true he0
  have ho:qhL p (nxR T s)=none:=hend.resolve_left (fun h=>h he0)
  have zo:=qxR hp (nxR T s)
  rw[ho] at zo
  obtain⟨q1,q2⟩:=qt0 hp
  rcases hex with rfl|rfl<;>simp[qaa,qek,he,zn,zo,q1,q2,qbX,qaO,Wa]
 ·have he:decide (s.e=0)=false:=decide_eq_false he0
  rcases hex with rfl|rfl<;>simp[qaa,qek,he,qbX,qaO,Wa]
theorem qoC(h:s.i<T.length)(he:s.e≠0)(lv p:Nat):Z tR (.call 197 [.ptr 0 0,.int lv,.int p] [PO T s])=some (.ret qlv [PO T s]):=by
 refine Z_call (pf:=F197) rfl rfl ?_
 have he':decide (s.e=0)=false:=decide_eq_false he
 simp[F197,he',Wa]
def qyA(T:List Tk)(f:Nat)(args:List V)(s:Ps)(p c:Nat):Prop := ∃ s' d,NdD d/\Er T s' p c/\s'.e≠0/\Z tR (.call f args [PO T s])=some (.ret d [PO T s'])
theorem qq7{a c:Nat}(hp:qjH p)(hlv:lv<=100)(hx:qyA T 197 [.ptr 0 0,.int lv,.int ((p+1:Nat))] s a c):qyA T 203 [.ptr 0 0,.int lv,.int p] s a c:=by
 obtain⟨s',d,hd,her,hne,hz⟩:=hx
 obtain⟨k,n,x,ks,rfl,h1,h2⟩:=hd
 have hp9:p<=6:=by rcases hp with rfl|rfl|rfl|rfl|rfl<;>omega
 have w1:=qae ((p:Int)+1) (by omega)
 obtain⟨b,zl⟩:=qjg (lv:=lv) her.lt hp (.inl hne) (.inl rfl) k n x h1 h2
 refine⟨s',_,⟨k,n,x,ks,rfl,h1,h2⟩,her,hne,?_⟩
 refine Z_call (pf:=F203) rfl rfl ?_
 simp only[Wn,Wd] at hz
 simp[F203,hz,w1,zl,h1,h2,Wa]
theorem qiq{a c:Nat}(hw:WfT T)(hlv:lv<=100) : ∀ (k p:Nat),p+k=8->1<=p->Er T s a c->qyA T 197 [.ptr 0 0,.int lv,.int p] s a c
 |k,p,hk,h1,her=>by
  by_cases he:s.e=0
  ·have hn:=qqE hw her he
   have zn:=qcF her.lt
   rw[hn] at zn
   have zf:=qhQ her.lt 12
   obtain⟨f1,f2⟩:=qhn (k:=12) her
   have he':decide (s.e=0)=true:=decide_eq_true he
   simp only[Wd] at zf
   simp only[qS,bs] at zn
   cases k with
   |zero=>
    obtain rfl:p=8:=by omega
    refine⟨_,qlv,qdZ,f1,f2,?_⟩
    refine Z_call (pf:=F197) rfl rfl ?_
    simp[F197,he',zn,zf,qah,Wa]
   |succ k=>
    by_cases hp7:p=7
    ·subst hp7
     obtain⟨s',d,hd,her',hne,hz⟩:=qiq hw hlv k 8 (by omega) (by omega) her
     obtain⟨k',n',x',ks,rfl,g1,g2⟩:=hd
     refine⟨s',_,⟨k',n',x',ks,rfl,g1,g2⟩,her',hne,?_⟩
     refine Z_call (pf:=F197) rfl rfl ?_
     simp only[Wd] at hz
     simp[F197,he',zn,hz,g1,g2,qah,Wa]
    ·by_cases hp3:p=3
     ·subst hp3
      obtain⟨s',d,hd,her',hne,hz⟩:=qq7 (p:=4) (.inr (.inr (.inl rfl))) hlv (qiq hw hlv (k-1) 5 (by omega) (by omega) her)
      obtain⟨k',n',x',ks,rfl,g1,g2⟩:=hd
      refine⟨s',_,⟨k',n',x',ks,rfl,g1,g2⟩,her',hne,?_⟩
      refine Z_call (pf:=F197) rfl rfl ?_
      simp only[Wd] at hz
      simp[F197,he',zn,hz,g1,g2,qah,Wa]
     ·have hpb:qjH p:=by unfold qjH; omega
      obtain⟨s',d,hd,her',hne,hz⟩:=qq7 hpb hlv (qiq hw hlv k (p+1) (by omega) (by omega) her)
      obtain⟨k',n',x',ks,rfl,g1,g2⟩:=hd
      refine⟨s',_,⟨k',n',x',ks,rfl,g1,g2⟩,her',hne,?_⟩
      refine Z_call (pf:=F197) rfl rfl ?_
      have p7:(p:Int)<7:=by omega
      have p3 : ¬ p=3:=hp3
      have p7' : ¬ p=7:=hp7
      have p3i : ¬ (p:Int)=3:=by omega
      have p7i : ¬ (p:Int)=7:=by omega
      simp[F197,he',zn,hz,g1,g2,p7,p3,p7',p3i,p7i,qah,Wa]
  ·exact⟨s,qlv,qdZ,her,he,qoC her.lt he lv p⟩
end
end
section
open F
def qyu(T:List Tk)(x:Rz E)(d:V)(s':Ps):Prop:=match x with
 |.ok e r=>d=e.node/\Gd T s' r
 |.er a c=>Er T s' a c/\NdD d
def qqB(T:List Tk)(f:Nat)(args:List V)(s:Ps)(x:Rz E):Prop := ∃ s' d,qyu T x d s'/\Z tR (.call f args [PO T s])=some (.ret d [PO T s'])
theorem qhj{T:List Tk}{s:Ps}{ts:List Tk}(h:Gd T s ts)(hx:nx ts=none)(c:Nat){α : Type}:Er T s (tkAt T s.i).at_ (tkAt T s.i).bad/\failP (α := α) c ts = .er (tkAt T s.i).at_ (tkAt T s.i).bad:=by
 obtain⟨h1,h2⟩:=qhl h hx
 refine⟨⟨h.lt,h1,.inr ⟨h.e,rfl,rfl⟩⟩,?_⟩
 rw[qhm h c,if_neg h1]
theorem qfa{T:List Tk}{x:Rz E}{d:V}{s':Ps}(h:qyu T x d s'):s'.i<T.length/\NdD d:=by
 cases x with
 |ok e r=>exact⟨h.2.lt,by rw[h.1]; exact qip e⟩
 |er a c=>exact⟨h.1.lt,h.2⟩
theorem qqC{T:List Tk}(hw:WfT T){s:Ps}{a c p:Nat}(h:Er T s a c):s.e≠0\/qhL p (nxR T s)=none:=by
 by_cases he:s.e=0
 ·right; rw[qqE hw h he]; exact qxS p
 ·exact .inl he
def qmr(T:List Tk)(n:Nat):Prop := ∀ p lv s ts x,1<=p->p<=8->lv<=20->Gd T s ts->qak 12 2 true n p lv ts=some x->qqB T 197 [.ptr 0 0,.int (lv:Nat),.int (p:Nat)] s x
def qyv(T:List Tk)(n:Nat):Prop := ∀ p lv s ts x,qjH p->lv<=20->Gd T s ts->qak 12 2 true n p lv ts=some x->qqB T 203 [.ptr 0 0,.int (lv:Nat),.int (p:Nat)] s x
def qyw(T:List Tk)(n:Nat):Prop := ∀ lv s ts x,lv<=20->Gd T s ts->qa6 12 2 true n lv ts=some x->qqB T 199 [.ptr 0 0,.int (lv:Nat)] s x
def qsE(T:List Tk)(n:Nat):Prop := ∀ p lv s ts e x ex,qjH p->lv<=20->Gd T s ts->(ex=[]\/ex=[(51,.bool false)])->qbR 12 2 true n p lv e ts=some x ->
 ∃ s' k n' y ks t v G,qyu T x (.dat (.agg [.lit (.int .i64 k),.lit (.int .i64 n'),.lit (.string y),ks])) s'/\V.one (.dat ks)=true/\V.cells (.dat ks)=[.dat ks] /\
  Z tR (.loop 1 F203l0 (qta lv p ex) [PO T s,zob,.cells [.int e.kind,.int e.num,.str e.str,.dat e.kids]])=some (.out (.exit 0) (qta lv p [(t,.bool v)]) (PO T s'::zob :: .cells [.int k,.int n',.str y,.dat ks]::G))
section
variable{T:List Tk}
theorem qqD(hw:WfT T){n:Nat}(ihe:qmr T n)(ihl:qsE T n):qsE T (n+1):=by
 intro p lv s ts e x ex hp hlv hg hex hx
 have hp9:p<=6:=by rcases hp with rfl|rfl|rfl|rfl|rfl<;>omega
 rw[qbR] at hx
 cases hn:nx ts with
 |none=>
  rw[hn] at hx
  simp only at hx
  have hp37 : ¬ (p=3\/p=7):=by rcases hp with rfl|rfl|rfl|rfl|rfl<;>omega
  rw[if_neg hp37] at hx
  obtain⟨g1,g2⟩:=qhj hg hn 12 (α := E)
  rw[g2] at hx
  cases hx
  obtain⟨b,zl⟩:=qjg (lv:=lv) hg.lt hp (qqC hw g1) hex e.kind e.num e.str (ks:=e.kids) (by simp) (by simp)
  exact⟨s,_,_,_,_,35,b,[],⟨g1,qip e⟩,by simp,by simp,zl⟩
 |some y=>
  rw[hn] at hx
  simp only at hx
  obtain⟨b1,b2,b3⟩:=qc2 hg hn
  cases ho:qhL p y with
  |none=>
   rw[ho] at hx
   cases hx
   obtain⟨b,zl⟩:=qjg (lv:=lv) hg.lt hp (.inr (by rw[b3]; exact ho)) hex e.kind e.num e.str (ks:=e.kids) (by simp) (by simp)
   exact⟨s,_,_,_,_,35,b,[],⟨rfl,hg⟩,by simp,by simp,zl⟩
  |some o=>
   rw[ho] at hx
   simp only at hx
   have hoy:o.str=y:=by
    have:=List.find?_some ho
    simpa using this
   have hy0:y.size≠0:=by rw[<- hoy]; cases o<;>decide
   have hgt:=qga hw hg hn hy0
   cases hq:qak 12 2 true n (p+1) lv ts.tail with
   |none=>rw[hq] at hx; cases hx
   |some z=>
    rw[hq] at hx
    obtain⟨s',d,hpost,hz⟩:=ihe (p+1) lv (takeS T s) ts.tail z (by omega) (by omega) hlv hgt hq
    obtain⟨hs',hnd⟩:=qfa hpost
    have zn:=qcF hg.lt
    have zt:=qem hg.lt hw.len
    have zo:=qxR hp (nxR T s)
    rw[b3,ho] at zo
    rw[b3] at zn
    have he:decide (s.e=0)=true:=decide_eq_true hg.e
    obtain⟨q1,q2⟩:=qt0 hp
    have w1:=qae ((p:Int)+1) (by omega)
    simp only[Wn,Wd] at hz
    have round : ∀ (k n':Int) (y':ByteArray) (ks:D),d = .dat (.agg [.lit (.int .i64 k),.lit (.int .i64 n'),.lit (.string y'),ks])->V.one (.dat ks)=true->V.cells (.dat ks)=[.dat ks] ->
      Z tR (.loop 1 F203l0 (qta lv p ex) [PO T s,zob,.cells [.int e.kind,.int e.num,.str e.str,.dat e.kids]]) =
      if p=4 then some (.out (.exit 0) (qta lv p [(51,.bool true)]) [PO T s',zob,.cells [.int 14,.int 0,.str y,.dat (.sl [.lit (.int .i64 e.kind),.lit (.int .i64 e.num),.lit (.string e.str),e.kids,.lit (.int .i64 k),.lit (.int .i64 n'),.lit (.string y'),ks] 2 true)],.cells [.int k,.int n',.str y',.dat ks]])
      else Z tR (.loop 1 F203l0 (qta lv p [(51,.bool false)]) [PO T s',zob,.cells [.int 14,.int 0,.str y,.dat (.sl [.lit (.int .i64 e.kind),.lit (.int .i64 e.num),.lit (.string e.str),e.kids,.lit (.int .i64 k),.lit (.int .i64 n'),.lit (.string y'),ks] 2 true)]]):=by
     intro k n' y' ks hd g1 g2
     rw[hd] at hz
     conv=>lhs; rw[qab]
     by_cases h4:p=4
     ·have h4':decide (p=4)=true:=decide_eq_true h4
      have h4i:decide ((p:Int)=4)=true:=decide_eq_true (by omega)
      rw[if_pos h4]
      rcases hex with rfl|rfl<;>simp[qaa,qek,he,zn,zt,zo,hz,q1,q2,w1,g1,g2,h4',h4i,qbX,qaO,Wa]
     ·have h4':decide (p=4)=false:=decide_eq_false h4
      have h4i:decide ((p:Int)=4)=false:=decide_eq_false (by omega)
      rw[if_neg h4]
      rcases hex with rfl|rfl
      ·simp[qaa,qek,he,zn,zt,zo,hz,q1,q2,w1,g1,g2,h4',h4i,qbX,qaO,Wa]
       exact qbP (by simp[g1,g2,Wa])
      ·simp[qaa,qek,he,zn,zt,zo,hz,q1,q2,w1,g1,g2,h4',h4i,qbX,qaO,Wa]
       exact qbP (by simp[g1,g2,Wa])
    cases z with
    |er a c=>
     cases hx
     obtain⟨her,_⟩:=hpost
     obtain⟨k,n',y',ks,hd,g1,g2⟩:=hnd
     have hr:=round k n' y' ks hd g1 g2
     by_cases h4:p=4
     ·rw[if_pos h4] at hr
      exact⟨s',_,_,_,_,51,true,_,⟨her,_,_,_,_,rfl,rfl,rfl⟩,rfl,rfl,hr⟩
     ·rw[if_neg h4] at hr
      obtain⟨b,zl⟩:=qjg (lv:=lv) her.lt hp (qqC hw her) (.inr rfl) 14 0 y (ks := .sl [.lit (.int .i64 e.kind),.lit (.int .i64 e.num),.lit (.string e.str),e.kids,.lit (.int .i64 k),.lit (.int .i64 n'),.lit (.string y'),ks] 2 true) rfl rfl
      exact⟨s',_,_,_,_,35,b,[],⟨her,_,_,_,_,rfl,rfl,rfl⟩,rfl,rfl,hr.trans zl⟩
    |ok e' r=>
     simp only at hx
     obtain⟨hd,hg'⟩:=hpost
     have hr:=round e'.kind e'.num e'.str e'.kids hd (by simp) (by simp)
     by_cases h4:p=4
     ·rw[if_pos h4] at hr hx
      cases hx
      refine⟨s',_,_,_,_,51,true,_,⟨?_,hg'⟩,?_,?_,hr⟩
      ·simp[E.node,hoy]
      ·rfl
      ·rfl
     ·rw[if_neg h4] at hr hx
      obtain⟨s2,k2,n2,y2,ks2,t2,v2,G,k3,k4,k5,k6⟩:=ihl p lv s' r (.bin true o e e') x [(51,.bool false)] hp hlv hg' (.inr rfl) hx
      refine⟨s2,k2,n2,y2,ks2,t2,v2,G,k3,k4,k5,hr.trans ?_⟩
      rw[<- k6]
      simp[hoy]
theorem qsF(hw:WfT T){n:Nat}(ihe:qmr T n)(ihl:qsE T n):qyv T (n+1):=by
 intro p lv s ts x hp hlv hg hx
 have hp9:p<=6:=by rcases hp with rfl|rfl|rfl|rfl|rfl<;>omega
 have hp1:1<=p:=by rcases hp with rfl|rfl|rfl|rfl|rfl<;>omega
 have hp37:p≠3/\p≠7:=by rcases hp with rfl|rfl|rfl|rfl|rfl<;>omega
 rw[qak,if_neg (by rintro (⟨h,_⟩|⟨h,_⟩); exact hp37.1 h; exact hp37.2 h),if_pos (by omega)] at hx
 cases hq:qak 12 2 true n (p+1) lv ts with
 |none=>rw[hq] at hx; cases hx
 |some z=>
  rw[hq] at hx
  obtain⟨s',d,hpost,hz⟩:=ihe (p+1) lv s ts z (by omega) (by omega) hlv hg hq
  obtain⟨hs',hnd⟩:=qfa hpost
  have w1:=qae ((p:Int)+1) (by omega)
  simp only[Wn,Wd] at hz
  have fin : ∀ (k n':Int) (y':ByteArray) (ks:D) (s2:Ps) (k2 n2:Int) (y2:ByteArray) (ks2:D) (t:Nat) (v:Bool) (G:S),d = .dat (.agg [.lit (.int .i64 k),.lit (.int .i64 n'),.lit (.string y'),ks])->V.one (.dat ks)=true->V.cells (.dat ks)=[.dat ks]->V.one (.dat ks2)=true->V.cells (.dat ks2)=[.dat ks2] ->
    Z tR (.loop 1 F203l0 (qta lv p []) [PO T s',zob,.cells [.int k,.int n',.str y',.dat ks]])=some (.out (.exit 0) (qta lv p [(t,.bool v)]) (PO T s2::zob :: .cells [.int k2,.int n2,.str y2,.dat ks2]::G)) ->
    Z tR (.call 203 [.ptr 0 0,.int lv,.int p] [PO T s])=some (.ret (.dat (.agg [.lit (.int .i64 k2),.lit (.int .i64 n2),.lit (.string y2),ks2])) [PO T s2]):=by
   intro k n' y' ks s2 k2 n2 y2 ks2 t v G hd g1 g2 g3 g4 zl
   rw[hd] at hz
   refine Z_call (pf:=F203) rfl rfl ?_
   simp[F203,hz,w1,zl,g1,g2,g3,g4,Wa]
  cases z with
  |er a c=>
   cases hx
   obtain⟨her,_⟩:=hpost
   obtain⟨k,n',y',ks,hd,g1,g2⟩:=hnd
   obtain⟨b,zl⟩:=qjg (lv:=lv) her.lt hp (qqC hw her) (.inl rfl) k n' y' g1 g2
   exact⟨s',_,⟨her,_,_,_,_,rfl,g1,g2⟩,fin k n' y' ks s' k n' y' ks 35 b [] hd g1 g2 g1 g2 zl⟩
  |ok e r=>
   obtain⟨hd,hg'⟩:=hpost
   simp only at hx
   obtain⟨s2,k2,n2,y2,ks2,t2,v2,G,k3,k4,k5,k6⟩:=ihl p lv s' r e x [] hp hlv hg' (.inl rfl) hx
   exact⟨s2,_,k3,fin _ _ _ _ s2 k2 n2 y2 ks2 t2 v2 G hd (by simp) (by simp) k4 k5 k6⟩
end
end
section
open F
section
variable{T:List Tk}
theorem qin{lv:Nat}{x:ByteArray}{ts r:List Tk}{u:Unit}(h:qbO 12 2 x lv ts = .ok u r):lv<=20:=by
 unfold qbO at h
 split at h
 ·cases ts<;>cases h
 ·rename_i hc
  have:nx ts=some x:=by
   cases ts with
   |nil=>cases h
   |cons t q=>
    simp only[qam] at h
    split at h
    ·rename_i hx; simp[nx,hx]
    ·cases h
  exact YC.1 fun hl=>hc ⟨this,hl⟩
theorem qs5(hw:WfT T){n:Nat}(ihe:qmr T n):qyw T (n+1):=by
 intro lv s ts x hlv hg hx
 have w1:=qae ((lv:Int)+1) (by omega)
 have zo:=qma hg.lt hw.len (bs [91]) (lv+1)
 have go:=qk8 hw hg (x:=bs [91]) (by decide) (by decide) (lv+1)
 rw[qa6] at hx
 have fin : ∀ (s1 s2 s3:Ps) (k n':Int) (y':ByteArray) (ks:D),s1=openS T (bs [91]) (lv+1) s->s3=expectS T (bs [93]) s2->s2.i<T.length->V.one (.dat ks)=true->V.cells (.dat ks)=[.dat ks] ->
   Z tR (.call 197 [.ptr 0 0,.int ((lv:Int)+1),.int 1] [PO T s1])=some (.ret (.dat (.agg [.lit (.int .i64 k),.lit (.int .i64 n'),.lit (.string y'),ks])) [PO T s2]) ->
   Z tR (.call 199 [.ptr 0 0,.int lv] [PO T s])=some (.ret (.dat (.agg [.lit (.int .i64 k),.lit (.int .i64 n'),.lit (.string y'),ks])) [PO T s3]):=by
  intro s1 s2 s3 k n' y' ks h1 h3 hl g1 g2 hz
  have ze:=qbH hl hw.len (bs [93])
  rw[<- h1] at zo
  rw[<- h3] at ze
  refine Z_call (pf:=F199) rfl rfl ?_
  simp only[bs] at zo ze
  simp[F199,zo,ze,hz,w1,g1,g2,Wa]
 cases ho:qbO 12 2 (bs [91]) (lv+1) ts with
 |er a c=>
  rw[ho] at hx go
  cases hx
  obtain⟨g1,g2⟩:=go
  simp only[Wn,Wd] at g1 g2
  have he:=qoC g1.lt g2 (lv+1) 1
  simp only[Wn,Wd] at he
  obtain⟨g3,g4⟩:=qbI hw g1 (x:=bs [93]) (by decide)
  exact⟨_,_,⟨g3,qdZ⟩,fin _ _ _ 0 0 ⟨#[]⟩ _ rfl rfl g1.lt rfl rfl he⟩
 |ok u r=>
  rw[ho] at hx go
  simp only at hx go
  simp only[Wn,Wd] at go
  have hlv':=qin ho
  cases hq:qak 12 2 true n 1 (lv+1) r with
  |none=>rw[hq] at hx; cases hx
  |some z=>
   rw[hq] at hx
   obtain⟨s2,d,hpost,hz⟩:=ihe 1 (lv+1) _ r z (by omega) (by omega) hlv' go hq
   simp only[Wn,Wd] at hz
   cases z with
   |er a c=>
    cases hx
    obtain⟨her,k,n',y',ks,rfl,g1,g2⟩:=hpost
    obtain⟨g3,g4⟩:=qbI hw her (x:=bs [93]) (by decide)
    exact⟨_,_,⟨g3,_,_,_,_,rfl,g1,g2⟩,fin _ _ _ k n' y' ks rfl rfl her.lt g1 g2 hz⟩
   |ok e r'=>
    obtain⟨rfl,hg2⟩:=hpost
    have gx:=qcL hw hg2 (x:=bs [93]) (by decide) (by decide)
    simp only at hx
    have hf:=fin _ s2 _ e.kind e.num e.str e.kids rfl rfl hg2.lt (by simp) (by simp) hz
    cases hxp:qam 12 (bs [93]) r' with
    |er a c=>
     rw[hxp] at hx gx
     cases hx
     exact⟨_,_,⟨gx.1,qip e⟩,hf⟩
    |ok u' r''=>
     rw[hxp] at hx gx
     cases hx
     exact⟨_,_,⟨rfl,gx⟩,hf⟩
theorem qvD (hw:WfT T) {n:Nat} (ihe:qmr T n) {lv p:Nat} (hp:p=3\/p=7) {s:Ps} {ts:List Tk} {x:Rz E} (hlv:lv<=20) (hg:Gd T s ts)
  (hx:(match qbO 12 2 (ustr (p==7)) (lv+1) ts with
   |.er i c=>some (.er i c)
   |.ok _ r=>match qak 12 2 true n p (lv+1) r with
    |some (.ok e r')=>some (.ok (.un true (p==7) e) r')
    |x=>x)=some x):qqB T 202 [.ptr 0 0,.str (ustr (p==7)),.int lv,.int p] s x:=by
 have w1:=qae ((lv:Int)+1) (by omega)
 have hq0:ustr (p==7)≠qS/\(ustr (p==7)).size≠0:=by rcases hp with rfl|rfl<;>decide
 have zo:=qma hg.lt hw.len (ustr (p==7)) (lv+1)
 have go:=qk8 hw hg hq0.1 hq0.2 (lv+1)
 have fin : ∀ (s1 s2:Ps) (k n':Int) (y':ByteArray) (ks:D),s1=openS T (ustr (p==7)) (lv+1) s->V.one (.dat ks)=true->V.cells (.dat ks)=[.dat ks] ->
   Z tR (.call 197 [.ptr 0 0,.int ((lv:Int)+1),.int p] [PO T s1])=some (.ret (.dat (.agg [.lit (.int .i64 k),.lit (.int .i64 n'),.lit (.string y'),ks])) [PO T s2]) ->
   Z tR (.call 202 [.ptr 0 0,.str (ustr (p==7)),.int lv,.int p] [PO T s])=some (.ret (.dat (.agg [.lit (.int .i64 13),.lit (.int .i64 0),.lit (.string (ustr (p==7))),.sl [.lit (.int .i64 k),.lit (.int .i64 n'),.lit (.string y'),ks] 1 true])) [PO T s2]):=by
  intro s1 s2 k n' y' ks h1 g1 g2 hz
  rw[<- h1] at zo
  refine Z_call (pf:=F202) rfl rfl ?_
  simp[F202,zo,hz,w1,g1,g2,Wa]
 cases ho:qbO 12 2 (ustr (p==7)) (lv+1) ts with
 |er a c=>
  rw[ho] at hx go
  cases hx
  obtain⟨g1,g2⟩:=go
  simp only[Wn,Wd] at g1 g2
  have he:=qoC g1.lt g2 (lv+1) p
  simp only[Wn,Wd] at he
  exact⟨_,_,⟨g1,_,_,_,_,rfl,rfl,rfl⟩,fin _ _ 0 0 ⟨#[]⟩ _ rfl rfl rfl he⟩
 |ok u r=>
  rw[ho] at hx go
  simp only at hx go
  simp only[Wn,Wd] at go
  have hlv':=qin ho
  cases hq:qak 12 2 true n p (lv+1) r with
  |none=>rw[hq] at hx; cases hx
  |some z=>
   rw[hq] at hx
   obtain⟨s2,d,hpost,hz⟩:=ihe p (lv+1) _ r z (by omega) (by omega) hlv' go hq
   simp only[Wn,Wd] at hz
   cases z with
   |er a c=>
    cases hx
    obtain⟨her,k,n',y',ks,rfl,g1,g2⟩:=hpost
    exact⟨_,_,⟨her,_,_,_,_,rfl,rfl,rfl⟩,fin _ _ k n' y' ks rfl g1 g2 hz⟩
   |ok e r'=>
    obtain⟨rfl,hg2⟩:=hpost
    cases hx
    exact⟨_,_,⟨rfl,hg2⟩,fin _ s2 e.kind e.num e.str e.kids rfl (by simp) (by simp) hz⟩
end
end
section
open F
section
variable{T:List Tk}
theorem qm1{s:ByteArray}{p:UInt8->Bool}(h:qaj p s=true):s.size≠0:=by
 intro h0
 have:s[0]?=none:=getElem?_neg s 0 (by omega)
 simp[qaj,this] at h
theorem qef{s x:ByteArray}(h:s∈fieldNames)(hx:x∉fieldNames):s≠x:=fun e=>hx (e ▸ h)
theorem qpU (hw:WfT T) {n:Nat} (ihe:qmr T n) (ihi:qyw T n) {lv:Nat} {s:Ps} {ts:List Tk} {x:Rz E} (hlv:lv<=20) (hg:Gd T s ts) (hx:qak 12 2 true (n+1) 8 lv ts=some x) :
  qqB T 197 [.ptr 0 0,.int lv,.int ((8:Nat))] s x:=by
 have he:decide (s.e=0)=true:=decide_eq_true hg.e
 have zn:=qcF hg.lt
 rw[qak,if_neg (by rintro (⟨h,_⟩|⟨h,_⟩)<;>omega),if_neg (by omega)] at hx
 cases hn:nx ts with
 |none=>
  obtain⟨b1,b2⟩:=qhl hg hn
  obtain⟨g1,g2⟩:=qhj hg hn 12 (α := E)
  rw[hn] at hx
  simp only at hx
  rw[g2] at hx
  cases hx
  rw[b2] at zn
  have zf:=qhQ hg.lt 12
  simp only[Wd] at zf
  simp only[qS,bs] at zn
  refine⟨_,qlv,⟨(qhn (k:=12) g1).1,qdZ⟩,?_⟩
  refine Z_call (pf:=F197) rfl rfl ?_
  simp[F197,he,zn,zf,qah,Wa]
 |some y=>
  obtain⟨b1,b2,b3⟩:=qc2 hg hn
  rw[b3] at zn
  rw[hn] at hx
  simp only at hx
  have zt:=qem hg.lt hw.len
  have htok:=hw.tok _ (qxq hg.lt)
  have hyq:=htok.q b1
  have hydig:=htok.dig b1
  rw[b2] at hyq hydig
  have n63 : ¬ y=⟨#[63]⟩:=hyq
  by_cases c1:qaj qal y=true
  ·-- a number
   rw[if_pos c1] at hx
   cases hx
   obtain⟨d1,d2,d3⟩:=hydig c1
   have y0:=qm1 c1
   have hgt:=qga hw hg hn y0
   have zv:=qq6 d1 d3
   have hv:qtW y.data.toList=digV y.data.toList:=by rw[qtW,if_neg (by omega)]
   rw[hv] at zv
   obtain⟨c,hc⟩ : ∃ c,y[0]?=some c:=by
    cases h:y[0]? with
    |none=>simp[qaj,h] at c1
    |some c=>exact⟨c,rfl⟩
   have zd:=qd6 c
   have hcd:qal c=true:=by simpa [qaj,hc] using c1
   have ny : ∀ z:ByteArray,qaj qal z=false -> ¬ y=z:=fun z hz e=>by rw[e,hz] at c1; cases c1
   have n40:=ny ⟨#[40]⟩ (by decide)
   have n0:=ny ⟨#[]⟩ (by decide)
   refine⟨takeS T s,_,⟨rfl,hgt⟩,?_⟩
   refine Z_call (pf:=F197) rfl rfl ?_
   simp[F197,he,zn,zt,zv,zd,hc,hcd,n40,n0,n63,qah,ByteArray.toList_eq,Wa]
  ·rw[if_neg c1] at hx
   have first:y.size≠0 -> ∃ c,y[0]?=some c/\qal c=false:=fun h0=>by
    have h:(y[0]?).isSome=true:=by
     rw[getElem?_pos y 0 (by omega)]; rfl
    cases hc:y[0]? with
    |none=>rw[hc] at h; cases h
    |some c=>
     refine⟨c,rfl,?_⟩
     simp only[qaj,hc] at c1
     simpa using c1
   have take:y.size≠0->Gd T (takeS T s) ts.tail:=qga hw hg hn
   by_cases c2:y=bs [116,114,117,101]
   ·rw[if_pos c2] at hx
    cases hx
    subst c2
    obtain⟨c,hc,hcd⟩:=first (by decide)
    have zd:=qd6 c
    refine⟨takeS T s,_,⟨rfl,take (by decide)⟩,?_⟩
    refine Z_call (pf:=F197) rfl rfl ?_
    simp only[bs] at zn hc
    simp[F197,he,zn,zt,zd,hc,hcd,qah,Wa]
   ·rw[if_neg c2] at hx
    by_cases c3:y=bs [102,97,108,115,101]
    ·rw[if_pos c3] at hx
     cases hx
     subst c3
     obtain⟨c,hc,hcd⟩:=first (by decide)
     have zd:=qd6 c
     refine⟨takeS T s,_,⟨rfl,take (by decide)⟩,?_⟩
     refine Z_call (pf:=F197) rfl rfl ?_
     simp only[bs] at zn hc
     simp[F197,he,zn,zt,zd,hc,hcd,qah,Wa]
    ·rw[if_neg c3] at hx
     by_cases c4:y=bs [115,101,108,102]\/y=bs [111,116,104,101,114]\/y=bs [116,105,99,107]
     ·rw[if_pos c4] at hx
      cases hx
      have y0:y.size≠0:=by rcases c4 with h|h|h<;>rw[h]<;>decide
      obtain⟨c,hc,hcd⟩:=first y0
      have zd:=qd6 c
      refine⟨takeS T s,_,⟨rfl,take y0⟩,?_⟩
      refine Z_call (pf:=F197) rfl rfl ?_
      rcases c4 with h|h|h
      all_goals
       subst h
       simp only[bs] at zn hc
       simp[F197,he,zn,zt,zd,hc,hcd,bs,qah,Wa]
     ·rw[if_neg c4] at hx
      simp only[not_or] at c4
      have m2 : ¬ y=⟨#[116,114,117,101]⟩:=c2
      have m3 : ¬ y=⟨#[102,97,108,115,101]⟩:=c3
      have m4 : ¬ y=⟨#[115,101,108,102]⟩:=c4.1
      have m5 : ¬ y=⟨#[111,116,104,101,114]⟩:=c4.2.1
      have m6 : ¬ y=⟨#[116,105,99,107]⟩:=c4.2.2
      have zfi:=qgU y
      have zre:=qfJ y
      by_cases c5:y∈fieldNames
      ·rw[if_pos c5] at hx
       have y0:y.size≠0:=by
        simp only[fieldNames,Ws,WA,or_false] at c5
        rcases c5 with h|h|h|h|h|h|h|h<;>rw[h]<;>decide
       have n40 : ¬ y=⟨#[40]⟩:=qef c5 (by decide)
       have n0 : ¬ y=⟨#[]⟩:=qef c5 (by decide)
       obtain⟨c,hc,hcd⟩:=first y0
       have zd:=qd6 c
       cases hq:qa6 12 2 true n lv ts.tail with
       |none=>rw[hq] at hx; cases hx
       |some z=>
        rw[hq] at hx
        obtain⟨s2,d,hpost,hz⟩:=ihi lv _ _ z hlv (take y0) hq
        have fin : ∀ (k n':Int) (y':ByteArray) (ks:D),d = .dat (.agg [.lit (.int .i64 k),.lit (.int .i64 n'),.lit (.string y'),ks])->V.one (.dat ks)=true->V.cells (.dat ks)=[.dat ks] ->
          Z tR (.call 197 [.ptr 0 0,.int lv,.int ((8:Nat))] [PO T s])=some (.ret (.dat (.agg [.lit (.int .i64 11),.lit (.int .i64 0),.lit (.string y),.sl [.lit (.int .i64 k),.lit (.int .i64 n'),.lit (.string y'),ks] 1 true])) [PO T s2]):=by
         intro k n' y' ks hd g1 g2
         rw[hd] at hz
         refine Z_call (pf:=F197) rfl rfl ?_
         simp[F197,he,zn,zt,zd,hc,hcd,zfi,c5,hz,g1,g2,n40,n0,n63,m2,m3,m4,m5,m6,qah,Wa]
        cases z with
        |er a c=>
         cases hx
         obtain⟨her,k,n',y',ks,rfl,g1,g2⟩:=hpost
         exact⟨s2,_,⟨her,_,_,_,_,rfl,rfl,rfl⟩,fin k n' y' ks rfl g1 g2⟩
        |ok e r=>
         obtain⟨rfl,hg2⟩:=hpost
         cases hx
         exact⟨s2,_,⟨rfl,hg2⟩,fin e.kind e.num e.str e.kids rfl (by simp) (by simp)⟩
      ·rw[if_neg c5] at hx
       by_cases c6:qaj qaG y=true/\y∉wordNames
       ·rw[if_pos c6] at hx
        cases hx
        have y0:=qm1 c6.1
        obtain⟨c,hc,hcd⟩:=first y0
        have zd:=qd6 c
        have zl:=qeM c
        have hcl:qaG c=true:=by simpa [qaj,hc] using c6.1
        have ny : ∀ z:ByteArray,qaj qaG z=false -> ¬ y=z:=fun z hz e=>by have:=c6.1; rw[e,hz] at this; cases this
        have n40:=ny ⟨#[40]⟩ (by decide)
        have n0:=ny ⟨#[]⟩ (by decide)
        refine⟨takeS T s,_,⟨rfl,take y0⟩,?_⟩
        refine Z_call (pf:=F197) rfl rfl ?_
        simp[F197,he,zn,zt,zd,zl,hc,hcd,hcl,zfi,zre,c5,c6.2,n40,n0,n63,m2,m3,m4,m5,m6,qah,Wa]
       ·rw[if_neg c6] at hx
        by_cases c7:y=bs [40]
        ·-- parentheses
         subst c7
         have w1:=qae ((lv:Int)+1) (by omega)
         have zo:=qma hg.lt hw.len (bs [40]) (lv+1)
         have go:=qk8 hw hg (x:=bs [40]) (by decide) (by decide) (lv+1)
         have fin : ∀ (s1 s2 s3:Ps) (k n':Int) (y':ByteArray) (ks:D),s1=openS T (bs [40]) (lv+1) s->s3=expectS T (bs [41]) s2->s2.i<T.length->V.one (.dat ks)=true->V.cells (.dat ks)=[.dat ks] ->
           Z tR (.call 197 [.ptr 0 0,.int ((lv:Int)+1),.int 1] [PO T s1])=some (.ret (.dat (.agg [.lit (.int .i64 k),.lit (.int .i64 n'),.lit (.string y'),ks])) [PO T s2]) ->
           Z tR (.call 197 [.ptr 0 0,.int lv,.int ((8:Nat))] [PO T s])=some (.ret (.dat (.agg [.lit (.int .i64 k),.lit (.int .i64 n'),.lit (.string y'),ks])) [PO T s3]):=by
          intro s1 s2 s3 k n' y' ks h1 h3 hl g1 g2 hz
          have ze:=qbH hl hw.len (bs [41])
          rw[<- h1] at zo
          rw[<- h3] at ze
          refine Z_call (pf:=F197) rfl rfl ?_
          simp only[bs] at zo ze zn
          simp[F197,he,zn,zo,ze,hz,w1,g1,g2,qah,Wa]
         cases ho:qbO 12 2 (bs [40]) (lv+1) ts with
         |er a c=>
          rw[ho] at hx go
          cases hx
          obtain⟨g1,g2⟩:=go
          simp only[Wn,Wd] at g1 g2
          have hee:=qoC g1.lt g2 (lv+1) 1
          simp only[Wn,Wd] at hee
          obtain⟨g3,g4⟩:=qbI hw g1 (x:=bs [41]) (by decide)
          exact⟨_,_,⟨g3,qdZ⟩,fin _ _ _ 0 0 ⟨#[]⟩ _ rfl rfl g1.lt rfl rfl hee⟩
         |ok u r=>
          rw[ho] at hx go
          simp only at hx go
          simp only[Wn,Wd] at go
          have hlv':=qin ho
          cases hq:qak 12 2 true n 1 (lv+1) r with
          |none=>rw[hq] at hx; cases hx
          |some z=>
           rw[hq] at hx
           obtain⟨s2,d,hpost,hz⟩:=ihe 1 (lv+1) _ r z (by omega) (by omega) hlv' go hq
           simp only[Wn,Wd] at hz
           cases z with
           |er a c=>
            cases hx
            obtain⟨her,k,n',y',ks,rfl,g1,g2⟩:=hpost
            obtain⟨g3,g4⟩:=qbI hw her (x:=bs [41]) (by decide)
            exact⟨_,_,⟨g3,_,_,_,_,rfl,g1,g2⟩,fin _ _ _ k n' y' ks rfl rfl her.lt g1 g2 hz⟩
           |ok e r'=>
            obtain⟨rfl,hg2⟩:=hpost
            have gx:=qcL hw hg2 (x:=bs [41]) (by decide) (by decide)
            simp only at hx
            have hf:=fin _ s2 _ e.kind e.num e.str e.kids rfl rfl hg2.lt (by simp) (by simp) hz
            cases hxp:qam 12 (bs [41]) r' with
            |er a c=>
             rw[hxp] at hx gx
             cases hx
             exact⟨_,_,⟨gx.1,qip e⟩,hf⟩
            |ok u' r''=>
             rw[hxp] at hx gx
             cases hx
             exact⟨_,_,⟨rfl,gx⟩,hf⟩
        ·-- nothing fits
         have n40 : ¬ y=⟨#[40]⟩:=c7
         have hop:qbO 12 2 (bs [40]) (lv+1) ts=failP 12 ts:=by
          unfold qbO
          rw[if_neg (fun h=>c7 (by rw[hn] at h; exact WC h.1))]
          obtain⟨r,h1,_⟩:=qhk hg
          rw[h1]
          simp only[qam]
          rw[if_neg (fun h=>c7 (b2 ▸ h.2))]
         rw[hop,qhm hg 12] at hx
         cases hx
         have hf:=qk7 hg (c:=12) (by decide)
         have zf:=qhQ hg.lt 12
         simp only[Wd] at zf
         refine⟨_,qlv,⟨hf,qdZ⟩,?_⟩
         refine Z_call (pf:=F197) rfl rfl ?_
         by_cases y0:y=⟨#[]⟩
         ·simp[F197,he,zn,zf,n40,y0,qah,Wa]
         ·have ysz:y.size≠0:=fun h=>y0 (by rw[Yu] at h; exact h)
          obtain⟨c,hc,hcd⟩:=first ysz
          have zd:=qd6 c
          have zl:=qeM c
          by_cases hcl:qaG c=true
          ·have hw6:y∈wordNames:=by
            rcases Decidable.em (y∈wordNames) with h|h
            ·exact h
            ·exact absurd ⟨by simp[qaj,hc,hcl],h⟩ c6
           simp[F197,he,zn,zf,zd,zl,hc,hcd,hcl,zfi,zre,c5,hw6,n40,y0,n63,m2,m3,m4,m5,m6,qah,Wa]
          ·simp[F197,he,zn,zf,zd,zl,hc,hcd,hcl,zfi,c5,n40,y0,n63,m2,m3,m4,m5,m6,qah,Wa]
theorem qpV(hw:WfT T){n:Nat}(ihe:qmr T n)(ihi:qyw T n)(ihb:qyv T n)(ihb1:qyv T (n+1)):qmr T (n+1):=by
 intro p lv s ts x h1 h8 hlv hg hx
 have hx0:=hx
 have he:decide (s.e=0)=true:=decide_eq_true hg.e
 have zn:=qcF hg.lt
 by_cases hp8:p=8
 ·subst hp8; exact qpU hw ihe ihi hlv hg hx
 have hp9:p<=7:=by omega
 rw[qak] at hx
 have via : ∀ (d:V) (s2:Ps) (k n':Int) (y':ByteArray) (ks:D),d = .dat (.agg [.lit (.int .i64 k),.lit (.int .i64 n'),.lit (.string y'),ks])->V.one (.dat ks)=true->V.cells (.dat ks)=[.dat ks]->True:=fun _ _ _ _ _ _ _ _ _=>trivial
 by_cases c1:p=3/\nx ts=some (ustr false)\/p=7/\nx ts=some (ustr true)
 ·rw[if_pos c1] at hx
  have hp37:p=3\/p=7:=by rcases c1 with h|h; exact .inl h.1; exact .inr h.1
  have hnx:nx ts=some (ustr (p==7)):=by
   rcases c1 with ⟨rfl,h⟩|⟨rfl,h⟩<;>exact h
  obtain⟨b1,b2,b3⟩:=qc2 hg hnx
  rw[b3] at zn
  obtain⟨s2,d,hpost,hz⟩:=qvD hw ihe hp37 hlv hg hx
  obtain⟨_,k,n',y',ks,rfl,g1,g2⟩:=qfa hpost
  refine⟨s2,_,hpost,?_⟩
  refine Z_call (pf:=F197) rfl rfl ?_
  rcases hp37 with rfl|rfl
  ·simp only[show ustr ((3:Nat)==7)=⟨#[33]⟩ from rfl,Wd] at zn hz
   simp[F197,he,zn,hz,g1,g2,qah,Wa]
  ·simp only[show ustr ((7:Nat)==7)=⟨#[45]⟩ from rfl,Wd] at zn hz
   simp[F197,he,zn,hz,g1,g2,qah,Wa]
 ·rw[if_neg c1,if_pos (by omega)] at hx
  have hnot:(p=3 -> ¬ nxR T s=⟨#[33]⟩)/\(p=7 -> ¬ nxR T s=⟨#[45]⟩):=by
   have key : ∀ x:ByteArray,x≠qS->nx ts≠some x -> ¬ nxR T s=x:=fun x hxq hne h=>by
    cases hn:nx ts with
    |none=>rw[(qhl hg hn).2] at h; exact hxq h.symm
    |some y=>rw[(qc2 hg hn).2.2] at h; exact hne (by rw[hn,h])
   exact⟨fun h=>key ⟨#[33]⟩ (by decide) (fun e=>c1 (.inl ⟨h,e⟩)),fun h=>key ⟨#[45]⟩ (by decide) (fun e=>c1 (.inr ⟨h,e⟩))⟩
  by_cases hp7:p=7
  ·subst hp7
   have m:=hnot.2 rfl
   cases hq:qak 12 2 true n 8 lv ts with
   |none=>rw[hq] at hx; cases hx
   |some z=>
    rw[hq] at hx
    have hxz:z=x:=by
     cases z with
     |er a c=>exact WC hx
     |ok e r=>
      simp only at hx
      cases n with
      |zero=>simp[qak] at hq
      |succ n=>
       rw[qbR] at hx
       cases hn:nx r with
       |none=>rw[hn] at hx; exact WC hx
       |some y=>rw[hn] at hx; exact WC hx
    subst hxz
    obtain⟨s2,d,hpost,hz⟩:=ihe 8 lv s ts z (by omega) (by omega) hlv hg hq
    obtain⟨_,k,n',y',ks,rfl,g1,g2⟩:=qfa hpost
    refine⟨s2,_,hpost,?_⟩
    refine Z_call (pf:=F197) rfl rfl ?_
    simp only[Wd] at hz
    simp[F197,he,zn,hz,g1,g2,m,qah,Wa]
  ·by_cases hp3:p=3
   ·subst hp3
    have m:=hnot.1 rfl
    cases hq:qak 12 2 true n 4 lv ts with
    |none=>rw[hq] at hx; cases hx
    |some z=>
     rw[hq] at hx
     have hxz:z=x:=by
      cases z with
      |er a c=>exact WC hx
      |ok e r=>
       simp only at hx
       cases n with
       |zero=>simp[qak] at hq
       |succ n=>
        rw[qbR] at hx
        cases hn:nx r with
        |none=>rw[hn] at hx; exact WC hx
        |some y=>rw[hn] at hx; exact WC hx
     subst hxz
     obtain⟨s2,d,hpost,hz⟩:=ihb 4 lv s ts z (.inr (.inr (.inl rfl))) hlv hg hq
     obtain⟨_,k,n',y',ks,rfl,g1,g2⟩:=qfa hpost
     refine⟨s2,_,hpost,?_⟩
     refine Z_call (pf:=F197) rfl rfl ?_
     simp only[Wd] at hz
     simp[F197,he,zn,hz,g1,g2,m,qah,Wa]
   ·have hpb:qjH p:=by unfold qjH; omega
    obtain⟨s2,d,hpost,hz⟩:=ihb1 p lv s ts x hpb hlv hg hx0
    obtain⟨_,k,n',y',ks,rfl,g1,g2⟩:=qfa hpost
    refine⟨s2,_,hpost,?_⟩
    refine Z_call (pf:=F197) rfl rfl ?_
    have p7:(p:Int)<7:=by omega
    have p3i : ¬ (p:Int)=3:=by omega
    have p7i : ¬ (p:Int)=7:=by omega
    simp[F197,he,zn,hz,g1,g2,p7,hp3,hp7,p3i,p7i,qah,Wa]
theorem qkQ(hw:WfT T) : ∀ n,qmr T n/\qsE T n/\qyw T n/\qyv T n
 |0=>⟨fun p lv s ts x _ _ _ _ hx=>by simp[qak] at hx,fun p lv s ts e x ex _ _ _ _ hx=>by simp[qbR] at hx,fun lv s ts x _ _ hx=>by simp[qa6] at hx,fun p lv s ts x _ _ _ hx=>by simp[qak] at hx⟩
 |n+1=>by
  obtain⟨ihe,ihl,ihi,ihb⟩:=qkQ hw n
  have hb:=qsF hw ihe ihl
  exact⟨qpV hw ihe ihi ihb hb,qqD hw ihe ihl,qs5 hw ihe,hb⟩
end
end
section
open F
def qx8(T:List Tk)(x:Rz Ss)(d:V)(s':Ps):Prop:=match x with
 |.ok b r=>(∃ (k n:Int) (y:ByteArray) (f:Bool) (ks:Fo),b.fo = .cons k n y f ks .nil/\d=nd k n y f ks)/\Gd T s' r
 |.er a c=>Er T s' a c/\NdD d
def qzX(T:List Tk)(x:Rz Ss)(d:V)(s':Ps):Prop:=match x with
 |.ok b r=>d=nd 7 0 ⟨#[]⟩ false b.fo/\Gd T s' r
 |.er a c=>Er T s' a c/\NdD d
def qv1(T:List Tk)(n:Nat):Prop := ∀ lv s ts x,1<=lv->lv<=20->Gd T s ts->qbT 12 2 true false false n lv ts=some x -> ∃ s' d,qx8 T x d s'/\Z tR (.call 173 [.ptr 0 0,.int (lv:Nat)] [PO T s])=some (.ret d [PO T s'])
def qrA(T:List Tk)(n:Nat):Prop := ∀ lv s ts x,1<=lv->lv<=21->Gd T s ts->qaN 12 2 true false false n lv ts=some x -> ∃ s' d,qzX T x d s'/\Z tR (.call 155 [.ptr 0 0,.int (lv:Nat)] [PO T s])=some (.ret d [PO T s'])
theorem qx9(k n:Int)(s:ByteArray)(f:Bool)(ks:Fo):NdD (nd k n s f ks):=⟨_,_,_,_,rfl,by simp,by simp⟩
section
variable{T:List Tk}
theorem qmM(hw:WfT T){lv:Nat}{s:Ps}{a c:Nat}(hlv:lv<=100)(her:Er T s a c):qyA T 155 [.ptr 0 0,.int lv] s a c:=by
 have zo:=qma her.lt hw.len (bs [123]) lv
 obtain⟨o1,o2⟩:=qu3 hw her (x:=bs [123]) (by decide) lv
 generalize openS T (bs [123]) lv s=s1 at zo o1 o2
 have ze:=qbH o1.lt hw.len (bs [125])
 obtain⟨e1,e2⟩:=qbI hw o1 (x:=bs [125]) (by decide)
 generalize expectS T (bs [125]) s1=s2 at ze e1 e2
 have he:decide (s1.e=0)=false:=decide_eq_false o2
 have zl:Z tR (.loop 1 F155l0 [(0,.ptr 0 0),(1,.int lv),(4,.ptr 1 0),(5,.ptr 2 0)] [PO T s1,zob,.cells [.int 7,.int 0,.str ⟨#[]⟩,.dat (.lit (.slice none 0 0))]]) =
   some (.out (.exit 0) [(0,.ptr 0 0),(1,.int lv),(4,.ptr 1 0),(5,.ptr 2 0),(19,.bool false)] [PO T s1,zob,.cells [.int 7,.int 0,.str ⟨#[]⟩,.dat (.lit (.slice none 0 0))]]):=by
  rw[qab]
  simp[qaa,qej,he,Wa]
 refine⟨s2,_,⟨7,0,⟨#[]⟩,.lit (.slice none 0 0),rfl,rfl,rfl⟩,e1,e2,?_⟩
 refine Z_call (pf:=F155) rfl rfl ?_
 simp only[bs] at zo ze
 simp[F155,zo,ze,zl,Wa]
theorem qey (hw:WfT T) {n lv:Nat} {s:Ps} {ts:List Tk} {z:Rz E} (hlv:lv<=20) (hg:Gd T s ts) (hz:qak 12 2 true n 1 lv ts=some z) :
  ∃ s' k n' y ks,qyu T z (.dat (.agg [.lit (.int .i64 k),.lit (.int .i64 n'),.lit (.string y),ks])) s'/\V.one (.dat ks)=true/\V.cells (.dat ks)=[.dat ks] /\
   Z tR (.call 197 [.ptr 0 0,.int lv,.int 1] [PO T s])=some (.ret (.dat (.agg [.lit (.int .i64 k),.lit (.int .i64 n'),.lit (.string y),ks])) [PO T s']):=by
 obtain⟨s',d,h1,h2⟩:=(qkQ hw n).1 1 lv s ts z (by omega) (by omega) hlv hg hz
 obtain⟨_,k,n',y,ks,rfl,g1,g2⟩:=qfa h1
 exact⟨s',k,n',y,ks,h1,g1,g2,h2⟩
theorem qg0 (hw:WfT T) {lv:Nat} {s:Ps} {a c:Nat} (hlv:lv<=20) (her:Er T s a c) :
  ∃ s' k n' y ks,(Er T s' a c/\s'.e≠0)/\V.one (.dat ks)=true/\V.cells (.dat ks)=[.dat ks] /\
   Z tR (.call 197 [.ptr 0 0,.int lv,.int 1] [PO T s])=some (.ret (.dat (.agg [.lit (.int .i64 k),.lit (.int .i64 n'),.lit (.string y),ks])) [PO T s']):=by
 obtain⟨s',d,hd,h1,h2,h3⟩:=qiq hw (lv:=lv) (by omega) 7 1 (by omega) (by omega) her
 obtain⟨k,n',y,ks,rfl,g1,g2⟩:=hd
 exact⟨s',k,n',y,ks,⟨h1,h2⟩,g1,g2,h3⟩
theorem qeP (hw:WfT T) {s s':Ps} {ts:List Tk} {b:Ss} (hg:Gd T s ts) {k n:Int} {y:ByteArray} {f:Bool} {ks:Fo} (hb:b.fo = .cons k n y f ks .nil) (hs:s'=expectS T (bs [59]) s) :
  qx8 T (qa2 12 b ts) (nd k n y f ks) s':=by
 have gx:=qcL hw hg (x:=bs [59]) (by decide) (by decide)
 unfold qa2
 subst hs
 cases hxp:qam 12 (bs [59]) ts with
 |er a c=>rw[hxp] at gx; exact⟨gx.1,qx9 ..⟩
 |ok u r=>rw[hxp] at gx; exact⟨⟨k,n,y,f,ks,hb,rfl⟩,gx⟩
theorem qdo(hw:WfT T){s s':Ps}{a c:Nat}(her:Er T s a c)(hs:s'=expectS T (bs [59]) s):Er T s' a c:=by
 subst hs; exact (qbI hw her (by decide)).1
end
end
section
open F
section
variable{T:List Tk}{s:Ps}{lv:Nat}
abbrev ag(k n:Int)(y:ByteArray)(ks:D):V := .dat (.agg [.lit (.int .i64 k),.lit (.int .i64 n),.lit (.string y),ks])
abbrev k1(k n:Int)(y:ByteArray)(ks:D):D := .sl [.lit (.int .i64 k),.lit (.int .i64 n),.lit (.string y),ks] 1 true
abbrev k2(k n:Int)(y:ByteArray)(ks:D)(k' n':Int)(y':ByteArray)(ks':D):D := .sl [.lit (.int .i64 k),.lit (.int .i64 n),.lit (.string y),ks,.lit (.int .i64 k'),.lit (.int .i64 n'),.lit (.string y'),ks'] 2 true
theorem qsS (hw:WfT T) (hl:s.i<T.length) (hn:nxR T s=bs [115,116,111,112]) (he:s.e=0) :
  Z tR (.call 173 [.ptr 0 0,.int lv] [PO T s])=some (.ret (nd 6 0 ⟨#[]⟩ false .nil) [PO T (expectS T (bs [59]) (takeS T s))]):=by
 have zn:=qcF hl
 have zt:=qem hl hw.len
 have ze:=qbH (qn4 hl) hw.len (bs [59])
 rw[hn] at zn
 generalize takeS T s=s1 at zt ze ⊢
 generalize expectS T (bs [59]) s1=s2 at ze ⊢
 refine Z_call (pf:=F173) rfl rfl ?_
 simp only[bs] at zn ze
 simp[F173,zn,zt,ze,qah,Wa]
theorem qfG (hw:WfT T) (hl:s.i<T.length) (hn:nxR T s=bs [101,102,102,101,99,116]) {s2 s3 s4:Ps} {a b a' b':Int} {y y':ByteArray} {d d':D} (h2:s2.i<T.length) (h4:s4.i<T.length)
  (g1:V.one (.dat d)=true) (g2:V.cells (.dat d)=[.dat d]) (g3:V.one (.dat d')=true) (g4:V.cells (.dat d')=[.dat d'])
  (z1:Z tR (.call 197 [.ptr 0 0,.int lv,.int 1] [PO T (takeS T s)])=some (.ret (ag a b y d) [PO T s2])) (e3:s3=expectS T (bs [44]) s2)
  (z2:Z tR (.call 197 [.ptr 0 0,.int lv,.int 1] [PO T s3])=some (.ret (ag a' b' y' d') [PO T s4])) :
  Z tR (.call 173 [.ptr 0 0,.int lv] [PO T s])=some (.ret (ag 5 0 ⟨#[]⟩ (k2 a b y d a' b' y' d')) [PO T (expectS T (bs [59]) s4)]):=by
 have zn:=qcF hl
 have zt:=qem hl hw.len
 have ze:=qbH h2 hw.len (bs [44])
 have zf:=qbH h4 hw.len (bs [59])
 rw[hn] at zn
 rw[<- e3] at ze
 generalize takeS T s=s1 at zt z1
 generalize expectS T (bs [59]) s4=s5 at zf ⊢
 refine Z_call (pf:=F173) rfl rfl ?_
 simp only[bs] at zn ze zf
 simp[F173,zn,zt,ze,zf,z1,z2,g1,g2,g3,g4,qah,qbX,qaO,Wa]
theorem qgR (hw:WfT T) (hl:s.i<T.length) {x:ByteArray} (hn:nxR T s=x) (hf:x∈fieldNames) {s2 s3 s4:Ps} {a b a' b':Int} {y y':ByteArray} {d d':D} (h2:s2.i<T.length) (h4:s4.i<T.length)
  (g1:V.one (.dat d)=true) (g2:V.cells (.dat d)=[.dat d]) (g3:V.one (.dat d')=true) (g4:V.cells (.dat d')=[.dat d'])
  (z1:Z tR (.call 199 [.ptr 0 0,.int lv] [PO T (takeS T s)])=some (.ret (ag a b y d) [PO T s2])) (e3:s3=expectS T (bs [61]) s2)
  (z2:Z tR (.call 197 [.ptr 0 0,.int lv,.int 1] [PO T s3])=some (.ret (ag a' b' y' d') [PO T s4])) :
  Z tR (.call 173 [.ptr 0 0,.int lv] [PO T s])=some (.ret (ag 2 0 x (k2 a b y d a' b' y' d')) [PO T (expectS T (bs [59]) s4)]):=by
 have zn:=qcF hl
 have zt:=qem hl hw.len
 have ze:=qbH h2 hw.len (bs [61])
 have zf:=qbH h4 hw.len (bs [59])
 have zfi:=qgU x
 rw[hn] at zn
 rw[<- e3] at ze
 generalize takeS T s=s1 at zt z1
 generalize expectS T (bs [59]) s4=s5 at zf ⊢
 have m1 : ¬ x=⟨#[105,102]⟩:=qef hf (by decide)
 have m2 : ¬ x=⟨#[119,104,105,108,101]⟩:=qef hf (by decide)
 have m3 : ¬ x=⟨#[115,116,111,112]⟩:=qef hf (by decide)
 have m4 : ¬ x=⟨#[101,102,102,101,99,116]⟩:=qef hf (by decide)
 refine Z_call (pf:=F173) rfl rfl ?_
 simp only[bs] at ze zf
 simp[F173,zn,zt,ze,zf,zfi,hf,z1,z2,g1,g2,g3,g4,m1,m2,m3,m4,qah,qbX,qaO,Wa]
theorem qhr (hw:WfT T) (hl:s.i<T.length) {x:ByteArray} (hn:nxR T s=x) (hx:qaj qaG x=true/\x∉wordNames) (hf:x∉fieldNames) {s3 s4:Ps} {a' b':Int} {y':ByteArray} {d':D} (h4:s4.i<T.length)
  (g3:V.one (.dat d')=true) (g4:V.cells (.dat d')=[.dat d']) (e3:s3=expectS T (bs [61]) (takeS T s))
  (z2:Z tR (.call 197 [.ptr 0 0,.int lv,.int 1] [PO T s3])=some (.ret (ag a' b' y' d') [PO T s4])) :
  Z tR (.call 173 [.ptr 0 0,.int lv] [PO T s])=some (.ret (ag 1 0 x (k1 a' b' y' d')) [PO T (expectS T (bs [59]) s4)]):=by
 have zn:=qcF hl
 have zt:=qem hl hw.len
 have ze:=qbH (qn4 hl) hw.len (bs [61])
 have zf:=qbH h4 hw.len (bs [59])
 have zfi:=qgU x
 have zre:=qfJ x
 rw[hn] at zn
 rw[<- e3] at ze
 generalize takeS T s=s1 at zt ze
 generalize expectS T (bs [59]) s4=s5 at zf ⊢
 have nw : ∀ z∈wordNames,¬ x=z:=fun z hz e=>hx.2 (e ▸ hz)
 have nl : ∀ z:ByteArray,qaj qaG z=false -> ¬ x=z:=fun z hz e=>by have:=hx.1; rw[e,hz] at this; cases this
 have m1 : ¬ x=⟨#[105,102]⟩:=nw _ (by decide)
 have m2 : ¬ x=⟨#[119,104,105,108,101]⟩:=nw _ (by decide)
 have m3 : ¬ x=⟨#[115,116,111,112]⟩:=nw _ (by decide)
 have m4 : ¬ x=⟨#[101,102,102,101,99,116]⟩:=nw _ (by decide)
 have m5 : ¬ x=⟨#[]⟩:=nl _ (by decide)
 have m6 : ¬ x=⟨#[63]⟩:=nl _ (by decide)
 obtain⟨c,hc⟩ : ∃ c,x[0]?=some c:=by
  have:=hx.1
  cases h:x[0]? with
  |none=>simp[qaj,h] at this
  |some c=>exact⟨c,rfl⟩
 have hcl:qaG c=true:=by simpa [qaj,hc] using hx.1
 have zl:=qeM c
 refine Z_call (pf:=F173) rfl rfl ?_
 simp only[bs] at ze zf
 simp[F173,zn,zt,ze,zf,zfi,zre,hf,hx.2,z2,g3,g4,m1,m2,m3,m4,m5,m6,hc,hcl,zl,qah,qbX,qaO,Wa]
theorem qlf (hw:WfT T) (hl:s.i<T.length) {x:ByteArray} (hn:nxR T s=x) (m1 : ¬ x=⟨#[105,102]⟩) (m2 : ¬ x=⟨#[119,104,105,108,101]⟩) (m3 : ¬ x=⟨#[115,116,111,112]⟩) (m4 : ¬ x=⟨#[101,102,102,101,99,116]⟩) (hf:x∉fieldNames)
  (hx : ¬ (qaj qaG x=true/\x∉wordNames)):Z tR (.call 173 [.ptr 0 0,.int lv] [PO T s])=some (.ret qlv [PO T (failS T 12 s)]):=by
 have zn:=qcF hl
 have zf:=qhQ hl 12
 have zfi:=qgU x
 have zre:=qfJ x
 rw[hn] at zn
 simp only[Wd] at zf
 generalize failS T 12 s=s1 at zf ⊢
 refine Z_call (pf:=F173) rfl rfl ?_
 by_cases m5:x=⟨#[]⟩
 ·subst m5
  simp[F173,zn,zf,zfi,hf,qah,Wa]
 ·by_cases m6:x=⟨#[63]⟩
  ·subst m6
   simp[F173,zn,zf,zfi,hf,qah,Wa]
  ·have ysz:x.size≠0:=fun h=>m5 (by rw[Yu] at h; exact h)
   obtain⟨c,hc⟩ : ∃ c,x[0]?=some c:=⟨x[0],getElem?_pos x 0 (by omega)⟩
   have zl:=qeM c
   by_cases hcl:qaG c=true
   ·have hw6:x∈wordNames:=by
     rcases Decidable.em (x∈wordNames) with h|h
     ·exact h
     ·exact absurd ⟨by simp[qaj,hc,hcl],h⟩ hx
    simp[F173,zn,zf,zfi,zre,hf,hw6,m1,m2,m3,m4,m5,m6,hc,hcl,zl,qah,Wa]
   ·simp[F173,zn,zf,zfi,zre,hf,m1,m2,m3,m4,m5,m6,hc,hcl,zl,qah,Wa]
theorem qi7 (hw:WfT T) (hl:s.i<T.length) (hn:nxR T s=bs [119,104,105,108,101]) (hlv:lv<=20) {s2 s3:Ps} {a b a' b':Int} {y y':ByteArray} {d d':D}
  (g1:V.one (.dat d)=true) (g2:V.cells (.dat d)=[.dat d]) (g3:V.one (.dat d')=true) (g4:V.cells (.dat d')=[.dat d'])
  (z1:Z tR (.call 197 [.ptr 0 0,.int lv,.int 1] [PO T (takeS T s)])=some (.ret (ag a b y d) [PO T s2]))
  (z2:Z tR (.call 155 [.ptr 0 0,.int ((lv+1:Nat))] [PO T s2])=some (.ret (ag a' b' y' d') [PO T s3])) :
  Z tR (.call 173 [.ptr 0 0,.int lv] [PO T s])=some (.ret (ag 4 0 ⟨#[]⟩ (k2 a b y d a' b' y' d')) [PO T s3]):=by
 have zn:=qcF hl
 have zt:=qem hl hw.len
 rw[hn] at zn
 have w1:=qae ((lv:Int)+1) (by omega)
 generalize takeS T s=s1 at zt z1
 refine Z_call (pf:=F173) rfl rfl ?_
 simp only[bs] at zn
 simp only[Wn,Wd] at z2
 simp[F173,zn,zt,z1,z2,w1,g1,g2,g3,g4,qah,qbX,qaO,Wa]
abbrev k3(k n:Int)(y:ByteArray)(ks:D)(k' n':Int)(y':ByteArray)(ks':D)(k'' n'':Int)(y'':ByteArray)(ks'':D):D := .sl [.lit (.int .i64 k),.lit (.int .i64 n),.lit (.string y),ks,.lit (.int .i64 k'),.lit (.int .i64 n'),.lit (.string y'),ks',.lit (.int .i64 k''),.lit (.int .i64 n''),.lit (.string y''),ks''] 3 false
theorem qol (hw:WfT T) (hl:s.i<T.length) (hn:nxR T s=bs [105,102]) (hlv:lv<=20) {s2 s3:Ps} {a b a' b':Int} {y y':ByteArray} {d d':D} (h3:s3.i<T.length)
  (g1:V.one (.dat d)=true) (g2:V.cells (.dat d)=[.dat d]) (g3:V.one (.dat d')=true) (g4:V.cells (.dat d')=[.dat d'])
  (z1:Z tR (.call 197 [.ptr 0 0,.int lv,.int 1] [PO T (takeS T s)])=some (.ret (ag a b y d) [PO T s2]))
  (z2:Z tR (.call 155 [.ptr 0 0,.int ((lv+1:Nat))] [PO T s2])=some (.ret (ag a' b' y' d') [PO T s3]))
  (hno:s3.e≠0 \/ ¬ nxR T s3=bs [101,108,115,101]) :
  Z tR (.call 173 [.ptr 0 0,.int lv] [PO T s])=some (.ret (ag 3 0 ⟨#[]⟩ (k3 a b y d a' b' y' d' 7 0 ⟨#[]⟩ (.lit (.slice none 0 0)))) [PO T s3]):=by
 have zn:=qcF hl
 have zt:=qem hl hw.len
 have zn3:=qcF h3
 rw[hn] at zn
 have w1:=qae ((lv:Int)+1) (by omega)
 have hroom:qaI 3 56=true:=by decide
 generalize takeS T s=s1 at zt z1
 refine Z_call (pf:=F173) rfl rfl ?_
 simp only[bs] at zn hno
 simp only[Wn,Wd] at z2
 by_cases he0:s3.e=0
 ·have he:decide (s3.e=0)=true:=decide_eq_true he0
  have hne:=hno.resolve_left (fun h=>h he0)
  simp[F173,zn,zt,z1,z2,zn3,w1,g1,g2,g3,g4,he,hne,hroom,qbD,qjv,qah,qbX,qaO,Wa]
 ·have he:decide (s3.e=0)=false:=decide_eq_false he0
  simp[F173,zn,zt,z1,z2,zn3,w1,g1,g2,g3,g4,he,hroom,qbD,qjv,qah,qbX,qaO,Wa]
theorem qom (hw:WfT T) (hl:s.i<T.length) (hn:nxR T s=bs [105,102]) (hlv:lv<=20) {s2 s3 s4:Ps} {a b a' b' a'' b'':Int} {y y' y'':ByteArray} {d d' d'':D} (h3:s3.i<T.length)
  (g1:V.one (.dat d)=true) (g2:V.cells (.dat d)=[.dat d]) (g3:V.one (.dat d')=true) (g4:V.cells (.dat d')=[.dat d']) (g5:V.one (.dat d'')=true) (g6:V.cells (.dat d'')=[.dat d''])
  (z1:Z tR (.call 197 [.ptr 0 0,.int lv,.int 1] [PO T (takeS T s)])=some (.ret (ag a b y d) [PO T s2]))
  (z2:Z tR (.call 155 [.ptr 0 0,.int ((lv+1:Nat))] [PO T s2])=some (.ret (ag a' b' y' d') [PO T s3]))
  (he0:s3.e=0) (hn3:nxR T s3=bs [101,108,115,101])
  (z3:Z tR (.call 155 [.ptr 0 0,.int ((lv+1:Nat))] [PO T (takeS T s3)])=some (.ret (ag a'' b'' y'' d'') [PO T s4])) :
  Z tR (.call 173 [.ptr 0 0,.int lv] [PO T s])=some (.ret (ag 3 0 ⟨#[]⟩ (k3 a b y d a' b' y' d' a'' b'' y'' d'')) [PO T s4]):=by
 have zn:=qcF hl
 have zt:=qem hl hw.len
 have zn3:=qcF h3
 have zt3:=qem h3 hw.len
 rw[hn] at zn
 rw[hn3] at zn3
 have w1:=qae ((lv:Int)+1) (by omega)
 have hroom:qaI 3 56=true:=by decide
 have he:decide (s3.e=0)=true:=decide_eq_true he0
 generalize takeS T s=s1 at zt z1
 generalize takeS T s3=s5 at zt3 z3
 refine Z_call (pf:=F173) rfl rfl ?_
 simp only[bs] at zn zn3
 simp only[Wn,Wd] at z2 z3
 simp[F173,zn,zt,z1,z2,z3,zn3,zt3,w1,g1,g2,g3,g4,g5,g6,he,hroom,qbD,qjv,qah,qbX,qaO,Wa]
end
end
section
open F
section
variable{T:List Tk}
theorem qqO(hw:WfT T){n:Nat}(ihb:qrA T n):qv1 T (n+1):=by
 intro lv s ts x h1 hlv hg hx
 have hl:=hg.lt
 rw[qbT] at hx
 cases hn:nx ts with
 |none=>
  obtain⟨b1,b2⟩:=qhl hg hn
  obtain⟨g1,g2⟩:=qhj hg hn 12 (α := Ss)
  rw[hn] at hx
  simp only at hx
  rw[g2] at hx
  cases hx
  exact⟨_,qlv,⟨(qhn (k:=12) g1).1,qdZ⟩,qlf hw hl b2 (by decide) (by decide) (by decide) (by decide) (by decide) (by decide)⟩
 |some y=>
  obtain⟨b1,b2,b3⟩:=qc2 hg hn
  rw[hn] at hx
  simp only at hx
  have take:y.size≠0->Gd T (takeS T s) ts.tail:=qga hw hg hn
  have cond : ∀ (z:Rz E),qak 12 2 true n 1 lv ts.tail=some z->y.size≠0->True:=fun _ _ _=>trivial
  by_cases c1:y=bs [105,102]
  ·rw[if_pos c1] at hx
   subst c1
   have hgt:=take (by decide)
   cases hq:qak 12 2 true n 1 lv ts.tail with
   |none=>rw[hq] at hx; cases hx
   |some z=>
    rw[hq] at hx
    obtain⟨s2,k,n',y,ks,hpost,g1,g2,hz⟩:=qey hw hlv hgt hq
    cases z with
    |er a c=>
     cases hx
     obtain⟨s3,d,⟨k',m',y',ks',rfl,g3,g4⟩,hb1,hb2,hb3⟩:=qmM hw (lv:=lv+1) (by omega) hpost.1
     exact⟨s3,_,⟨hb1,_,_,_,_,rfl,rfl,rfl⟩,qol hw hl b3 hlv hb1.lt g1 g2 g3 g4 hz hb3 (.inl hb2)⟩
    |ok e r=>
     simp only at hx
     obtain⟨he,hg2⟩:=hpost
     simp only[E.node,V.dat.injEq,D.agg.injEq,Ww,D.lit.injEq,Value.int.injEq,true_and,Value.string.injEq,and_true] at he
     obtain⟨rfl,rfl,rfl,rfl⟩:=he
     cases hqb:qaN 12 2 true false false n (lv+1) r with
     |none=>rw[hqb] at hx; cases hx
     |some zb=>
      rw[hqb] at hx
      obtain⟨s3,d,hpb,hzb⟩:=ihb (lv+1) s2 r zb (by omega) (by omega) hg2 hqb
      cases zb with
      |er a c=>
       cases hx
       obtain⟨her,k',m',y',ks',rfl,g3,g4⟩:=hpb
       have hno:s3.e≠0 \/ ¬ nxR T s3=bs [101,108,115,101]:=by
        by_cases h0:s3.e=0
        ·right; rw[qqE hw her h0]; decide
        ·exact .inl h0
       exact⟨s3,_,⟨her,_,_,_,_,rfl,rfl,rfl⟩,qol hw hl b3 hlv her.lt g1 g2 g3 g4 hz hzb hno⟩
      |ok b r1=>
       simp only at hx
       obtain⟨rfl,hg3⟩:=hpb
       cases hn1:nx r1 with
       |none=>
        rw[hn1] at hx
        simp only at hx
        obtain⟨p1,p2⟩:=qhj hg3 hn1 12 (α := Ss)
        rw[p2] at hx
        cases hx
        exact⟨s3,_,⟨p1,_,_,_,_,rfl,rfl,rfl⟩,qol hw hl b3 hlv hg3.lt g1 g2 (by simp) (by simp) hz hzb (.inr (by rw[(qhl hg3 hn1).2]; decide))⟩
       |some w=>
        rw[hn1] at hx
        simp only at hx
        obtain⟨_,_,w3⟩:=qc2 hg3 hn1
        by_cases cw:w=bs [101,108,115,101]
        ·rw[if_pos cw] at hx
         subst cw
         have hgt3:=qga hw hg3 hn1 (by decide)
         cases hqc:qaN 12 2 true false false n (lv+1) r1.tail with
         |none=>rw[hqc] at hx; cases hx
         |some zc=>
          rw[hqc] at hx
          obtain⟨s4,d,hpc,hzc⟩:=ihb (lv+1) _ r1.tail zc (by omega) (by omega) hgt3 hqc
          cases zc with
          |er a c=>
           cases hx
           obtain⟨her,k',m',y',ks',rfl,g3,g4⟩:=hpc
           exact⟨s4,_,⟨her,_,_,_,_,rfl,rfl,rfl⟩,qom hw hl b3 hlv hg3.lt g1 g2 (by simp) (by simp) g3 g4 hz hzb hg3.e w3 hzc⟩
          |ok b2 r2=>
           cases hx
           obtain⟨rfl,hg4⟩:=hpc
           refine⟨s4,_,⟨⟨3,0,⟨#[]⟩,false,_,rfl,?_⟩,hg4⟩,qom hw hl b3 hlv hg3.lt g1 g2 (by simp) (by simp) (by simp) (by simp) hz hzb hg3.e w3 hzc⟩
           simp[Ss.fo,nd]
        ·rw[if_neg cw] at hx
         cases hx
         refine⟨s3,_,⟨⟨3,0,⟨#[]⟩,false,_,rfl,?_⟩,hg3⟩,qol hw hl b3 hlv hg3.lt g1 g2 (by simp) (by simp) hz hzb (.inr (by rw[w3]; exact cw))⟩
         simp[Ss.fo,nd]
  ·rw[if_neg c1] at hx
   by_cases c2:y=bs [119,104,105,108,101]
   ·rw[if_pos c2] at hx
    subst c2
    have hgt:=take (by decide)
    cases hq:qak 12 2 true n 1 lv ts.tail with
    |none=>rw[hq] at hx; cases hx
    |some z=>
     rw[hq] at hx
     obtain⟨s2,k,n',y,ks,hpost,g1,g2,hz⟩:=qey hw hlv hgt hq
     cases z with
     |er a c=>
      cases hx
      obtain⟨s3,d,⟨k',m',y',ks',rfl,g3,g4⟩,hb1,hb2,hb3⟩:=qmM hw (lv:=lv+1) (by omega) hpost.1
      exact⟨s3,_,⟨hb1,_,_,_,_,rfl,rfl,rfl⟩,qi7 hw hl b3 hlv g1 g2 g3 g4 hz hb3⟩
     |ok e r=>
      simp only at hx
      obtain⟨he,hg2⟩:=hpost
      simp only[E.node,V.dat.injEq,D.agg.injEq,Ww,D.lit.injEq,Value.int.injEq,true_and,Value.string.injEq,and_true] at he
      obtain⟨rfl,rfl,rfl,rfl⟩:=he
      cases hqb:qaN 12 2 true false false n (lv+1) r with
      |none=>rw[hqb] at hx; cases hx
      |some zb=>
       rw[hqb] at hx
       obtain⟨s3,d,hpb,hzb⟩:=ihb (lv+1) s2 r zb (by omega) (by omega) hg2 hqb
       cases zb with
       |er a c=>
        cases hx
        obtain⟨her,k',m',y',ks',rfl,g3,g4⟩:=hpb
        exact⟨s3,_,⟨her,_,_,_,_,rfl,rfl,rfl⟩,qi7 hw hl b3 hlv g1 g2 g3 g4 hz hzb⟩
       |ok b r1=>
        cases hx
        obtain⟨rfl,hg3⟩:=hpb
        refine⟨s3,_,⟨⟨4,0,⟨#[]⟩,true,_,rfl,?_⟩,hg3⟩,qi7 hw hl b3 hlv g1 g2 (by simp) (by simp) hz hzb⟩
        simp[Ss.fo,nd]
   ·rw[if_neg c2] at hx
    by_cases c3:y=bs [101,102,102,101,99,116]
    ·rw[if_pos c3] at hx
     subst c3
     have hgt:=take (by decide)
     cases hq:qak 12 2 true n 1 lv ts.tail with
     |none=>rw[hq] at hx; cases hx
     |some z=>
      rw[hq] at hx
      obtain⟨s2,k,n',y,ks,hpost,g1,g2,hz⟩:=qey hw hlv hgt hq
      cases z with
      |er a c=>
       cases hx
       obtain⟨q1,q2⟩:=qbI hw hpost.1 (x:=bs [44]) (by decide)
       obtain⟨s4,k',m',y',ks',q3,g3,g4,hz2⟩:=qg0 hw hlv q1
       exact⟨_,_,⟨qdo hw q3.1 rfl,_,_,_,_,rfl,rfl,rfl⟩,qfG hw hl b3 hpost.1.lt q3.1.lt g1 g2 g3 g4 hz rfl hz2⟩
      |ok e r=>
       simp only at hx
       obtain⟨he,hg2⟩:=hpost
       simp only[E.node,V.dat.injEq,D.agg.injEq,Ww,D.lit.injEq,Value.int.injEq,true_and,Value.string.injEq,and_true] at he
       obtain⟨rfl,rfl,rfl,rfl⟩:=he
       have gx:=qcL hw hg2 (x:=bs [44]) (by decide) (by decide)
       cases hxp:qam 12 (bs [44]) r with
       |er a c=>
        rw[hxp] at hx gx
        cases hx
        obtain⟨s4,k',m',y',ks',q3,g3,g4,hz2⟩:=qg0 hw hlv gx.1
        exact⟨_,_,⟨qdo hw q3.1 rfl,_,_,_,_,rfl,rfl,rfl⟩,qfG hw hl b3 hg2.lt q3.1.lt g1 g2 g3 g4 hz rfl hz2⟩
       |ok u r1=>
        rw[hxp] at hx gx
        simp only at hx gx
        cases hq2:qak 12 2 true n 1 lv r1 with
        |none=>rw[hq2] at hx; cases hx
        |some z2=>
         rw[hq2] at hx
         obtain⟨s4,k',m',y',ks',hpost2,g3,g4,hz2⟩:=qey hw hlv gx hq2
         cases z2 with
         |er a c=>
          cases hx
          exact⟨_,_,⟨qdo hw hpost2.1 rfl,_,_,_,_,rfl,rfl,rfl⟩,qfG hw hl b3 hg2.lt hpost2.1.lt g1 g2 g3 g4 hz rfl hz2⟩
         |ok e2 r2=>
          cases hx
          obtain⟨he2,hg4⟩:=hpost2
          simp only[E.node,V.dat.injEq,D.agg.injEq,Ww,D.lit.injEq,Value.int.injEq,true_and,Value.string.injEq,and_true] at he2
          obtain⟨rfl,rfl,rfl,rfl⟩:=he2
          have hcp:=qeP hw hg4 (b := .effect true e e2 .nil) (k:=5) (n:=0) (y:=⟨#[]⟩) (f:=true) (ks:=e.fo (e2.fo .nil)) rfl rfl
          refine⟨_,_,hcp,?_⟩
          have:=qfG hw hl b3 hg2.lt hg4.lt g1 g2 g3 g4 hz rfl hz2
          rw[this]
          simp[nd]
    ·rw[if_neg c3] at hx
     by_cases c4:y=bs [115,116,111,112]
     ·rw[if_pos c4] at hx
      subst c4
      have hgt:=take (by decide)
      cases hx
      have hcp:=qeP hw hgt (b := .stop .nil) (k:=6) (n:=0) (y:=⟨#[]⟩) (f:=false) (ks := .nil) rfl rfl
      exact⟨_,_,hcp,qsS hw hl b3 hg.e⟩
     ·rw[if_neg c4] at hx
      by_cases c5:y∈fieldNames
      ·rw[if_pos c5] at hx
       have y0:y.size≠0:=by
        simp only[fieldNames,Ws,WA,or_false] at c5
        rcases c5 with h|h|h|h|h|h|h|h<;>rw[h]<;>decide
       have hgt:=take y0
       cases hq:qa6 12 2 true n lv ts.tail with
       |none=>rw[hq] at hx; cases hx
       |some z=>
        rw[hq] at hx
        obtain⟨s2,d,hpost,hz⟩:=(qkQ hw n).2.2.1 lv _ _ z hlv hgt hq
        obtain⟨hs2,k,n',y1,ks,rfl,g1,g2⟩:=qfa hpost
        cases z with
        |er a c=>
         cases hx
         obtain⟨q1,q2⟩:=qbI hw hpost.1 (x:=bs [61]) (by decide)
         obtain⟨s4,k',m',y',ks',q3,g3,g4,hz2⟩:=qg0 hw hlv q1
         exact⟨_,_,⟨qdo hw q3.1 rfl,_,_,_,_,rfl,rfl,rfl⟩,qgR hw hl b3 c5 hpost.1.lt q3.1.lt g1 g2 g3 g4 hz rfl hz2⟩
        |ok e r=>
         simp only at hx
         obtain⟨he,hg2⟩:=hpost
         simp only[E.node,V.dat.injEq,D.agg.injEq,Ww,D.lit.injEq,Value.int.injEq,true_and,Value.string.injEq,and_true] at he
         obtain⟨rfl,rfl,rfl,rfl⟩:=he
         have gx:=qcL hw hg2 (x:=bs [61]) (by decide) (by decide)
         cases hxp:qam 12 (bs [61]) r with
         |er a c=>
          rw[hxp] at hx gx
          cases hx
          obtain⟨s4,k',m',y',ks',q3,g3,g4,hz2⟩:=qg0 hw hlv gx.1
          exact⟨_,_,⟨qdo hw q3.1 rfl,_,_,_,_,rfl,rfl,rfl⟩,qgR hw hl b3 c5 hg2.lt q3.1.lt g1 g2 g3 g4 hz rfl hz2⟩
         |ok u r1=>
          rw[hxp] at hx gx
          simp only at hx gx
          cases hq2:qak 12 2 true n 1 lv r1 with
          |none=>rw[hq2] at hx; cases hx
          |some z2=>
           rw[hq2] at hx
           obtain⟨s4,k',m',y',ks',hpost2,g3,g4,hz2⟩:=qey hw hlv gx hq2
           cases z2 with
           |er a c=>
            cases hx
            exact⟨_,_,⟨qdo hw hpost2.1 rfl,_,_,_,_,rfl,rfl,rfl⟩,qgR hw hl b3 c5 hg2.lt hpost2.1.lt g1 g2 g3 g4 hz rfl hz2⟩
           |ok e2 r2=>
            cases hx
            obtain⟨he2,hg4⟩:=hpost2
            simp only[E.node,V.dat.injEq,D.agg.injEq,Ww,D.lit.injEq,Value.int.injEq,true_and,Value.string.injEq,and_true] at he2
            obtain⟨rfl,rfl,rfl,rfl⟩:=he2
            have hcp:=qeP hw hg4 (b := .store true y e e2 .nil) (k:=2) (n:=0) (y:=y) (f:=true) (ks:=e.fo (e2.fo .nil)) rfl rfl
            refine⟨_,_,hcp,?_⟩
            have:=qgR hw hl b3 c5 hg2.lt hg4.lt g1 g2 g3 g4 hz rfl hz2
            rw[this]
            simp[nd]
      ·rw[if_neg c5] at hx
       by_cases c6:qaj qaG y=true/\y∉wordNames
       ·rw[if_pos c6] at hx
        have hgt:=take (qm1 c6.1)
        have gx:=qcL hw hgt (x:=bs [61]) (by decide) (by decide)
        cases hxp:qam 12 (bs [61]) ts.tail with
        |er a c=>
         rw[hxp] at hx gx
         cases hx
         obtain⟨s4,k',m',y',ks',q3,g3,g4,hz2⟩:=qg0 hw hlv gx.1
         exact⟨_,_,⟨qdo hw q3.1 rfl,_,_,_,_,rfl,rfl,rfl⟩,qhr hw hl b3 c6 c5 q3.1.lt g3 g4 rfl hz2⟩
        |ok u r1=>
         rw[hxp] at hx gx
         simp only at hx gx
         cases hq2:qak 12 2 true n 1 lv r1 with
         |none=>rw[hq2] at hx; cases hx
         |some z2=>
          rw[hq2] at hx
          obtain⟨s4,k',m',y',ks',hpost2,g3,g4,hz2⟩:=qey hw hlv gx hq2
          cases z2 with
          |er a c=>
           cases hx
           exact⟨_,_,⟨qdo hw hpost2.1 rfl,_,_,_,_,rfl,rfl,rfl⟩,qhr hw hl b3 c6 c5 hpost2.1.lt g3 g4 rfl hz2⟩
          |ok e2 r2=>
           cases hx
           obtain⟨he2,hg4⟩:=hpost2
           simp only[E.node,V.dat.injEq,D.agg.injEq,Ww,D.lit.injEq,Value.int.injEq,true_and,Value.string.injEq,and_true] at he2
           obtain⟨rfl,rfl,rfl,rfl⟩:=he2
           have hcp:=qeP hw hg4 (b := .assign true y e2 .nil) (k:=1) (n:=0) (y:=y) (f:=true) (ks:=e2.fo .nil) rfl rfl
           refine⟨_,_,hcp,?_⟩
           have:=qhr hw hl b3 c6 c5 hg4.lt g3 g4 rfl hz2
           rw[this]
           simp[nd]
       ·rw[if_neg c6] at hx
        cases hx
        have hf:=qk7 hg (c:=12) (by decide)
        rw[qhm hg 12]
        exact⟨_,qlv,⟨hf,qdZ⟩,qlf hw hl b3 c1 c2 c4 c3 c5 c6⟩
end
end
section
open F
def qs8(v:V)(σt:S)(cs:List D)(n:Nat):Prop:=(n=0/\cs=[]/\v = .dat (.lit (.slice none 0 0)) /\ σt=[])\/(n≠0/\cs.length=n*4/\v = .gsl cs n 4 3 /\ σt=[.tip cs.length])
abbrev bkF(lv:Nat)(ex:Fr):Fr:=(0,.ptr 0 0)::(1,.int lv)::(4,.ptr 1 0)::(5,.ptr 2 0)::ex
abbrev bkS(T:List Tk)(s:Ps)(v:V)(σt:S):S:=PO T s::zob :: .cells [.int 7,.int 0,.str ⟨#[]⟩,v] :: σt
section
variable{T:List Tk}{s:Ps}{lv:Nat}
theorem qlo (h:s.i<T.length) (hend:s.e≠0\/nxR T s=bs [125]) {v:V} {σt:S} {cs:List D} {n:Nat} (hr:qs8 v σt cs n) :
  Z tR (.loop 1 F155l0 (bkF lv []) (bkS T s v σt))=some (.out (.exit 0) (bkF lv [(19,.bool false)]) (bkS T s v σt)):=by
 have zn:=qcF h
 rw[qab]
 by_cases he0:s.e=0
 ·have he:decide (s.e=0)=true:=decide_eq_true he0
  have hn:=hend.resolve_left (fun h=>h he0)
  rw[hn] at zn
  simp only[bs] at zn
  rcases hr with ⟨rfl,rfl,rfl,rfl⟩|⟨h0,h1,rfl,rfl⟩<;>simp[qaa,qej,he,zn,qah,Wa]
 ·have he:decide (s.e=0)=false:=decide_eq_false he0
  rcases hr with ⟨rfl,rfl,rfl,rfl⟩|⟨h0,h1,rfl,rfl⟩<;>simp[qaa,qej,he,Wa]
theorem qje (h:s.i<T.length) (he0:s.e=0) (hne : ¬ nxR T s=bs [125]) {v:V} {σt:S} {cs:List D} {n:Nat} (hr:qs8 v σt cs n) (hn:n<=2 ^ 40+5) {s2:Ps} {k n':Int} {y:ByteArray} {ks:D} (g1:V.one (.dat ks)=true) (g2:V.cells (.dat ks)=[.dat ks])
  (hz:Z tR (.call 173 [.ptr 0 0,.int lv] [PO T s])=some (.ret (ag k n' y ks) [PO T s2])) :
  ∃ v' σt',qs8 v' σt' (cs++[.lit (.int .i64 k),.lit (.int .i64 n'),.lit (.string y),ks]) (n+1)/\Z tR (.loop 1 F155l0 (bkF lv []) (bkS T s v σt))=Z tR (.loop 1 F155l0 (bkF lv []) (bkS T s2 v' σt')):=by
 have zn:=qcF h
 have he:decide (s.e=0)=true:=decide_eq_true he0
 have hroom:qaI (n+1) 56=true:=by simp only[qaI,decide_eq_true_eq]; omega
 refine⟨.gsl (cs++[.lit (.int .i64 k),.lit (.int .i64 n'),.lit (.string y),ks]) (n+1) 4 3,[.tip (cs++[.lit (.int .i64 k),.lit (.int .i64 n'),.lit (.string y),ks]).length],.inr ⟨by omega,?_,rfl,rfl⟩,?_⟩
 ·rcases hr with ⟨rfl,rfl,_,_⟩|⟨_,h1,_,_⟩
  ·simp
  ·simp[h1]; omega
 ·conv=>lhs; rw[qab]
  simp only[bs] at hne
  rcases hr with ⟨rfl,rfl,rfl,rfl⟩|⟨h0,h1,rfl,rfl⟩
  ·have hr1:qaI 1 56=true:=by decide
   simp[qaa,qej,he,zn,hne,hz,g1,g2,hr1,qbD,qjv,qah,qbX,qaO,Wa]
  ·simp[qaa,qej,he,zn,hne,hz,g1,g2,hroom,h1,qbD,qjv,qah,qbX,qaO,Wa]
theorem qtZ (hw:WfT T) {a c:Nat} (her:Er T s a c) {v:V} {σt:S} {cs:List D} {n:Nat} (hr:qs8 v σt cs n) (hn:n<=2 ^ 40+4) :
  ∃ sL vL σL cs' m',qs8 vL σL cs' m'/\(Er T sL a c/\sL.e≠0)/\Z tR (.loop 1 F155l0 (bkF lv []) (bkS T s v σt))=some (.out (.exit 0) (bkF lv [(19,.bool false)]) (bkS T sL vL σL)):=by
 by_cases he:s.e=0
 ·have hq:=qqE hw her he
  have hz:=qlf (lv:=lv) hw her.lt hq (by decide) (by decide) (by decide) (by decide) (by decide) (by decide)
  obtain⟨f1,f2⟩:=qhn (k:=12) her
  obtain⟨v',σt',r1,r2⟩:=qje her.lt he (by rw[hq]; decide) hr (by omega) rfl rfl hz
  exact⟨_,v',σt',_,_,r1,⟨f1,f2⟩,r2.trans (qlo f1.lt (.inl f2) r1)⟩
 ·exact⟨s,v,σt,cs,n,hr,⟨her,he⟩,qlo her.lt (.inl he) hr⟩
def qoA(T:List Tk)(n:Nat):Prop := ∀ lv s ts a x v σt,1<=lv->lv<=20->Gd T s ts->a.fo.len+ts.length<=2 ^ 40->qs8 v σt a.fo.cells a.fo.len->qbw 12 2 true false false n lv a ts=some x ->
 ∃ sL vL σL cs m,qs8 vL σL cs m/\Z tR (.loop 1 F155l0 (bkF lv []) (bkS T s v σt))=some (.out (.exit 0) (bkF lv [(19,.bool false)]) (bkS T sL vL σL)) /\
  (match x with
   |.ok b r=>cs=b.fo.cells/\m=b.fo.len /\ ∃ tsL,Gd T sL tsL/\nx tsL=some (bs [125])/\tsL.tail=r
   |.er p c=>Er T sL p c)
theorem qs9{n lv:Nat}{ts r:List Tk}{b:Ss}(h:qbT 12 2 true false false n lv ts=some (.ok b r)):r.length<=ts.length-1:=by
 have h1:=qho h (WG n (10*ts.length+1))
 obtain⟨y,h2,h3⟩:=(qgn 12 2 true false false (max n (10*ts.length+1))).1 lv ts (WD _ _)
 rw[h1] at h2
 cases h2
 exact h3 b r rfl
theorem qpj(hw:WfT T){n:Nat}(ihs:qv1 T n)(ihl:qoA T n):qoA T (n+1):=by
 intro lv s ts a x v σt h1 hlv hg hlen hr hx
 rw[qbw] at hx
 cases hn:nx ts with
 |none=>
  obtain⟨g1,g2⟩:=qhj hg hn 12 (α := Ss)
  rw[hn] at hx
  simp only at hx
  rw[g2] at hx
  cases hx
  obtain⟨sL,vL,σL,cs,m,q1,q2,q3⟩:=qtZ (lv:=lv) hw g1 hr (by omega)
  exact⟨sL,vL,σL,cs,m,q1,q3,q2.1⟩
 |some y=>
  obtain⟨b1,b2,b3⟩:=qc2 hg hn
  rw[hn] at hx
  simp only at hx
  by_cases c1:y=bs [125]
  ·rw[if_pos c1] at hx
   cases hx
   exact⟨s,v,σt,_,_,hr,qlo hg.lt (.inr (b3.trans c1)) hr,rfl,rfl,ts,hg,by rw[hn,c1],rfl⟩
  ·rw[if_neg c1] at hx
   have hne : ¬ nxR T s=bs [125]:=by rw[b3]; exact c1
   cases hq:qbT 12 2 true false false n lv ts with
   |none=>rw[hq] at hx; cases hx
   |some z=>
    rw[hq] at hx
    obtain⟨s2,d,hpost,hz⟩:=ihs lv s ts z h1 hlv hg hq
    cases z with
    |er p c=>
     cases hx
     obtain⟨her,k,n',y',ks,rfl,g1,g2⟩:=hpost
     obtain⟨v',σt',r1,r2⟩:=qje hg.lt hg.e hne hr (by omega) g1 g2 hz
     obtain⟨sL,vL,σL,cs,m,q1,q2,q3⟩:=qtZ (lv:=lv) hw her r1 (by omega)
     exact⟨sL,vL,σL,cs,m,q1,r2.trans q3,q2.1⟩
    |ok b r=>
     obtain⟨⟨k,n',y',f,ks,hb,rfl⟩,hg2⟩:=hpost
     have hrl:=qs9 hq
     have hpos:=qhX hn
     obtain⟨v',σt',r1,r2⟩:=qje hg.lt hg.e hne hr (by omega) (ks:=kd f ks.len ks.cells) (by simp) (by simp) hz
     have hfo:(a.app b).fo.cells=a.fo.cells++[.lit (.int .i64 k),.lit (.int .i64 n'),.lit (.string y'),kd f ks.len ks.cells]:=by rw[qgY,qfl,hb]; rfl
     have hfl:(a.app b).fo.len=a.fo.len+1:=by rw[qgY,qc5,hb]; rfl
     rw[<- hfo,<- hfl] at r1
     obtain⟨sL,vL,σL,cs,m,q1,q2,q3⟩:=ihl lv s2 r (a.app b) x v' σt' h1 hlv hg2 (by omega) r1 hx
     exact⟨sL,vL,σL,cs,m,q1,r2.trans q2,q3⟩
theorem qjf (hw:WfT T) (hl:s.i<T.length) {sL:Ps} (hL:sL.i<T.length) {vL:V} {σL:S} {cs:List D} {m:Nat} (hr:qs8 vL σL cs m)
  (zl:Z tR (.loop 1 F155l0 (bkF lv []) (bkS T (openS T (bs [123]) lv s) (.dat (.lit (.slice none 0 0))) []))=some (.out (.exit 0) (bkF lv [(19,.bool false)]) (bkS T sL vL σL))) :
  Z tR (.call 155 [.ptr 0 0,.int lv] [PO T s])=some (.ret (ag 7 0 ⟨#[]⟩ (kd false m cs)) [PO T (expectS T (bs [125]) sL)]):=by
 have zo:=qma hl hw.len (bs [123]) lv
 have ze:=qbH hL hw.len (bs [125])
 generalize openS T (bs [123]) lv s=s1 at zo zl
 generalize expectS T (bs [125]) sL=s2 at ze ⊢
 refine Z_call (pf:=F155) rfl rfl ?_
 simp only[bs] at zo ze
 rcases hr with ⟨rfl,rfl,rfl,rfl⟩|⟨h0,h1,rfl,rfl⟩
 ·simp[F155,zo,ze,zl,Wa]
 ·obtain⟨m,rfl⟩ : ∃ q,m=q+1:=⟨m-1,by omega⟩
  simp[F155,zo,ze,zl,Wa]
theorem qpk(hw:WfT T)(hT:T.length<=2 ^ 40){n:Nat}(ihl:qoA T n):qrA T (n+1):=by
 intro lv s ts x h1 hlv hg hx
 rw[qaN] at hx
 have go:=qk8 hw hg (x:=bs [123]) (by decide) (by decide) lv
 cases ho:qbO 12 2 (bs [123]) lv ts with
 |er p c=>
  rw[ho] at hx go
  cases hx
  obtain⟨g1,g2⟩:=go
  have hr0:qs8 (.dat (.lit (.slice none 0 0))) [] [] 0 := .inl ⟨rfl,rfl,rfl,rfl⟩
  have zl:=qlo (lv:=lv) g1.lt (.inl g2) hr0
  exact⟨_,_,⟨(qbI hw g1 (by decide)).1,_,_,_,_,rfl,by simp,by simp⟩,qjf hw hg.lt g1.lt hr0 zl⟩
 |ok u r=>
  rw[ho] at hx go
  simp only at hx go
  have hlv':=qin ho
  have hrl:r.length<=T.length:=by
   have e:=go.ts
   have key : ∀ l:List Tk,(qrF l).length<=l.length:=fun l=>by
    induction l with
    |nil=>simp[qrF]
    |cons t l ih=>
     rw[qrF]
     split
     ·simp
     ·simp only[Wj]; omega
   rw[<- e]
   exact Yf (key _) (by rw[WT]; omega)
  obtain⟨sL,vL,σL,cs,m,q1,q2,q3⟩:=ihl lv _ r .nil x (.dat (.lit (.slice none 0 0))) [] h1 hlv' go (by simp[Ss.fo]; omega) (.inl ⟨rfl,rfl,rfl,rfl⟩) hx
  cases x with
  |er p c=>exact⟨_,_,⟨(qbI hw q3 (by decide)).1,_,_,_,_,rfl,by simp,by simp⟩,qjf hw hg.lt q3.lt q1 q2⟩
  |ok b r2=>
   obtain⟨rfl,rfl,tsL,q4,q5,q6⟩:=q3
   have gx:=qcL hw q4 (x:=bs [125]) (by decide) (by decide)
   have hxp:qam 12 (bs [125]) tsL = .ok () tsL.tail:=by
    obtain⟨rr,e1,_⟩:=qhk q4
    obtain⟨w1,w2,_⟩:=qc2 q4 q5
    rw[e1]; simp[qam,w1,w2]
   rw[hxp] at gx
   rw[<- q6]
   exact⟨_,_,⟨rfl,gx⟩,qjf hw hg.lt q4.lt q1 q2⟩
theorem qoB(hw:WfT T) : ∀ n,qv1 T n/\qrA T n/\qoA T n
 |0=>⟨fun lv s ts x _ _ _ hx=>by simp[qbT] at hx,fun lv s ts x _ _ _ hx=>by simp[qaN] at hx,fun lv s ts a x v σt _ _ _ _ _ hx=>by simp[qbw] at hx⟩
 |n+1=>by
  obtain⟨ihs,ihb,ihl⟩:=qoB hw n
  exact⟨qqO hw ihb,qpk hw (YX hw.len) ihl,qpj hw ihs ihl⟩
end
end
section
open F
structure N4 where
 k:Int
 n:Int
 s:ByteArray
 d:D
 one:V.one (.dat d)=true
 cl:V.cells (.dat d)=[.dat d]
abbrev rob(r:Nat->N4):Ob := .cells [.int (r 0).k,.int (r 0).n,.str (r 0).s,.dat (r 0).d,.int (r 1).k,.int (r 1).n,.str (r 1).s,.dat (r 1).d,.int (r 2).k,.int (r 2).n,.str (r 2).s,.dat (r 2).d]
def qpR(r:Nat->N4)(k:Nat)(v:N4):Nat->N4:=fun i=>if i=k then v else r i
abbrev qr1:Ob := .cells [.int 0,.int 0,.str ⟨#[]⟩,.dat (.lit (.slice none 0 0)),.int 0,.int 0,.str ⟨#[]⟩,.dat (.lit (.slice none 0 0)),.int 0,.int 0,.str ⟨#[]⟩,.dat (.lit (.slice none 0 0))]
abbrev prF(ex:Fr):Fr:=(2,.ptr 0 0)::(5,.ptr 1 0)::(6,.ptr 2 0)::ex
abbrev prS(T:List Tk)(s:Ps)(r:Nat->N4):S:=[qr1,PO T s,rob r]
def whI(x:ByteArray):Int:=match qaY x with
 |some k=>k
 |none => -1
def qfX:ByteArray:=⟨#[116,105,99,107]⟩
def qpS:ByteArray:=⟨#[97,99,116]⟩
section
variable{T:List Tk}{s:Ps}{r:Nat->N4}
theorem qoW:Z tR (.call 152 [] [])=some (.ret (.dat (.sl [.lit (.string ⟨#[97,99,116]⟩),.lit (.string ⟨#[116,105,99,107]⟩),.lit (.string ⟨#[104,105,116]⟩)] 3 true)) []):=by
 refine Z_call (pf:=F152) rfl rfl ?_
 simp[F152,Wa]
theorem qm0(h:s.i<T.length):Z tR (.loop 0 F132l1 (prF [(7,.int (-1)),(8,.int 0)]) (prS T s r))=some (.out (.exit 2) (prF [(7,.int (whI (nxR T s))),(8,.int 3),(44,.bool false)]) (prS T s r)):=by
 have zn:=qcF h
 have zh:=qoW
 generalize nxR T s=x at zn ⊢
 have r3 : ∀ w:Int,Z tR (.loop 0 F132l1 (prF [(7,.int w),(8,.int 3)]) (prS T s r))=some (.out (.exit 2) (prF [(7,.int w),(8,.int 3),(44,.bool false)]) (prS T s r)):=fun w=>by
  rw[qab]
  simp[qaa,qc0,Wa]
 have r2 : ∀ w:Int,Z tR (.loop 0 F132l1 (prF [(7,.int w),(8,.int 2)]) (prS T s r))=some (.out (.exit 2) (prF [(7,.int (if x=qfM then 2 else w)),(8,.int 3),(44,.bool false)]) (prS T s r)):=fun w=>by
  rw[qab]
  have w3:=qae 3 (by omega)
  by_cases hx:x=qfM
  ·have hx':x=⟨#[104,105,116]⟩:=hx
   have q:=r3 2
   subst hx'
   simp[qaa,qc0,zn,zh,w3,q,qag,qah,bs,qfX,qfM,Wa]
  ·have hx' : ¬ x=⟨#[104,105,116]⟩:=hx
   have q:=r3 w
   simp[qaa,qc0,zn,zh,hx,hx',w3,q,qag,qah,bs,qfX,qfM,Wa]
   try rfl
 have r1 : ∀ w:Int,Z tR (.loop 0 F132l1 (prF [(7,.int w),(8,.int 1)]) (prS T s r))=some (.out (.exit 2) (prF [(7,.int (if x=qfM then 2 else if x=qfX then 1 else w)),(8,.int 3),(44,.bool false)]) (prS T s r)):=fun w=>by
  rw[qab]
  have w3:=qae 2 (by omega)
  by_cases hx:x=qfX
  ·have hx':x=⟨#[116,105,99,107]⟩:=hx
   have q:=r2 1
   subst hx'
   simp[qaa,qc0,zn,zh,w3,q,qag,qah,bs,qfX,qfM,Wa]
  ·have hx' : ¬ x=⟨#[116,105,99,107]⟩:=hx
   have q:=r2 w
   simp[qaa,qc0,zn,zh,hx,hx',w3,q,qag,qah,bs,qfX,qfM,Wa]
   try rfl
 have r0 : ∀ w:Int,Z tR (.loop 0 F132l1 (prF [(7,.int w),(8,.int 0)]) (prS T s r))=some (.out (.exit 2) (prF [(7,.int (if x=qfM then 2 else if x=qfX then 1 else if x=qpS then 0 else w)),(8,.int 3),(44,.bool false)]) (prS T s r)):=fun w=>by
  rw[qab]
  have w3:=qae 1 (by omega)
  by_cases hx:x=qpS
  ·have hx':x=⟨#[97,99,116]⟩:=hx
   have q:=r1 0
   subst hx'
   simp[qaa,qc0,zn,zh,w3,q,qag,qah,bs,qfX,qpS,qfM,Wa]
  ·have hx' : ¬ x=⟨#[97,99,116]⟩:=hx
   have q:=r1 w
   simp[qaa,qc0,zn,zh,hx,hx',w3,q,qag,qah,bs,qfX,qpS,qfM,Wa]
   try rfl
 rw[r0 (-1)]
 congr 4
 unfold whI qaY
 by_cases h1:x=qpS
 ·subst h1; rfl
 ·by_cases h2:x=qfX
  ·subst h2; rfl
  ·by_cases h3:x=qfM
   ·subst h3; rfl
   ·have h1' : ¬ x=bs [97,99,116]:=h1
    have h2' : ¬ x=bs [116,105,99,107]:=h2
    simp[h1,h2,h3,h1',h2']
theorem qty(h:s.i<T.length)(hend:s.e≠0\/(tkAt T s.i).s=⟨#[]⟩):Z tR (.loop 0 F132l0 (prF []) (prS T s r))=some (.out (.exit 0) (prF [(35,.bool false)]) (prS T s r)):=by
 have h1:=qm9 T h
 have h2:=qhe h
 rw[qab]
 by_cases he0:s.e=0
 ·have he:decide (s.e=0)=true:=decide_eq_true he0
  have hn:=hend.resolve_left (fun h=>h he0)
  simp[qaa,qb7,he,h1,h2,hn,(r 0).one,(r 0).cl,(r 1).one,(r 1).cl,(r 2).one,(r 2).cl,qah,qbX,qaO,Wa]
 ·have he:decide (s.e=0)=false:=decide_eq_false he0
  simp[qaa,qb7,he,(r 0).one,(r 0).cl,(r 1).one,(r 1).cl,(r 2).one,(r 2).cl,qbX,qaO,Wa]
theorem qwQ (hw:WfT T) (h:s.i<T.length) (he0:s.e=0) (hne : ¬ (tkAt T s.i).s=⟨#[]⟩) (h1e:(expectS T (bs [111,110]) s).e≠0) :
  Z tR (.loop 0 F132l0 (prF []) (prS T s r))=some (.out (.exit 0) (prF [(42,.bool true)]) (prS T (expectS T (bs [111,110]) s) r)):=by
 have h1:=qm9 T h
 have h2:=qhe h
 have zx:=qbH h hw.len (bs [111,110])
 generalize expectS T (bs [111,110]) s=s1 at zx h1e ⊢
 have he:decide (s.e=0)=true:=decide_eq_true he0
 have he1:decide (s1.e=0)=false:=decide_eq_false h1e
 simp only[bs] at zx
 rw[qab]
 simp[qaa,qb7,he,he1,h1,h2,hne,zx,(r 0).one,(r 0).cl,(r 1).one,(r 1).cl,(r 2).one,(r 2).cl,qah,qbX,qaO,Wa]
theorem qpT (hw:WfT T) (h:s.i<T.length) (he0:s.e=0) (hne : ¬ (tkAt T s.i).s=⟨#[]⟩) {s1:Ps} (hs1:s1=expectS T (bs [111,110]) s) (hl1:s1.i<T.length) (h1e:s1.e=0) (hno:qaY (nxR T s1)=none) :
  Z tR (.loop 0 F132l0 (prF []) (prS T s r))=some (.out (.exit 0) (prF []) (prS T (failS T 12 s1) r)):=by
 have h1:=qm9 T h
 have h2:=qhe h
 have zx:=qbH h hw.len (bs [111,110])
 rw[<- hs1] at zx
 have zw:=qm0 (s:=s1) (r:=r) hl1
 rw[show whI (nxR T s1) = -1 by rw[whI,hno]] at zw
 have zf:=qhQ hl1 12
 have he:decide (s.e=0)=true:=decide_eq_true he0
 have he1:decide (s1.e=0)=true:=decide_eq_true h1e
 simp only[bs] at zx
 simp only[Wd] at zf
 generalize failS T 12 s1=s2 at zf ⊢
 rw[qab]
 simp[qaa,qb7,he,he1,h1,h2,hne,zx,zw,zf,(r 0).one,(r 0).cl,(r 1).one,(r 1).cl,(r 2).one,(r 2).cl,qah,qbX,qaO,Wa]
theorem qiB{x:ByteArray}{k:Nat}(h:qaY x=some k):k<3:=by
 unfold qaY at h
 split at h
 ·cases h; omega
 split at h
 ·cases h; omega
 split at h
 ·cases h; omega
 ·cases h
theorem qwR (hw:WfT T) (h:s.i<T.length) (he0:s.e=0) (hne : ¬ (tkAt T s.i).s=⟨#[]⟩) {s1:Ps} (hs1:s1=expectS T (bs [111,110]) s) (hl1:s1.i<T.length) (h1e:s1.e=0) {k:Nat} (hk:qaY (nxR T s1)=some k) (hr:(r k).k≠0) :
  Z tR (.loop 0 F132l0 (prF []) (prS T s r))=some (.out (.exit 0) (prF []) (prS T (failS T 4 s1) r)):=by
 have h1:=qm9 T h
 have h2:=qhe h
 have zx:=qbH h hw.len (bs [111,110])
 rw[<- hs1] at zx
 have zw:=qm0 (s:=s1) (r:=r) hl1
 rw[show whI (nxR T s1)=k by rw[whI,hk]] at zw
 have zf:=qhQ hl1 4
 have he:decide (s.e=0)=true:=decide_eq_true he0
 have he1:decide (s1.e=0)=true:=decide_eq_true h1e
 simp only[bs] at zx
 simp only[Wd] at zf
 generalize failS T 4 s1=s2 at zf ⊢
 have hk3:=qiB hk
 rw[qab]
 rcases k with _|_|_|k
 ·simp[qaa,qb7,he,he1,h1,h2,hne,zx,zw,zf,hr,(r 0).one,(r 0).cl,(r 1).one,(r 1).cl,(r 2).one,(r 2).cl,qah,qbX,qaO,Wa]
 ·simp only[WL,Wn,Wd,Ye,Int.zero_add] at zw hr
  simp[qaa,qb7,he,he1,h1,h2,hne,zx,zw,zf,hr,(r 0).one,(r 0).cl,(r 1).one,(r 1).cl,(r 2).one,(r 2).cl,qah,qbX,qaO,Wa]
 ·simp only[WL,Nat.reduceAdd,Wd] at zw hr
  simp[qaa,qb7,he,he1,h1,h2,hne,zx,zw,zf,hr,(r 0).one,(r 0).cl,(r 1).one,(r 1).cl,(r 2).one,(r 2).cl,qah,qbX,qaO,Wa]
 ·omega
theorem qnR (hw:WfT T) (h:s.i<T.length) (he0:s.e=0) (hne : ¬ (tkAt T s.i).s=⟨#[]⟩) {s1 s3:Ps} (hs1:s1=expectS T (bs [111,110]) s) (hl1:s1.i<T.length) (h1e:s1.e=0) {k:Nat} (hk:qaY (nxR T s1)=some k) (hr:(r k).k=0)
  (v:N4) (hz:Z tR (.call 155 [.ptr 0 0,.int 1] [PO T (takeS T s1)])=some (.ret (ag v.k v.n v.s v.d) [PO T s3])) :
  Z tR (.loop 0 F132l0 (prF []) (prS T s r))=Z tR (.loop 0 F132l0 (prF []) (prS T s3 (qpR r k v))):=by
 have h1:=qm9 T h
 have h2:=qhe h
 have zx:=qbH h hw.len (bs [111,110])
 rw[<- hs1] at zx
 have zw:=qm0 (s:=s1) (r:=r) hl1
 rw[show whI (nxR T s1)=k by rw[whI,hk]] at zw
 have zt:=qem hl1 hw.len
 generalize takeS T s1=s2 at zt hz
 have he:decide (s.e=0)=true:=decide_eq_true he0
 have he1:decide (s1.e=0)=true:=decide_eq_true h1e
 simp only[bs] at zx
 have hk3:=qiB hk
 conv=>lhs; rw[qab]
 rcases k with _|_|_|k
 ·have hr':decide ((r 0).k=0)=true:=decide_eq_true hr
  simp[qaa,qb7,qpR,he,he1,h1,h2,hne,zx,zw,zt,hz,hr',v.one,v.cl,(r 0).one,(r 0).cl,(r 1).one,(r 1).cl,(r 2).one,(r 2).cl,qah,qbX,qaO,Wa]
  rfl
 ·simp only[WL,Wn,Wd,Ye,Int.zero_add] at zw hr
  have hr':decide ((r 1).k=0)=true:=decide_eq_true hr
  simp[qaa,qb7,qpR,he,he1,h1,h2,hne,zx,zw,zt,hz,hr',v.one,v.cl,(r 0).one,(r 0).cl,(r 1).one,(r 1).cl,(r 2).one,(r 2).cl,qah,qbX,qaO,Wa]
  rfl
 ·simp only[WL,Nat.reduceAdd,Wd] at zw hr
  have hr':decide ((r 2).k=0)=true:=decide_eq_true hr
  simp[qaa,qb7,qpR,he,he1,h1,h2,hne,zx,zw,zt,hz,hr',v.one,v.cl,(r 0).one,(r 0).cl,(r 1).one,(r 1).cl,(r 2).one,(r 2).cl,qah,qbX,qaO,Wa]
  rfl
 ·omega
theorem qy7(hw:WfT T){a c:Nat}(her:Er T s a c) : ∃ s' ex,(s'.e=c/\s'.a=a/\s'.i<T.length)/\Z tR (.loop 0 F132l0 (prF []) (prS T s r))=some (.out (.exit 0) (prF ex) (prS T s' r)):=by
 by_cases he:s.e=0
 ·have hne : ¬ (tkAt T s.i).s=⟨#[]⟩:=fun h0=>by
   rcases her.or with ⟨h1,_⟩|⟨_,h2,_⟩
   ·rw[he] at h1; exact her.c0 h1.symm
   ·rcases Yd (s.i+1) T.length with hl|hl
    ·exact hw.pos _ hl (by rw[h0]; rfl)
    ·have:=(hw.last s.i (by have:=her.lt; omega)).2
     rw[this] at h2
     exact her.c0 h2.symm
  obtain⟨h1,h2⟩:=qbI hw her (x:=bs [111,110]) (by decide)
  refine⟨_,_,?_,qwQ hw her.lt he hne h2⟩
  rcases h1.or with ⟨q1,q2⟩|⟨q1,_⟩
  ·exact⟨q1,q2,h1.lt⟩
  ·exact absurd q1 h2
 ·refine⟨s,_,?_,qty her.lt (.inl he)⟩
  rcases her.or with ⟨q1,q2⟩|⟨q1,_⟩
  ·exact⟨q1,q2,her.lt⟩
  ·exact absurd q1 he
def qcR:Option Ss->N4
 |none=>⟨0,0,⟨#[]⟩,.lit (.slice none 0 0),rfl,rfl⟩
 |some b=>⟨7,0,⟨#[]⟩,kd false b.fo.len b.fo.cells,by simp,by simp⟩
theorem qnS (hw:WfT T) : ∀ (n:Nat) (h:Nat->Option Ss) (s:Ps) (ts:List Tk) (x:Rz (Nat->Option Ss)),Gd T s ts->qcj 12 2 4 true false false n h ts=some x ->
  ∃ s' ex r',s'.i<T.length/\Z tR (.loop 0 F132l0 (prF []) (prS T s (fun k=>qcR (h k))))=some (.out (.exit 0) (prF ex) (prS T s' r')) /\
   (match x with
    |.ok h' _=>s'.e=0/\r'=fun k=>qcR (h' k)
    |.er a c=>s'.e=c/\s'.a=a/\c≠0)
 |0,h,s,ts,x,_,hx=>by simp[qcj] at hx
 |n+1,h,s,ts,x,hg,hx=>by
  rw[qcj] at hx
  have er : ∀ {s1:Ps} {a c:Nat} {α : Type} (r:Nat->N4),Er T s1 a c -> ∃ s' ex r',s'.i<T.length/\Z tR (.loop 0 F132l0 (prF []) (prS T s1 r))=some (.out (.exit 0) (prF ex) (prS T s' r'))/\(s'.e=c/\s'.a=a/\c≠0):=fun r her=>by
   obtain⟨s',ex,q1,q2⟩:=qy7 (r:=r) hw her
   exact⟨s',ex,r,q1.2.2,q2,q1.1,q1.2.1,her.c0⟩
  cases hn:nx ts with
  |none=>
   obtain⟨g1,g2⟩:=qhj hg hn 12 (α := Nat->Option Ss)
   rw[hn] at hx
   simp only at hx
   rw[g2] at hx
   cases hx
   exact er (α := Unit) _ g1
  |some y=>
   obtain⟨b1,b2,b3⟩:=qc2 hg hn
   rw[hn] at hx
   simp only at hx
   by_cases c1:y.size=0
   ·rw[if_pos c1] at hx
    cases hx
    have hy:y=⟨#[]⟩:=Yu.1 c1
    exact⟨s,_,_,hg.lt,qty hg.lt (.inr (by rw[b2,hy])),hg.e,rfl⟩
   ·rw[if_neg c1] at hx
    have hne : ¬ (tkAt T s.i).s=⟨#[]⟩:=fun h0=>c1 (by rw[<- b2,h0]; rfl)
    have gx:=qcL hw hg (x:=bs [111,110]) (by decide) (by decide)
    cases hxp:qam 12 (bs [111,110]) ts with
    |er a c=>
     rw[hxp] at hx gx
     cases hx
     obtain⟨q1,q2⟩:=gx
     refine⟨_,_,_,q1.lt,qwQ hw hg.lt hg.e hne q2,?_⟩
     rcases q1.or with ⟨q3,q4⟩|⟨q3,_⟩
     ·exact⟨q3,q4,q1.c0⟩
     ·exact absurd q3 q2
    |ok u r1=>
     rw[hxp] at hx gx
     simp only at hx gx
     have fin : ∀ {c:Nat},c≠0->(match (failP c r1:Rz (Nat->Option Ss)) with
       |.ok h' _=>(failS T c (expectS T (bs [111,110]) s)).e=0/\(fun k=>qcR (h k))=fun k=>qcR (h' k)
       |.er a c'=>(failS T c (expectS T (bs [111,110]) s)).e=c'/\(failS T c (expectS T (bs [111,110]) s)).a=a/\c'≠0):=fun {c} hc=>by
      rw[qhm gx c]
      have e:failS T c (expectS T (bs [111,110]) s)=⟨(expectS T (bs [111,110]) s).i,(tkAt T (expectS T (bs [111,110]) s).i).at_,if (tkAt T (expectS T (bs [111,110]) s).i).bad≠0 then (tkAt T (expectS T (bs [111,110]) s).i).bad else c⟩:=by simp[failS,gx.e]
      rw[e]
      by_cases hb:(tkAt T (expectS T (bs [111,110]) s).i).bad=0
      ·simp[hb,hc]
      ·simp[hb]
     cases hn2:nx r1 with
     |none=>
      rw[hn2] at hx
      cases hx
      have hq:=(qhl gx hn2).2
      refine⟨_,_,_,by rw[qiI]; exact gx.lt,qpT hw hg.lt hg.e hne rfl gx.lt gx.e (by rw[hq]; decide),fin (by decide)⟩
     |some w=>
      rw[hn2] at hx
      simp only at hx
      have hw3:=(qc2 gx hn2).2.2
      cases hh:qaY w with
      |none=>
       rw[hh] at hx
       cases hx
       exact⟨_,_,_,by rw[qiI]; exact gx.lt,qpT hw hg.lt hg.e hne rfl gx.lt gx.e (by rw[hw3]; exact hh),fin (by decide)⟩
      |some k=>
       rw[hh] at hx
       simp only at hx
       cases hhk:h k with
       |some b0=>
        rw[hhk] at hx
        simp only[Option.isSome_some,if_true] at hx
        cases hx
        exact⟨_,_,_,by rw[qiI]; exact gx.lt,qwR hw hg.lt hg.e hne rfl gx.lt gx.e (by rw[hw3]; exact hh) (by simp[qcR,hhk]),fin (by decide)⟩
       |none=>
        rw[hhk] at hx
        simp only[Yv,Wm,if_false] at hx
        have hw0:w.size≠0:=by
         intro h0
         have:w=⟨#[]⟩:=Yu.1 h0
         rw[this,show qaY ⟨#[]⟩=none from by decide] at hh
         cases hh
        have hgt:=qga hw gx hn2 hw0
        cases hqb:qaN 12 2 true false false n 1 r1.tail with
        |none=>rw[hqb] at hx; cases hx
        |some z=>
         rw[hqb] at hx
         obtain⟨s3,d,hpost,hz⟩:=(qoB hw n).2.1 1 _ r1.tail z (by omega) (by omega) hgt hqb
         simp only[Wd] at hz
         cases z with
         |er a c=>
          cases hx
          obtain⟨her,k',n',y',ks,rfl,g1,g2⟩:=hpost
          have hr:=qnR (r:=fun k=>qcR (h k)) hw hg.lt hg.e hne rfl gx.lt gx.e (by rw[hw3]; exact hh) (by simp[qcR,hhk]) ⟨k',n',y',ks,g1,g2⟩ hz
          obtain⟨s',ex,r',q1,q2,q3⟩:=er (α := Unit) (qpR (fun k=>qcR (h k)) k ⟨k',n',y',ks,g1,g2⟩) her
          exact⟨s',ex,r',q1,hr.trans q2,q3⟩
         |ok b r2=>
          obtain⟨rfl,hg3⟩:=hpost
          have hr:=qnR (r:=fun k=>qcR (h k)) hw hg.lt hg.e hne rfl gx.lt gx.e (by rw[hw3]; exact hh) (by simp[qcR,hhk]) (qcR (some b)) hz
          have hu:qpR (fun k=>qcR (h k)) k (qcR (some b))=fun i=>qcR (if i=k then some b else h i):=by
           funext i
           unfold qpR
           split<;>rfl
          rw[hu] at hr
          obtain⟨s',ex,r',q1,q2,q3⟩:=qnS hw n (fun i=>if i=k then some b else h i) s3 r2 x hg3 hx
          exact⟨s',ex,r',q1,hr.trans q2,q3⟩
end
end
section
open F
theorem qlp(s:ByteArray) : ∀ (n i:Nat) (t:Tk),t∈allT s n i -> ∃ j,j<s.size/\t=tokAt 12 2 6 s j
 |0,i,t,h=>by simp[allT] at h
 |n+1,i,t,h=>by
  simp only[allT] at h
  split at h
  ·rename_i hi
   rcases Ws.1 h with rfl|h
   ·exact⟨i,hi,rfl⟩
   ·exact qlp s n _ t h
  ·simp at h
theorem qq8{s:ByteArray}(hl:s.size<2 ^ 30){j:Nat}(hj:j<s.size):TokP (tokAt 12 2 6 s j):=by
 obtain⟨p1,p2⟩:=qfn hj 12 2 6
 obtain⟨c,h1,h2⟩:=qh6 hj
 have hd:=qdR h2
 rw[qcB,hd] at p2 ⊢
 generalize (byl s).drop (j+1)=r at *
 have hsz:(bs (tokL 12 2 6 (c::r)).1).size<2 ^ 40:=by simp only at p2; omega
 have start : ∀ (p:UInt8->Bool) (x:UInt8) (w:List UInt8),qaj p (bs (x::w))=p x:=fun p x w=>by rw[qaS,qbi]; rfl
 by_cases hlet:qaG c=true
 ·have hw:qaq c=true:=by simp[qaq,hlet]
  have e:(c::r).take (qa3 qaq (c::r))=c::r.take (qa3 qaq r):=by simp[qa3,hw]
  have ht:(tokL 12 2 6 (c::r)).1=c::r.take (qa3 qaq r):=by simp only[tokL,hlet,if_true]; exact e
  rw[ht]
  have hnd:qal c=false:=by
   simp only[qal,qaG,Wt,decide_eq_true_eq,Yn,decide_eq_false_iff_not] at hlet ⊢
   omega
  refine⟨fun _ h=>?_,fun _ h=>?_⟩
  ·have:=qkr h
   simp only[Ww] at this
   rw[this.1] at hlet
   exact absurd hlet (by decide)
  ·simp only at h
   rw[start,hnd] at h
   cases h
 ·by_cases hdig:qal c=true
  ·have e:(c::r).take (qa3 qal (c::r))=c::r.take (qa3 qal r):=by simp[qa3,hdig]
   have ht:tokL 12 2 6 (c::r)=((c::r).take (qa3 qal (c::r)),if 2147483647<digV ((c::r).take (qa3 qal (c::r))) then 6 else 0):=by simp only[tokL,hlet,hdig,if_true,Wm,if_false]
   rw[ht] at hsz ⊢
   refine⟨fun _ h=>?_,fun h _=>⟨fun b hb=>?_,?_,hsz⟩⟩
   ·simp only at h
    rw[e] at h
    have:=qkr h
    simp only[Ww] at this
    rw[this.1] at hdig
    exact absurd hdig (by decide)
   ·exact qgv qal (c::r) b hb
   ·simp only at h ⊢
    split at h
    ·cases h
    ·rename_i hb
     exact YC.1 hb
  ·by_cases hp:bs ((c::r).take 2)∈qdh
   ·have ht:tokL 12 2 6 (c::r)=((c::r).take 2,0):=by simp only[tokL,hlet,hdig,if_pos hp,Wm,if_false]
    rw[ht]
    have key : ∀ w:List UInt8,bs w∈qdh->bs w≠qS/\qaj qal (bs w)=false:=fun w hw=>by
     rcases pair_cases hw with rfl|rfl|rfl|rfl|rfl|rfl<;>decide
    obtain⟨k1,k2⟩:=key _ hp
    exact⟨fun _=>k1,fun _ h=>by rw[k2] at h; cases h⟩
   ·by_cases hs:c.toNat∈symB
    ·have ht:tokL 12 2 6 (c::r)=([c],0):=by simp only[tokL,hlet,hdig,if_neg hp,if_pos hs,Wm,if_false]
     rw[ht]
     refine⟨fun _ h=>?_,fun _ h=>?_⟩
     ·have:=qkr h
      simp only[Ww,and_true] at this
      rw[this] at hs
      exact absurd hs (by decide)
     ·simp only at h
      rw[start] at h
      exact absurd h hdig
    ·have ht:tokL 12 2 6 (c::r)=([c],12):=by simp only[tokL,hlet,hdig,if_neg hp,if_neg hs,Wm,if_false]
     rw[ht]
     exact⟨fun h=>(by cases h),fun h=>(by cases h)⟩
theorem qvH{s:ByteArray}(hl:s.size<2 ^ 30):WfT (qlG s):=by
 obtain⟨_,hlen⟩:=qoM s hl
 have hlen2:(qlG s).length=(allT s (s.size+1) (qaD false (byl s))).length+1:=by simp[qlG]
 refine⟨by omega,fun t ht=>?_,fun i hi=>?_,fun i hi=>?_⟩
 ·rcases Wz.1 ht with h|h
  ·obtain⟨j,hj,rfl⟩:=qlp s _ _ t h
   exact qq8 hl hj
  ·rw[Wk.1 h]
   exact⟨fun _=>show (⟨#[]⟩:ByteArray)≠qS by decide,fun _ h=>(by cases h)⟩
 ·have h1:i<(allT s (s.size+1) (qaD false (byl s))).length:=by omega
  have e:tkAt (qlG s) i=(allT s (s.size+1) (qaD false (byl s)))[i]:=by
   rw[<- qhd (by omega)]
   exact List.getElem_append_left h1
  obtain⟨j,hj,he⟩:=qlp s _ _ _ (Yt h1)
  rw[e,he]
  have:=qfn hj 12 2 6
  omega
 ·have e:tkAt (qlG s) i=⟨s.size,⟨#[]⟩,0⟩:=by
   rw[<- qhd (by omega)]
   have h2:i=(allT s (s.size+1) (qaD false (byl s))).length:=by omega
   subst h2
   simp[qlG]
  rw[e]
  exact⟨rfl,rfl⟩
def qh7(s:ByteArray):List Tk:=qbY 12 2 6 s (s.size+1) 0
def qbK(f fi fb:Bool)(s:ByteArray):Rz (Nat->Option Ss):=
 if 2000<s.size then .er 2000 2 else match qcj 12 2 4 f fi fb (10*(qh7 s).length+10) (fun _=>none) (qh7 s) with
  |some x=>x
  |none => .er 0 0
theorem qcD{f fi fb:Bool}{s:ByteArray}(h : ¬ 2000<s.size):qcj 12 2 4 f fi fb (10*(qh7 s).length+10) (fun _=>none) (qh7 s)=some (qbK f fi fb s):=by
 obtain⟨y,hy,_⟩:=qlI 12 2 4 f fi fb (10*(qh7 s).length+10) (fun _=>none) (qh7 s) (by omega)
 unfold qbK
 rw[if_neg h,hy]
abbrev qq9(r:Nat->N4):V := .dat (.agg [.lit (.int .i64 (r 0).k),.lit (.int .i64 (r 0).n),.lit (.string (r 0).s),(r 0).d,.lit (.int .i64 (r 1).k),.lit (.int .i64 (r 1).n),.lit (.string (r 1).s),(r 1).d,.lit (.int .i64 (r 2).k),.lit (.int .i64 (r 2).n),.lit (.string (r 2).s),(r 2).d])
def qev(f fi fb:Bool)(s:ByteArray):V:=match qbK f fi fb s with
 |.ok h _ => .tup [qq9 fun k=>qcR (h k),.int 0,.int 0]
 |.er a c => .tup [qq9 fun _=>qcR none,.int a,.int c]
theorem qvI(s:ByteArray)(hl:s.size<2 ^ 30):Z tR (.call 132 [.str s] [])=some (.ret (qev true false false s) []):=by
 refine Z_call (pf:=F132) rfl rfl ?_
 unfold qev
 by_cases hbig:2000<s.size
 ·have hbig':(2000:Int)<s.size:=by omega
  have:qbK true false false s = .er 2000 2:=by rw[qbK,if_pos hbig]
  rw[this]
  simp[F132,V.len,hbig',qcR,Wa]
 ·have hbig' : ¬ (2000:Int)<s.size:=by omega
  have hw:=qvH hl
  obtain⟨zt,hlen⟩:=qoM s hl
  have hg:Gd (qlG s) ⟨0,0,0⟩ (qh7 s):=⟨rfl,rfl,by simp[qlG],by rw[WJ]; exact qtq s⟩
  obtain⟨s',ex,r',q1,q2,q3⟩:=qnS hw _ _ _ _ _ hg (qcD hbig)
  have q2':Z tR (.loop 0 F132l0 [(2,.ptr 0 0),(5,.ptr 1 0),(6,.ptr 2 0)] [qr1,.cells [.dat (.sl (tkC (qlG s)) (qlG s).length false),.int 0,.int 0,.int 0],qr1])=some (.out (.exit 0) (prF ex) (prS (qlG s) s' r')):=q2
  cases hv:qbK true false false s with
  |ok h ts=>
   rw[hv] at q3
   obtain⟨q4,rfl⟩:=q3
   have he:decide (s'.e=0)=true:=decide_eq_true q4
   simp[F132,V.len,hbig',zt,q2',he,(qcR (h 0)).one,(qcR (h 0)).cl,(qcR (h 1)).one,(qcR (h 1)).cl,(qcR (h 2)).one,(qcR (h 2)).cl,qbX,qaO,Wa]
  |er a c=>
   rw[hv] at q3
   obtain⟨q4,q5,q6⟩:=q3
   have he:decide (s'.e=0)=false:=decide_eq_false (by rw[q4]; exact q6)
   simp[F132,V.len,hbig',zt,q2',he,qcR,(r' 0).one,(r' 0).cl,(r' 1).one,(r' 1).cl,(r' 2).one,(r' 2).cl,qbX,qaO,Wa]
   exact⟨by rw[q5],by rw[q4]⟩
end
end Go.Pm
