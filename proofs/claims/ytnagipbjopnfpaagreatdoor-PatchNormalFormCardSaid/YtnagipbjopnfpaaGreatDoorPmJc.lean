/- Chapter 13's reference parser: a token. -/
import Derived.Test.YtnagipbjopnfpaaGreatDoorPmAL
import Derived.Test.YtnagipbjopnfpaaGreatDoorPmDj
import Derived.Test.YtnagipbjopnfpaaGreatDoorPmYf
import Derived.Test.YtnagipbjopnfpaaGreatDoorPmTi
import Derived.Test.YtnagipbjopnfpaaGreatDoorPmG5
import Derived.Laws.BitsAllLaws
import Derived.Laws.Bits64
set_option linter.unusedSimpArgs false
set_option linter.unusedVariables false
set_option maxHeartbeats 4000000
namespace Go.Pm
section
open F
abbrev tk0:Ob := .cells [.int 0,.str ⟨#[]⟩,.int 0]
theorem qld (s:ByteArray) (hl:s.size<2 ^ 40) (a:Int) : ∀ (m i:Nat) (ex:Fr),i+m=s.size->(ex=[]\/ex=[(19,.bool true)]) ->
  ∃ t v,Z tR (.loop 0 F171l0 ((0,.str s)::(1,.int a)::(4,.ptr 0 0)::(5,.int i)::ex) [tk0])=some (.out (.exit 0) [(0,.str s),(1,.int a),(4,.ptr 0 0),(5,.int ((i+qbl qaz ((byl s).drop i):Nat))),(t,.bool v)] [tk0])
 |0,i,ex,hi,hex=>by
  obtain rfl:i=s.size:=by omega
  have hd:(byl s).drop s.size=[]:=WM (by rw[qau]; exact Wj _)
  refine⟨35,false,?_⟩
  rw[qaa,hd]
  rcases hex with rfl|rfl<;>simp[qab,qfl,V.len,qbl,Wa]
 |m+1,i,ex,hi,hex=>by
  obtain⟨c,h1,h2⟩:=qiY (s:=s) (i:=i) (by omega)
  have hd:=qd0 h2
  have hlt:(i:Int)<s.size:=by omega
  have w1:=qai ((i:Int)+1) (by omega)
  have zl:=qkS c
  have zd:=qmW c
  obtain⟨t,v,ih⟩:=qld s hl a m (i+1) [] (by omega) (.inl rfl)
  simp only[WE,Wt] at ih
  by_cases hc:qaz c=true
  ·refine⟨t,v,?_⟩
   have e:(i:Int)+((qbl qaz ((byl s).drop (i+1)):Int)+1)=i+1+qbl qaz ((byl s).drop (i+1)):=by omega
   rw[qaa,hd]
   simp only[qaz,Yl] at hc
   by_cases hcl:qaQ c=true
   ·rcases hex with rfl|rfl<;>simp[qab,qfl,V.len,qbl,h1,hlt,w1,zl,zd,hcl,ih,qaz,e,Wa]
   ·have hcd:qaq c=true:=by rcases hc with h|h; exact absurd h hcl; exact h
    rcases hex with rfl|rfl<;>simp[qab,qfl,V.len,qbl,h1,hlt,w1,zl,zd,hcl,hcd,ih,qaz,e,Wa]
  ·refine⟨35,false,?_⟩
   simp only[qaz,Yl,not_or] at hc
   rw[qaa,hd]
   rcases hex with rfl|rfl<;>simp[qab,qfl,V.len,qbl,h1,hlt,w1,zl,zd,hc.1,hc.2,qaz,Wa]
theorem qni (s:ByteArray) (hl:s.size<2 ^ 40) (a:Int) : ∀ (m i:Nat) (ex:Fr),i+m=s.size->(ex=[]\/ex=[(59,.bool true)]) ->
  ∃ t v,Z tR (.loop 0 F171l1 ((0,.str s)::(1,.int a)::(4,.ptr 0 0)::(5,.int i)::ex) [tk0])=some (.out (.exit 2) [(0,.str s),(1,.int a),(4,.ptr 0 0),(5,.int ((i+qbl qaq ((byl s).drop i):Nat))),(t,.bool v)] [tk0])
 |0,i,ex,hi,hex=>by
  obtain rfl:i=s.size:=by omega
  have hd:(byl s).drop s.size=[]:=WM (by rw[qau]; exact Wj _)
  refine⟨69,false,?_⟩
  rw[qaa,hd]
  rcases hex with rfl|rfl<;>simp[qab,qg1,V.len,qbl,Wa]
 |m+1,i,ex,hi,hex=>by
  obtain⟨c,h1,h2⟩:=qiY (s:=s) (i:=i) (by omega)
  have hd:=qd0 h2
  have hlt:(i:Int)<s.size:=by omega
  have w1:=qai ((i:Int)+1) (by omega)
  have zl:=qkS c
  have zd:=qmW c
  obtain⟨t,v,ih⟩:=qni s hl a m (i+1) [] (by omega) (.inl rfl)
  simp only[WE,Wt] at ih
  by_cases hc:qaq c=true
  ·refine⟨t,v,?_⟩
   have e:(i:Int)+((qbl qaq ((byl s).drop (i+1)):Int)+1)=i+1+qbl qaq ((byl s).drop (i+1)):=by omega
   rw[qaa,hd]
   rcases hex with rfl|rfl<;>simp[qab,qg1,V.len,qbl,h1,hlt,w1,zd,hc,ih,e,Wa]
  ·refine⟨69,false,?_⟩
   rw[qaa,hd]
   rcases hex with rfl|rfl<;>simp[qab,qg1,V.len,qbl,h1,hlt,w1,zd,hc,Wa]
abbrev tkD(t:Tk):V := .dat (.agg [.lit (.int .i64 t.at_),.lit (.string t.s),.lit (.int .i64 t.bad)])
def qAj:List ByteArray:=symB.map fun n=>bs [n.toUInt8]
theorem qr1(c:UInt8):bs [c]∈qAj↔c.toNat∈symB:=by
 constructor
 ·intro h
  obtain⟨n,hn,he⟩:=WV.1 h
  have:=qrq he
  simp only[WI,and_true] at this
  rw[<- this]
  revert hn
  simp only[symB,Wo,Wx,or_false]
  rintro (rfl|rfl|rfl|rfl|rfl|rfl|rfl|rfl|rfl|rfl|rfl|rfl|rfl|rfl|rfl|rfl)<;>decide
 ·intro h
  refine WV.2 ⟨c.toNat,h,?_⟩
  simp
theorem qnj(p:UInt8->Bool) : ∀ l:List UInt8,∀ b∈l.take (qbl p l),p b=true
 |[],b,h=>by simp[qbl] at h
 |c::r,b,h=>by
  simp only[qbl] at h
  split at h
  ·rename_i hc
   rw[List.take_succ_cons] at h
   rcases Wo.1 h with rfl|h
   ·exact hc
   ·exact qnj p r b h
  ·simp at h
theorem qu2(s:ByteArray)(hl:s.size<2 ^ 40){i:Nat}(hi:i<s.size):Z tR (.call 171 [.str s,.int i] [])=some (.ret (tkD (tokAt 12 2 6 s i)) []):=by
 refine qac (pf:=F171) rfl rfl ?_
 obtain⟨c,h1,h2⟩:=qiY hi
 have hd:=qd0 h2
 have hlt : ¬ (s.size:Int)<=i:=by omega
 have hlt':(i:Int)<s.size:=by omega
 have zl:=qkS c
 have zd:=qmW c
 have w1:=qai ((i:Int)+1) (by omega)
 obtain⟨t1,v1,zw⟩:=qld s hl i (s.size-(i+1)) (i+1) [(19,.bool true)] (by omega) (.inr rfl)
 obtain⟨t2,v2,zg⟩:=qni s hl i (s.size-(i+1)) (i+1) [(59,.bool true)] (by omega) (.inr rfl)
 have e1 : ∀ p,p c=true->i+1+qbl p ((byl s).drop (i+1))=qox p s (s.size-i) i:=fun p hp=>by
  rw[qhr p s _ i (Wj _),hd]
  simp only[qbl,hp,if_true]; omega
 have e2 : ∀ p,qox p s (s.size-i) i<=s.size:=fun p=>by
  rw[qhr p s _ i (Wj _)]
  have:=qfb p ((byl s).drop i)
  rw[WY,qau] at this
  omega
 have e3 : ∀ p,i<=qox p s (s.size-i) i:=fun p=>by rw[qhr p s _ i (Wj _)]; omega
 simp only[WE,Wt] at zw zg
 have sz : ∀ j,j<=s.size->i<=j->(s.extract i j).size=j-i:=fun j hj hij=>by rw[ByteArray.size_extract]; omega
 by_cases hlet:qaQ c=true
 ·have hw:qaz c=true:=by simp[qaz,hlet]
  have q:=e1 qaz hw
  have q2:=e2 qaz
  have q3:=e3 qaz
  generalize hj:qox qaz s (s.size-i) i=j at q q2 q3
  have q':(i:Int)+1+qbl qaz ((byl s).drop (i+1))=j:=by omega
  rw[q'] at zw
  have zr:=qpg (s.extract i j)
  have hsz:=sz j q2 q3
  have w2:=qai ((j:Int)-i) (by omega)
  have b1:(0:Int)<=i/\(i:Int)<=j:=by omega
  have b2:(0:Int)<=j/\(j:Int)<=s.size:=by omega
  have htok:tokAt 12 2 6 s i=⟨i,s.extract i j,if 8<(s.extract i j).size/\s.extract i j∉fieldNames/\s.extract i j∉wordNames then 2 else 0⟩:=by
   unfold tokAt
   rw[h1]
   simp only[hlet,if_true,hj]
  rw[htok,hsz]
  obtain⟨w,hwx⟩ : ∃ w,s.extract i j=w:=⟨_,rfl⟩
  rw[hwx] at zr ⊢
  have b3:(j:Int)<=s.size:=by omega
  have b4:(i:Int)<=j:=by omega
  by_cases h8:8<j-i
  ·have h8':(8:Int)<(j:Int)-i:=by omega
   by_cases hres:w∈fieldNames\/w∈wordNames
   ·have hn : ¬ (8<j-i/\w∉fieldNames/\w∉wordNames):=by
     rintro ⟨_,h,h'⟩
     rcases hres with hres|hres
     ·exact h hres
     ·exact h' hres
    simp[F171,V.len,h1,hlt,zl,hlet,zw,qa4,bound,hwx,b3,b4,w1,w2,h8',zr,hres,if_neg hn,Wa]
   ·have hn:8<j-i/\w∉fieldNames/\w∉wordNames:=⟨h8,fun h=>hres (.inl h),fun h=>hres (.inr h)⟩
    simp[F171,V.len,h1,hlt,zl,hlet,zw,qa4,bound,hwx,b3,b4,w1,w2,h8',zr,hres,if_pos hn,Wa]
  ·have h8' : ¬ (8:Int)<(j:Int)-i:=by omega
   have hn : ¬ (8<j-i/\w∉fieldNames/\w∉wordNames):=fun h=>h8 h.1
   simp[F171,V.len,h1,hlt,zl,hlet,zw,qa4,bound,hwx,b3,b4,w1,w2,h8',if_neg hn,Wa]
 ·by_cases hdig:qaq c=true
  ·have q:=e1 qaq hdig
   have q2:=e2 qaq
   have q3:=e3 qaq
   have hrun:=qhr qaq s _ i (Wj (s.size-i))
   have hall:=qnj qaq ((byl s).drop i)
   have htake:(byl (s.extract i (qox qaq s (s.size-i) i)))=((byl s).drop i).take (qbl qaq ((byl s).drop i)):=by
    rw[hrun,qbS,qbp]
   generalize hj:qox qaq s (s.size-i) i=j at q q2 q3 htake
   have q':(i:Int)+1+qbl qaq ((byl s).drop (i+1))=j:=by omega
   rw[q'] at zg
   have hsz:=sz j q2 q3
   have zv:=qw5 (s:=s.extract i j) (fun b hb=>hall b (by rw[<- htake]; exact hb)) (by omega)
   have b3:(j:Int)<=s.size:=by omega
   have b4:(i:Int)<=j:=by omega
   have htok:tokAt 12 2 6 s i=⟨i,s.extract i j,if 2147483647<digV (s.extract i j).data.toList then 6 else 0⟩:=by
    unfold tokAt
    rw[h1]
    simp only[hlet,hdig,if_true,hj,Wn,if_false,ByteArray.toList_eq]
   rw[htok]
   obtain⟨w,hw⟩ : ∃ w,s.extract i j=w:=⟨_,rfl⟩
   rw[hw] at zv ⊢
   by_cases hb:2147483647<digV w.data.toList
   ·have hv:qxZ w.data.toList = -1:=by rw[qxZ,if_pos hb]
    rw[hv] at zv
    simp[F171,V.len,h1,hlt,zl,zd,hlet,hdig,zg,qa4,bound,b3,b4,w1,hw,zv,hb,Wa]
   ·have hv : ¬ qxZ w.data.toList<0:=by rw[qxZ,if_neg hb]; omega
    simp[F171,V.len,h1,hlt,zl,zd,hlet,hdig,zg,qa4,bound,b3,b4,w1,hw,zv,hv,hb,Wa]
  ·have w3:=qai ((i:Int)+2) (by omega)
   have b8:(0:Int)<=(i:Int)+2:=by omega
   have b9:((i:Int)+2).toNat=i+2:=by omega
   have b8':(0:Int)<=(i:Int)+1:=by omega
   have b9':((i:Int)+1).toNat=i+1:=by omega
   have c1:(i:Int)<=(i:Int)+2:=by omega
   have c2:(i:Int)<=(i:Int)+1:=by omega
   have e5:s.extract i (i+1)=bs [c]:=by rw[qbS,hd]; rfl
   have b5:(i:Int)+1<=s.size:=by omega
   have hsym : ∀ (hp : ¬ (i+2<=s.size/\s.extract i (i+2)∈qdv)),tokAt 12 2 6 s i=⟨i,bs [c],if c.toNat∈symB then 0 else 12⟩:=fun hp=>by
    unfold tokAt
    rw[h1]
    simp only[hlet,hdig,Wn,if_false,if_neg hp,e5]
    split<;>rfl
   have zs:=qn8 (qaN qAj true) (by decide) (bs [c])
   rw[show (decide (bs [c]∈qAj))=decide (c.toNat∈symB) from by rw[decide_eq_decide]; exact qr1 c] at zs
   simp only[show qAj=[⟨#[123]⟩,⟨#[125]⟩,⟨#[91]⟩,⟨#[93]⟩,⟨#[40]⟩,⟨#[41]⟩,⟨#[61]⟩,⟨#[59]⟩,⟨#[44]⟩,⟨#[60]⟩,⟨#[62]⟩,⟨#[43]⟩,⟨#[45]⟩,⟨#[42]⟩,⟨#[47]⟩,⟨#[33]⟩] from rfl,strC,Wv,WB,We,Wk,Nat.reduceAdd,WG] at zs
   generalize hgb:bs [c]=q at zs e5 hsym
   generalize hgs:decide (c.toNat∈symB)=bb at zs
   have hs2:(if c.toNat∈symB then 0 else 12)=(if bb=true then 0 else 12):=by rw[<- hgs]; simp
   by_cases h2s:i+2<=s.size
   ·have b6:(i:Int)+2<=s.size:=by omega
    have b7 : ¬ (s.size:Int)<(i:Int)+2:=by omega
    have zp:=qn8 (qaN qdv true) (by decide) (s.extract i (i+2))
    generalize hgp:decide (s.extract i (i+2)∈qdv)=pb at zp
    simp only[qdv,strC,Wv,WB,We,Wk,bs,Nat.reduceAdd,WG] at zp
    by_cases hp:s.extract i (i+2)∈qdv
    ·have htok:tokAt 12 2 6 s i=⟨i,s.extract i (i+2),0⟩:=by
      unfold tokAt
      rw[h1]
      simp only[hlet,hdig,Wn,if_false,if_pos (And.intro h2s hp)]
     rw[htok]
     obtain⟨w,hwx⟩ : ∃ w,s.extract i (i+2)=w:=⟨_,rfl⟩
     rw[decide_eq_true hp] at hgp
     rw[hwx] at zp ⊢
     subst hgp
     simp[F171,V.len,h1,hlt,zl,zd,hlet,hdig,qa4,bound,w1,w3,b8,b9,b8',b9',c1,c2,b6,b7,hwx,zp,qhT,qoM,Wa]
    ·have htok:=hsym (fun h=>hp h.2)
     obtain⟨w,hwx⟩ : ∃ w,s.extract i (i+2)=w:=⟨_,rfl⟩
     rw[decide_eq_false hp] at hgp
     rw[hwx] at zp
     subst hgp
     rw[htok,hs2]
     cases bb with
     |true=>simp[F171,V.len,h1,hlt,zl,zd,hlet,hdig,qa4,bound,w1,w3,b8,b9,b8',b9',c1,c2,b5,b6,b7,hwx,zp,zs,e5,qhT,qoM,Wa]
     |false=>simp[F171,V.len,h1,hlt,zl,zd,hlet,hdig,qa4,bound,w1,w3,b8,b9,b8',b9',c1,c2,b5,b6,b7,hwx,zp,zs,e5,qhT,qoM,Wa]
   ·have b6 : ¬ (i:Int)+2<=s.size:=by omega
    have htok:=hsym (fun h=>h2s h.1)
    rw[htok,hs2]
    cases bb with
    |true=>simp[F171,V.len,h1,hlt,zl,zd,hlet,hdig,qa4,bound,w1,w3,b8,b9,b8',b9',c1,c2,b5,b6,zs,e5,Wa]
    |false=>simp[F171,V.len,h1,hlt,zl,zd,hlet,hdig,qa4,bound,w1,w3,b8,b9,b8',b9',c1,c2,b5,b6,zs,e5,Wa]
end
section
open F
def tkC:List Tk->List D
 |[]=>[]
 |t::r => .lit (.int .i64 t.at_) :: .lit (.string t.s) :: .lit (.int .i64 t.bad)::tkC r
theorem qrG(a b:List Tk):tkC (a++b)=tkC a++tkC b:=by
 induction a with
 |nil=>rfl
 |cons t a ih=>simp[tkC,ih]
theorem qrH(a:List Tk):(tkC a).length=a.length*3:=by
 induction a with
 |nil=>rfl
 |cons t a ih=>simp[tkC,ih]; omega
theorem qok : ∀ (T:List Tk) (i:Nat),(tkC T).drop (i*3)=tkC (T.drop i)
 |[],i=>by simp[tkC]
 |t::T,0=>by simp
 |t::T,i+1=>by
  rw[show (i+1)*3=i*3+3 by omega]
  simp only[tkC,Ye]
  exact qok T i
def qAe(v:V)(σ : S)(T:List Tk):Prop:=(T=[]/\v = .dat (.lit (.slice none 0 0)) /\ σ = [])\/(T≠[]/\v = .gsl (tkC T) T.length 3 0 /\ σ = [.tip (tkC T).length])
def allT(s:ByteArray):Nat->Nat->List Tk
 |0,_=>[]
 |n+1,i=>if i<s.size then tokAt 12 2 6 s i::allT s n (i+(tokAt 12 2 6 s i).s.size+qaD false ((byl s).drop (i+(tokAt 12 2 6 s i).s.size))) else []
theorem qtO(eS eL eR:Nat)(c:UInt8)(r:List UInt8):1<=(tokL eS eL eR (c::r)).1.length/\(tokL eS eL eR (c::r)).1.length<=r.length+1:=by
 have h1:=qfb qaz (c::r)
 have h2:=qfb qaq (c::r)
 simp only[tokL]
 split
 ·rename_i h
  have hw:qaz c=true:=by simp[qaz,h]
  have:1<=qbl qaz (c::r):=by simp only[qbl,hw,if_true]; omega
  simp only[WU,We] at h1 ⊢
  omega
 split
 ·rename_i h
  have:1<=qbl qaq (c::r):=by simp only[qbl,h,if_true]; omega
  simp only[WU,We] at h2 ⊢
  omega
 split
 ·rename_i h
  have:=qfy h
  rw[qaw] at this
  simp only[WU,We] at this ⊢
  omega
 split<;>simp
theorem qgL{s:ByteArray}{i:Nat}(hi:i<s.size)(eS eL eR:Nat):1<=(tokAt eS eL eR s i).s.size/\i+(tokAt eS eL eR s i).s.size<=s.size:=by
 obtain⟨c,h1,h2⟩:=qiY hi
 have hd:=qd0 h2
 rw[qdg]
 simp only[qaw]
 rw[hd]
 have:=qtO eS eL eR c ((byl s).drop (i+1))
 rw[WY,qau] at this
 omega
theorem qm4{s:ByteArray}{j:Nat}(hj:j<=s.size):j+qaD false ((byl s).drop j)<=s.size:=by
 have:=qgK ((byl s).drop j) false
 rw[WY,qau] at this
 omega
theorem ql6 (s:ByteArray) (hl:s.size<2 ^ 30) : ∀ (n i:Nat) (T:List Tk) (v:V) (σ : S),s.size-i<=n->i<=s.size->T.length<=i->qAe v σ T ->
  ∃ v' σ',qAe v' σ' (T++allT s n i)/\(T++allT s n i).length<=s.size/\Z tR (.loop 0 F149l0 [(0,.str s),(3,v),(4,.int i)] σ)=some (.out (.exit 0) [(0,.str s),(3,v'),(4,.int s.size),(11,.bool false)] σ')
 |n,i,T,v,σ,hn,hi,hT,hr=>by
  by_cases hend:i=s.size
  ·subst hend
   have hall:allT s n s.size=[]:=by cases n<;>simp[allT]
   refine⟨v,σ,by rw[hall,Wl]; exact hr,by rw[hall,Wl]; exact hT,?_⟩
   rw[qaa]
   rcases hr with ⟨rfl,rfl,rfl⟩|⟨_,rfl,rfl⟩<;>simp[qab,qgZ,V.len]
  ·cases n with
   |zero=>omega
   |succ n=>
    have hlt:i<s.size:=by omega
    have hlt':(i:Int)<s.size:=by omega
    obtain⟨p1,p2⟩:=qgL hlt 12 2 6
    have zt:=qu2 s (by omega) hlt
    have htat:(tokAt 12 2 6 s i).at_=i:=by rw[qdg]
    have hall:allT s (n+1) i=tokAt 12 2 6 s i::allT s n (i+(tokAt 12 2 6 s i).s.size+qaD false ((byl s).drop (i+(tokAt 12 2 6 s i).s.size))):=by simp only[allT]; rw[if_pos hlt]
    rw[hall]
    generalize tokAt 12 2 6 s i=t at *
    have zs:=quL s (by omega) (i:=i+t.s.size) p2
    have hle:=qm4 p2
    obtain⟨j,hj⟩ : ∃ j,j=i+t.s.size+qaD false ((byl s).drop (i+t.s.size)):=⟨_,rfl⟩
    rw[<- hj] at zs hle ⊢
    have hij:i+1<=j:=by omega
    have w1:=qai ((i:Int)+t.s.size) (by omega)
    simp only[WE] at zs
    have hroom:qao (T.length+1) 32=true:=by simp only[qao,decide_eq_true_eq]; omega
    have hr1:qao 1 32=true:=by decide
    obtain⟨v',σ',g1,g2,g3⟩:=ql6 s hl n j (T++[t]) (.gsl (tkC (T++[t])) (T++[t]).length 3 0) [.tip (tkC (T++[t])).length] (by omega) hle (by simp; omega) (.inr ⟨by simp,rfl,rfl⟩)
    rw[Wf] at g1 g2
    refine⟨v',σ',g1,g2,?_⟩
    rw[<- g3,qaa]
    have e1:tkC (T++[t])=tkC T++[.lit (.int .i64 t.at_),.lit (.string t.s),.lit (.int .i64 t.bad)]:=by rw[qrG]; rfl
    have e2:(tkC (T++[t])).length=(tkC T).length+3:=by rw[e1]; simp
    have e3:(tkC T).length=T.length*3:=qrH T
    have e4:(T++[t]).length=T.length+1:=by simp
    rcases hr with ⟨rfl,rfl,rfl⟩|⟨hne,rfl,rfl⟩
    ·simp[qab,qgZ,V.len,hlt',zt,zs,w1,qbH,qkr,hr1,tkC,Wa]
     exact qah (by simp[Wa])
    ·rw[e1,e4]
     simp[qab,qgZ,V.len,hlt',zt,zs,w1,qbH,qkr,hroom,e3,Wa]
     exact qah (by simp[Wa])
def refT(s:ByteArray):List Tk:=allT s (s.size+1) (qaD false (byl s))++[⟨s.size,⟨#[]⟩,0⟩]
theorem qtP(s:ByteArray)(hl:s.size<2 ^ 30):Z tR (.call 149 [.str s] [])=some (.ret (.dat (.sl (tkC (refT s)) (refT s).length false)) [])/\(refT s).length<=s.size+1:=by
 have zs:=quL s (by omega) (i:=0) (WK _)
 have hle:=qm4 (s:=s) (j:=0) (WK _)
 simp only[WJ,WG,Yo] at zs hle
 obtain⟨v',σ',g1,g2,g3⟩:=ql6 s hl (s.size+1) (qaD false (byl s)) [] (.dat (.lit (.slice none 0 0))) [] (by omega) hle (WK _) (.inl ⟨rfl,rfl,rfl⟩)
 rw[Wc] at g1 g2
 have hlen:(refT s).length=(allT s (s.size+1) (qaD false (byl s))).length+1:=by simp[refT]
 refine⟨?_,by omega⟩
 refine qac (pf:=F149) rfl rfl ?_
 unfold refT at *
 generalize allT s (s.size+1) (qaD false (byl s))=T at *
 have e1:tkC (T++[⟨s.size,⟨#[]⟩,0⟩])=tkC T++[.lit (.int .i64 s.size),.lit (.string ⟨#[]⟩),.lit (.int .i64 0)]:=by rw[qrG]; rfl
 have e3:(tkC T).length=T.length*3:=qrH T
 have hroom:qao (T.length+1) 32=true:=by simp only[qao,decide_eq_true_eq]; omega
 have hr1:qao 1 32=true:=by decide
 rcases g1 with ⟨rfl,rfl,rfl⟩|⟨hne,rfl,rfl⟩
 ·simp[F149,V.len,zs,g3,qbH,qkr,hr1,tkC,Wa]
 ·rw[e1,hlen]
  simp[F149,V.len,zs,g3,qbH,qkr,hroom,e3,Wa]
def qpw:List Tk->List Tk
 |[]=>[]
 |t::r=>if t.bad≠0\/t.s.size=0 then [t] else t::qpw r
theorem qrI(s:ByteArray) : ∀ (n m i:Nat),i<=s.size->s.size-i<n->s.size-i<m->qpw (allT s m (i+qaD false ((byl s).drop i))++[⟨s.size,⟨#[]⟩,0⟩])=qc3 12 2 6 s n i
 |0,m,i,_,h,_=>by omega
 |n+1,0,i,_,_,h=>by omega
 |n+1,m+1,i,hi,h1,h2=>by
  have hle:=qm4 hi
  have hsk:qix s (s.size-i) false i=i+qaD false ((byl s).drop i):=qil s _ false i (Wj _)
  simp only[qc3,hsk]
  generalize hj:i+qaD false ((byl s).drop i)=j at *
  simp only[allT]
  by_cases hlt:j<s.size
  ·obtain⟨p1,p2⟩:=qgL hlt 12 2 6
   have htat:(tokAt 12 2 6 s j).at_=j:=by rw[qdg]
   rw[if_pos hlt,Wg,qpw,htat]
   split
   ·rfl
   ·rw[qrI s n m (j+(tokAt 12 2 6 s j).s.size) p2 (by omega) (by omega)]
  ·obtain rfl:j=s.size:=by omega
   have hd:(byl s).drop s.size=[]:=WM (by rw[qau]; exact Wj _)
   have ht:tokAt 12 2 6 s s.size=⟨s.size,⟨#[]⟩,0⟩:=by rw[qdg,hd]; rfl
   rw[if_neg hlt,ht]
   rw[Wc,qpw,if_pos (.inr rfl),if_pos (.inr rfl)]
theorem qtQ(s:ByteArray):qpw (refT s)=qc3 12 2 6 s (s.size+1) 0:=by
 have:=qrI s (s.size+1) (s.size+1) 0 (WK _) (by omega) (by omega)
 rw[WJ,WG] at this
 exact this
end
section
open F
structure Ps where
 i:Nat
 a:Nat
 e:Nat
def qlr(T:List Tk)(i:Nat):Tk:=T.getD i ⟨0,⟨#[]⟩,0⟩
theorem qp2{T:List Tk}{i:Nat}(h:i<T.length):T[i]=qlr T i:=by simp[qlr,Wz,h]
theorem qBn(T:List Tk){i:Nat}(h:i<T.length):qaf 3 (.dat (.sl (tkC T) T.length false)) (i:Int)=some (.dat (.imm (tkC T) (i*3))):=by
 have:(i:Int)<T.length:=by omega
 simp[qaf,h]
theorem qvk{T:List Tk}{i:Nat}(h:i<T.length):(tkC T).drop (i*3) = .lit (.int .i64 (qlr T i).at_) :: .lit (.string (qlr T i).s) :: .lit (.int .i64 (qlr T i).bad)::tkC (T.drop (i+1)):=by
 rw[qok,Ww h,qp2 h]; rfl
theorem qvl{T:List Tk}{i:Nat}(h:i<T.length):cutCells (tkC T) (i*3+1) 1=some [.lit (.string (qlr T i).s)]:=by
 unfold cutCells
 rw[<- List.drop_drop,qvk h]; simp
def qS:ByteArray:=bs [63]
end
section
open F
structure TokP(t:Tk):Prop where
 q:t.bad=0->t.s≠qS
 dig:t.bad=0->qaX qaq t.s=true->(∀ c∈t.s.data.toList,qaq c=true)/\digV t.s.data.toList<=2147483647/\t.s.size<2 ^ 40
structure WfT(T:List Tk):Prop where
 len:T.length<2 ^ 40
 tok : ∀ t∈T,TokP t
 pos : ∀ i,i+1<T.length->(qlr T i).s.size≠0
 last : ∀ i,i+1=T.length->(qlr T i).s=⟨#[]⟩/\(qlr T i).bad=0
structure Gd(T:List Tk)(s:Ps)(ts:List Tk):Prop where
 e:s.e=0
 a:s.a=0
 lt:s.i<T.length
 ts:qpw (T.drop s.i)=ts
structure Er(T:List Tk)(s:Ps)(p c:Nat):Prop where
 lt:s.i<T.length
 c0:c≠0
 or:(s.e=c/\s.a=p)\/(s.e=0/\(qlr T s.i).bad=c/\(qlr T s.i).at_=p)
end
section
open F
section
variable{T:List Tk}{s:Ps}{lv:Nat}
abbrev k1(k n:Int)(y:ByteArray)(ks:D):D := .sl [.lit (.int .i64 k),.lit (.int .i64 n),.lit (.string y),ks] 1 true
abbrev k2(k n:Int)(y:ByteArray)(ks:D)(k' n':Int)(y':ByteArray)(ks':D):D := .sl [.lit (.int .i64 k),.lit (.int .i64 n),.lit (.string y),ks,.lit (.int .i64 k'),.lit (.int .i64 n'),.lit (.string y'),ks'] 2 true
abbrev k3(k n:Int)(y:ByteArray)(ks:D)(k' n':Int)(y':ByteArray)(ks':D)(k'' n'':Int)(y'':ByteArray)(ks'':D):D := .sl [.lit (.int .i64 k),.lit (.int .i64 n),.lit (.string y),ks,.lit (.int .i64 k'),.lit (.int .i64 n'),.lit (.string y'),ks',.lit (.int .i64 k''),.lit (.int .i64 n''),.lit (.string y''),ks''] 3 false
end
end
section
open F
structure N4 where
 k:Int
 n:Int
 s:ByteArray
 d:D
 one:V.one (.dat d)=true
 cl:V.cells (.dat d)=[.dat d]
abbrev rob(r:Nat->N4):Ob := .cells [.int (r 0).k,.int (r 0).n,.str (r 0).s,.dat (r 0).d,.int (r 1).k,.int (r 1).n,.str (r 1).s,.dat (r 1).d,.int (r 2).k,.int (r 2).n,.str (r 2).s,.dat (r 2).d]
def qAt(r:Nat->N4)(k:Nat)(v:N4):Nat->N4:=fun i=>if i=k then v else r i
abbrev qxR:Ob := .cells [.int 0,.int 0,.str ⟨#[]⟩,.dat (.lit (.slice none 0 0)),.int 0,.int 0,.str ⟨#[]⟩,.dat (.lit (.slice none 0 0)),.int 0,.int 0,.str ⟨#[]⟩,.dat (.lit (.slice none 0 0))]
section
variable{T:List Tk}{s:Ps}{r:Nat->N4}
def qkp:Option Ss->N4
 |none=>⟨0,0,⟨#[]⟩,.lit (.slice none 0 0),rfl,rfl⟩
 |some b=>⟨7,0,⟨#[]⟩,kd false b.fo.len b.fo.cells,by simp,by simp⟩
end
end
section
open F
def toks(s:ByteArray):List Tk:=qc3 12 2 6 s (s.size+1) 0
abbrev quH(r:Nat->N4):V := .dat (.agg [.lit (.int .i64 (r 0).k),.lit (.int .i64 (r 0).n),.lit (.string (r 0).s),(r 0).d,.lit (.int .i64 (r 1).k),.lit (.int .i64 (r 1).n),.lit (.string (r 1).s),(r 1).d,.lit (.int .i64 (r 2).k),.lit (.int .i64 (r 2).n),.lit (.string (r 2).s),(r 2).d])
end
section
inductive Red:List ByteArray->List ByteArray->Prop
 |nil:Red [] []
 |keep {t:ByteArray} {l m:List ByteArray} (h:Red l m):Red (t::l) (t::m)
 |del {t:ByteArray} {l m:List ByteArray} (h0:t.size≠0) (h:Red l m):Red (t::l) m
 |dig {t u:ByteArray} {l m:List ByteArray} (h0:u.size<=t.size) (h1 : ∀ p,qb7 p u=qb7 p t) (h2:qaX qaz u=qaX qaz t) (h:Red l m):Red (t::l) (u::m)
end
section
theorem hx1{t:Tk}{q:List Tk}{s:ByteArray}(h1:t.s=s)(h2:t.bad=0):Hx [s] (t::q) q:=⟨t,q,rfl,h1,h2,rfl⟩
end
section
def White(g:List UInt8):Prop := ∀ r,qaD false (g++r)=g.length+qaD false r
theorem qk6:White []:=fun r=>by simp
theorem qpK{c:UInt8}(h:c.toNat=32\/c.toNat=9\/c.toNat=10):White [c]:=fun r=>by
 simp only[Wg,Wc,qaD,Ws]
 by_cases h10:c.toNat=10
 ·rw[if_pos h10]; omega
 ·rw[if_neg h10,if_pos (by rcases h with h|h|h; exact .inr (.inl h); exact .inr (.inr h); exact absurd h h10)]; omega
theorem qrU{w:List UInt8}(h:Tg w)(r:List UInt8):qaD false (w++r)=0:=by
 obtain⟨c,q,hw,h1,h2,h3,h4⟩:=qfV h
 rw[hw]
 simp[qaD,h1,h2,h3,h4]
def qc2:List (List UInt8 × ByteArray)->List UInt8
 |[]=>[]
 | (g,t)::r=>g++(byl t++qc2 r)
def Sep(t:ByteArray)(g:List UInt8)(u:ByteArray):Prop:=(∃ c q,g=c::q/\(c.toNat=32\/c.toNat=10\/c.toNat=9\/c.toNat=35))\/(g=[]/\(qb7 false t&&qaX qaz u)=false/\Adj t u)
def OkG:List (List UInt8 × ByteArray)->Prop
 |[]=>True
 | (g,t)::r=>White g/\Tg (byl t)/\(∀ p,r.head?=some p->Sep t p.1 p.2)/\OkG r
theorem qk7{w:List UInt8}(h:Tg w){c:UInt8}(hc:c.toNat=32\/c.toNat=10\/c.toNat=9\/c.toNat=35)(r:List UInt8):Fol w (c::r):=by
 have hw:qaz c=false:=by
  simp only[qaz,qaQ,qaq,Bool.or_eq_false_iff,Yf,decide_eq_false_iff_not]
  omega
 have hd:qaq c=false:=by
  simp only[qaq,Yf,decide_eq_false_iff_not]
  omega
 obtain⟨a,q,rfl,-⟩:=qfV h
 simp only[Fol]
 split
 ·exact hw
 split
 ·exact hd
 ·intro _ hp
  rcases pair_cases hp with h|h|h|h|h|h<;>simp only[WI,and_true] at h<;>rw[h.2] at hc<;>exact absurd hc (by decide)
theorem quV(w:List UInt8):Fol w []:=by cases w<;>trivial
theorem qrV{w:ByteArray}(h:Tg (byl w))(p q:Bool):qb7 p w=qb7 q w:=by
 obtain⟨c,r,hw,-⟩:=qfV h
 unfold qb7
 rw[hw]
 cases hl:(c::r).getLast? with
 |none=>simp at hl
 |some b=>rfl
theorem qk8 (eS eL eR:Nat) : ∀ (l:List (List UInt8 × ByteArray)) (n i:Nat) (tail:List UInt8),OkG l->(∀ p,l.getLast?=some p->Fol (byl p.2) tail)->l.length<=n ->
  ∃ ts,quM eS eL eR n i (qc2 l++tail)=ts++quM eS eL eR (n-l.length) (i+(qc2 l).length) tail /\ ∀ r,Hx (l.map (·.2)) (ts++r) r
 |[],n,i,tail,_,_,_=>⟨[],by simp[qc2],fun r=>rfl⟩
 | (g,t)::l,0,i,tail,_,_,h=>by simp at h
 | (g,t)::l,n+1,i,tail,ho,hl,h=>by
  obtain⟨hg,ht,ha,ho'⟩:=ho
  have hf:Fol (byl t) (qc2 l++tail):=by
   cases l with
   |nil=>exact hl (g,t) rfl
   |cons u us=>
    obtain⟨g',u⟩:=u
    simp only[qc2,Wf]
    rcases ha (g',u) rfl with ⟨c,q,h1,h2⟩|⟨h1,h2,h3⟩
    ·simp only at h1
     rw[h1]
     exact qk7 ht h2 _
    ·simp only at h1 h2 h3
     rw[h1]
     have:=qsS (p:=false) ht ho'.2.1 h3 (qc2 us++tail)
     rwa [gap,h2] at this
  have hsk:qaD false (g++(byl t++(qc2 l++tail)))=g.length:=by rw[hg,qrU ht]; omega
  have htk:=qqy eS eL eR ht hf
  have hne:(byl t).length≠0:=by
   obtain⟨c,w,hw,-⟩:=qfV ht
   rw[hw]; simp
  obtain⟨ts,e1,e2⟩:=qk8 eS eL eR l n (i+g.length+t.size) tail ho' (fun u hu=>hl u (by
   cases l with
   |nil=>cases hu
   |cons v vs=>rw[Yz]; exact hu)) (by simpa using h)
  refine⟨⟨i+g.length,t,0⟩::ts,?_,fun r=>⟨⟨i+g.length,t,0⟩,ts++r,rfl,rfl,rfl,e2 r⟩⟩
  simp only[qc2,Wf,quM,hsk,List.drop_left,htk]
  rw[if_neg (by
   rintro (h|h)
   ·exact h rfl
   ·exact hne h)]
  rw[qdF,qau,e1]
  simp only[Wg,Wb,We,qau]
  congr 3<;>omega
theorem qjn (eS eL eR:Nat) {l:List (List UInt8 × ByteArray)} {w:List UInt8} (ho:OkG l) (hw:White w) (hsep:w=[] \/ ∃ c q,w=c::q/\(c.toNat=32\/c.toNat=10\/c.toNat=9\/c.toNat=35)) {s:ByteArray} (hs:byl s=qc2 l++w) :
  ∃ e,Hx (l.map (·.2)) (qc3 eS eL eR s (s.size+1) 0) [⟨e,⟨#[]⟩,0⟩]:=by
 have htgs : ∀ p∈l,Tg (byl p.2):=by
  induction l with
  |nil=>intro p hp; cases hp
  |cons q l ih=>
   intro p hp
   obtain⟨g,t⟩:=q
   rcases Wo.1 hp with rfl|hp
   ·exact ho.2.1
   ·have hl : ∀ (l:List (List UInt8 × ByteArray)),OkG l -> ∀ p∈l,Tg (byl p.2):=fun l=>by
     induction l with
     |nil=>intro _ p hp; cases hp
     |cons q l ih=>intro h p hp; rcases Wo.1 hp with rfl|hp; exact h.2.1; exact ih h.2.2.2 p hp
    exact hl l ho.2.2.2 p hp
 have hlen:l.length<=(qc2 l).length:=by
  clear ho hs
  induction l with
  |nil=>simp
  |cons q l ih=>
   obtain⟨g,t⟩:=q
   have h1:=htgs (g,t) (WO ..)
   obtain⟨c,w,hw,-⟩:=qfV h1
   have:=ih fun p hp=>htgs p (WA _ hp)
   simp only[qc2,Wb,We]
   have h2:1<=(byl t).length:=by simp only at hw; rw[hw]; simp
   omega
 have hsz:s.size=(qc2 l).length+w.length:=by rw[<- qau,hs,Wb]
 rw[qod,WJ,hs]
 obtain⟨ts,e1,e2⟩:=qk8 eS eL eR l (s.size+1) 0 w ho (fun p hp=>by
  have ht:=htgs p (List.mem_of_getLast? hp)
  rcases hsep with h|⟨c,q,h1,h2⟩
  ·rw[h]; exact quV _
  ·rw[h1]; exact qk7 ht h2 _) (by omega)
 rw[e1]
 obtain⟨k,hk⟩ : ∃ k,s.size+1-l.length=k+1:=⟨s.size-l.length,by omega⟩
 have hend : ∀ j,quM eS eL eR (k+1) j w=[⟨j+w.length,⟨#[]⟩,0⟩]:=fun j=>by
  have h1:qaD false w=w.length:=by
   have:=hw []
   rw[Wl] at this
   rw[this]; simp[qaD]
  simp only[quM,h1,List.drop_length,tokL]
  rw[if_pos (.inr rfl)]
  rfl
 rw[hk,hend]
 exact⟨_,e2 _⟩
end
section
theorem ql4{ts:List ByteArray}(hcl:Ok2 ts) : ∃ e,Hx ts (toks (bs (qap false ts))) [⟨e,⟨#[]⟩,0⟩]:=by
 obtain⟨l,hl,hm⟩ : ∃ l:List (List UInt8 × ByteArray),OkG l/\l.map (·.2)=ts/\qc2 l=qap false ts:=by
  have key : ∀ (ts:List ByteArray) (p:Bool),Ok2 ts -> ∃ l:List (List UInt8 × ByteArray),OkG l/\l.map (·.2)=ts/\qc2 l=qap p ts/\(∀ q,l.head?=some q -> ∃ t,ts.head?=some t/\q=(gap p t,t)):=by
   intro ts
   induction ts with
   |nil=>intro p _; exact⟨[],trivial,rfl,rfl,fun q h=>by cases h⟩
   |cons t ts ih=>
    intro p ho
    obtain⟨l,l1,l2,l3,l4⟩:=ih (qb7 p t) ho.2.2
    have hwg:White (gap p t):=by
     unfold gap
     split
     ·exact qpK (.inl rfl)
     ·exact qk6
    refine⟨(gap p t,t)::l,⟨hwg,ho.1,fun q hq=>?_,l1⟩,by simp[l2],by simp[qc2,qap,l3],fun q hq=>⟨t,rfl,by cases hq; rfl⟩⟩
    obtain⟨u,hu,rfl⟩:=l4 q hq
    have hadj:=ho.2.1 u hu
    simp only
    by_cases hgap:(qb7 p t&&qaX qaz u)=true
    ·left
     exact⟨32,[],by simp[gap,hgap],.inl rfl⟩
    ·right
     have hgap':(qb7 p t&&qaX qaz u)=false:=by simpa using hgap
     refine⟨by simp[gap,hgap'],?_,hadj⟩
     rw[qrV ho.1 false p]
     exact hgap'
  obtain⟨l,l1,l2,l3,_⟩:=key ts false hcl
  exact⟨l,l1,l2,l3⟩
 have:=qjn 12 2 6 hl qk6 (.inl rfl) (s:=bs (qap false ts)) (by rw[qbp,hm.2,Wl])
 rw[hm.1] at this
 exact this
end
end Go.Pm
section
namespace Go.Pm.F
variable(C:Task->Option Res)(q:Nat)(fr:Fr)(σ : S)
def F227:PFun:=pf 1 [.tmp 2] (sr [jj 2 (.mov (ks []))] [0] (sr [mv 3 0,cl 4 123 [3],cl 5 236 [4],mv 2 5] [2] .ret))
def F234:PFun:=pf 1 [.tmp 2] (sr [bx 1 0,jj 2 (.mov (ks []))] [1] (sr [la 3 4 1,jj 4 (.call 246 [(.t 3),(kk 1),kF]),mv 2 4] [2] .ret))
@[simp] def F236l0x:PC:=(.seq (sr [mv 5 4,bk 6 .lss 5 3] [1,3,4,6] (.cond (.t 6) .skip (.exit 0))) (.seq (.block 1 (sr [mv 9 4,fa 10 0 1,jj 11 (.indexAddrA 3 4 (.t 10) (.t 9)),fa 12 0 11,l1 13 12,bk 14 .neq 13 0] [1,3,4,14] (cs 14 (.region (some []) [mv 15 3,jj 16 (.call 152 []),mv 17 4,jj 18 (.indexAddr 1 (.t 16) (.t 17)),⟨some 19,.load false 1 (.t 18),none,[9]⟩,mv 20 4,fa 21 0 1,jj 22 (.indexAddrA 3 4 (.t 21) (.t 20)),⟨some 23,.load true 4 (.t 22),none,[1]⟩,cl 24 248 [23],jj 25 (.bslice 4 [eN,eN,eN,eN] [(0,1,(.t 15)),(1,1,(ks [111,110])),(2,1,(.t 19)),(3,1,(.t 24))]),cl 26 247 [25],mv 3 26] [1,3,4] [9,11])))) (rn [mv 7 4,bk 8 .add 7 1,mv 4 8] [1,3,4])))
def F236l0:PC:=F236l0x
theorem qhn:run C q F236l0 fr σ = run C q F236l0x fr σ := rfl
def F236:PFun:=pf 1 [.tmp 2] (sr [bx 1 0,jj 2 (.mov (ks []))] [1] (sr [jj 3 (.mov (ks []))] [1,3] (.seq (sr [mx 4 (kk 0)] [1,3,4] (.block 0 (.loop F236l0))) (sr [mv 27 3,mv 2 27] [2] .ret))))
def F246:PFun:=pf 3 [.tmp 6] (sr [bx 3 0,jj 6 (.mov (ks []))] [1,2,3] (sr [la 10 4 3,cl 11 261 [10],mv 7 11] [1,2,3,7] (sr [fa 12 2 3,l1 13 12,mv 8 13] [1,2,3,7,8] (.seq (sr [fa 14 0 3,l1 15 14,bk 16 .eql 15 8] [1,2,3,7,8,16] (cs 16 (rn [fa 17 1 3,l1 18 17,cl 19 20 [18],mv 8 19] [1,2,3,7,8]))) (.seq (sr [fa 20 0 3,l1 21 20,bk 22 .eql 21 9] [1,2,3,7,8,22] (cs 22 (sr [jj 8 (.mov (ks [102,97,108,115,101]))] [1,2,3,7,8] (sr [fa 23 1 3,l1 24 23,bk 25 .eql 24 1] [1,2,3,7,8,25] (cs 25 (rn [jj 8 (.mov (ks [116,114,117,101]))] [1,2,3,7,8])))))) (.seq (sr [fa 26 0 3,l1 27 26,bk 28 .eql 27 11] [1,2,3,7,8,28] (cs 28 (.region (some []) [fa 29 2 3,⟨some 30,.load false 1 (.t 29),none,[7]⟩,fa 31 3 3,l1 32 31,jj 33 (.indexAddr 4 (.t 32) (kk 0)),la 34 4 33,mv 35 2,jj 36 (.call 246 [(.t 34),(kk 1),(.t 35)]),jj 37 (.bslice 4 [eN,eN,eN,eN] [(0,1,(.t 30)),(1,1,(ks [91])),(2,1,(.t 36)),(3,1,(ks [93]))]),cl 38 247 [37],mv 8 38] [1,2,3,7,8] [7,9]))) (.seq (sr [fa 39 0 3,l1 40 39,bk 41 .eql 40 13] [1,2,3,7,8,41] (cs 41 (.region (some []) [fa 42 2 3,⟨some 43,.load false 1 (.t 42),none,[8]⟩,fa 44 3 3,l1 45 44,jj 46 (.indexAddr 4 (.t 45) (kk 0)),la 47 4 46,mv 48 7,mv 49 2,cl 50 246 [47,48,49],jj 51 (.bslice 2 [eN,eN] [(0,1,(.t 43)),(1,1,(.t 50))]),cl 52 247 [51],mv 8 52] [1,2,3,7,8] [8,10]))) (.seq (sr [fa 53 0 3,l1 54 53,bk 55 .eql 54 14] [1,2,3,7,8,55] (cs 55 (sr [mv 56 7,mv 9 56] [1,2,3,7,9] (.seq (sr [mv 57 7,bk 58 .eql 57 4] [1,2,3,7,9,58] (cs 58 (rn [mx 9 (kk 5)] [1,2,3,7,9]))) (.region (some []) [fa 59 3 3,l1 60 59,jj 61 (.indexAddr 4 (.t 60) (kk 0)),la 62 4 61,mv 63 9,mv 64 2,cl 65 246 [62,63,64],fa 66 2 3,⟨some 67,.load false 1 (.t 66),none,[6,16]⟩,fa 68 3 3,⟨some 69,.load false 1 (.t 68),none,[6]⟩,jj 70 (.indexAddr 4 (.t 69) (kk 1)),⟨some 71,.load true 4 (.t 70),none,[6]⟩,mv 72 7,bk 73 .add 72 1,mv 74 2,cl 75 246 [71,73,74],jj 76 (.bslice 3 [eN,eN,eN] [(0,1,(.t 65)),(1,1,(.t 67)),(2,1,(.t 75))]),cl 77 247 [76],mv 8 77] [1,2,7,8] [16,18]))))) (.seq (sr [mv 78 7,mv 79 1,bn 80 .lss 78 79,mv 81 80,jf 82 81 (.mov (.t 2)),jf 83 81 (.mov (.t 82)),jt 84 83 (.mov (.t 7)),jt 85 83 (.bin .lss (.t 84) (kk 8)),jf 86 81 (.pick (.t 83) (.t 85) kF),jj 87 (.pick (.t 81) kT (.t 86))] [8,87] (cs 87 (sr [mv 88 8,jj 89 (.bin .add (ks [40]) (.t 88)),jj 90 (.bin .add (.t 89) (ks [41])),mv 6 90] [6] .ret))) (sr [mv 91 8,mv 6 91] [6] .ret))))))))))
@[simp] def F247l0x:PC:=(.seq (sr [mv 5 4,mv 6 0,ls 7 6,bn 8 .lss 5 7] [0,3,4,8] (.cond (.t 8) .skip (.exit 0))) (.seq (.block 1 (rn [mv 11 3,mv 12 0,mv 13 4,jj 14 (.indexAddr 1 (.t 12) (.t 13)),l1 15 14,cl 16 262 [11,15],mv 3 16] [0,3,4])) (rn [mv 9 4,bk 10 .add 9 1,mv 4 10] [0,3,4])))
def F247l0:PC:=F247l0x
theorem qj7:run C q F247l0 fr σ = run C q F247l0x fr σ := rfl
def F247:PFun:=pf 1 [.tmp 2] (sr [jj 2 (.mov (ks []))] [0] (sr [jj 3 (.mov (ks []))] [0,3] (.seq (sr [mx 4 (kk 0)] [0,3,4] (.block 0 (.loop F247l0))) (sr [mv 17 3,mv 2 17] [2] .ret))))
@[simp] def F248l0x:PC:=(.seq (sr [mv 5 4,fa 6 3 1,l1 7 6,ls 8 7,bn 9 .lss 5 8] [1,3,4,9] (.cond (.t 9) .skip (.exit 0))) (.seq (.block 1 (rn [mv 12 3,fa 13 3 1,l1 14 13,mv 15 4,jj 16 (.indexAddr 4 (.t 14) (.t 15)),la 17 4 16,cl 18 263 [17],cl 19 262 [12,18],mv 3 19] [1,3,4])) (rn [mv 10 4,bk 11 .add 10 1,mv 4 11] [1,3,4])))
def F248l0:PC:=F248l0x
theorem qho:run C q F248l0 fr σ = run C q F248l0x fr σ := rfl
def F248:PFun:=pf 1 [.tmp 2] (sr [bx 1 0,jj 2 (.mov (ks []))] [1] (sr [jj 3 (.mov (ks [123]))] [1,3] (.seq (sr [mx 4 (kk 0)] [1,3,4] (.block 0 (.loop F248l0))) (sr [mv 20 3,jj 21 (.bin .add (.t 20) (ks [125])),mv 2 21] [2] .ret))))
def F261:PFun:=pf 1 [.tmp 2] (sr [bx 1 0,mx 2 (kk 0)] [1] (.seq (sr [fa 3 0 1,l1 4 3,bk 5 .eql 4 13] [1,5] (cs 5 (.seq (sr [fa 6 2 1,l1 7 6,jj 8 (.bin .eql (.t 7) (ks [33]))] [8] (cs 8 (sr [mx 2 (kk 3)] [2] .ret))) (sr [mx 2 (kk 7)] [2] .ret)))) (.seq (sr [fa 9 0 1,l1 10 9,bk 11 .neq 10 14] [1,11] (cs 11 (sr [mx 2 (kk 8)] [2] .ret))) (.seq (sr [fa 12 2 1,l1 13 12,jj 14 (.bin .eql (.t 13) (ks [124,124]))] [1,14] (cs 14 (sr [mx 2 (kk 1)] [2] .ret))) (.seq (sr [fa 15 2 1,l1 16 15,jj 17 (.bin .eql (.t 16) (ks [38,38]))] [1,17] (cs 17 (sr [mx 2 (kk 2)] [2] .ret))) (.seq (sr [fa 18 2 1,l1 19 18,jj 20 (.bin .eql (.t 19) (ks [43])),mv 21 20,jf 22 21 (.fieldAddr 2 (.t 1)),jf 23 21 (.load false 1 (.t 22)),jf 24 21 (.bin .eql (.t 23) (ks [45])),jj 25 (.pick (.t 21) kT (.t 24))] [1,25] (cs 25 (sr [mx 2 (kk 5)] [2] .ret))) (.seq (sr [fa 26 2 1,l1 27 26,jj 28 (.bin .eql (.t 27) (ks [42])),mv 29 28,jf 30 29 (.fieldAddr 2 (.t 1)),jf 31 29 (.load false 1 (.t 30)),jf 32 29 (.bin .eql (.t 31) (ks [47])),jj 33 (.pick (.t 29) kT (.t 32))] [33] (cs 33 (sr [mx 2 (kk 6)] [2] .ret))) (sr [mx 2 (kk 4)] [2] .ret))))))))
def F262:PFun:=pf 2 [.tmp 4] (sr [jj 4 (.mov (ks []))] [0,1] (.seq (sr [mv 7 0,jj 8 (.bin .neq (.t 7) (ks [])),mv 9 8,jt 10 9 (.mov (.t 1)),jt 11 9 (.bin .neq (.t 10) (ks [])),jj 12 (.pick (.t 9) (.t 11) kF)] [0,1,12] (cs 12 (sr [mv 13 0,mv 14 0,lz 15 14,bk 16 .sub 15 1,jj 17 (.indexS (.t 13) (.t 16)),mv 5 17] [0,1,5] (sr [mv 18 1,jj 19 (.indexS (.t 18) (kk 0)),mv 6 19] [0,1,5,6] (sr [mv 20 5,cl 21 192 [20],mv 22 21,jf 23 22 (.mov (.t 5)),jf 24 22 (.call 193 [(.t 23)]),jj 25 (.pick (.t 22) kT (.t 24)),mv 26 25,jt 27 26 (.mov (.t 6)),jt 28 26 (.call 192 [(.t 27)]),jt 29 26 (.mov (.t 28)),jf 30 29 (.mov (.t 6)),jf 31 29 (.call 193 [(.t 30)]),jt 32 26 (.pick (.t 29) kT (.t 31)),jj 33 (.pick (.t 26) (.t 32) kF)] [0,1,33] (cs 33 (sr [mv 34 0,jj 35 (.bin .add (.t 34) (ks [32])),mv 36 1,bn 37 .add 35 36,mv 4 37] [4] .ret))))))) (sr [mv 38 0,mv 39 1,bn 40 .add 38 39,mv 4 40] [4] .ret)))
def F263:PFun:=pf 1 [.tmp 2] (sr [bx 1 0,jj 2 (.mov (ks []))] [1] (.seq (sr [fa 4 0 1,l1 5 4] [1,5] (.block 0 (sr [bk 7 .eql 5 1,mv 6 7] [1,5,6] (.cond (.t 6) (.seq (.region (some []) [fa 8 2 1,⟨some 9,.load false 1 (.t 8),none,[6]⟩,fa 10 3 1,l1 11 10,jj 12 (.indexAddr 4 (.t 11) (kk 0)),la 13 4 12,cl 14 234 [13],jj 15 (.bslice 4 [eN,eN,eN,eN] [(0,1,(.t 9)),(1,1,(ks [61])),(2,1,(.t 14)),(3,1,(ks [59]))]),cl 16 247 [15],mv 2 16] [2] [6,8]) .ret) (sr [bk 18 .eql 5 2,mv 17 18] [1,5,17] (.cond (.t 17) (.seq (.region (some []) [fa 19 2 1,⟨some 20,.load false 1 (.t 19),none,[6,11]⟩,fa 21 3 1,l1 22 21,jj 23 (.indexAddr 4 (.t 22) (kk 0)),la 24 4 23,cl 25 234 [24],fa 26 3 1,⟨some 27,.load false 1 (.t 26),none,[6]⟩,jj 28 (.indexAddr 4 (.t 27) (kk 1)),⟨some 29,.load true 4 (.t 28),none,[6]⟩,cl 30 234 [29],jj 31 (.bslice 7 [eN,eN,eN,eN,eN,eN,eN] [(0,1,(.t 20)),(1,1,(ks [91])),(2,1,(.t 25)),(3,1,(ks [93])),(4,1,(ks [61])),(5,1,(.t 30)),(6,1,(ks [59]))]),cl 32 247 [31],mv 2 32] [2] [11,13]) .ret) (sr [bk 34 .eql 5 5,mv 33 34] [1,5,33] (.cond (.t 33) (.seq (.region (some []) [fa 35 3 1,l1 36 35,jj 37 (.indexAddr 4 (.t 36) (kk 0)),la 38 4 37,cl 39 234 [38],fa 40 3 1,⟨some 41,.load false 1 (.t 40),none,[4]⟩,jj 42 (.indexAddr 4 (.t 41) (kk 1)),⟨some 43,.load true 4 (.t 42),none,[4]⟩,cl 44 234 [43],jj 45 (.bslice 5 [eN,eN,eN,eN,eN] [(0,1,(ks [101,102,102,101,99,116])),(1,1,(.t 39)),(2,1,(ks [44])),(3,1,(.t 44)),(4,1,(ks [59]))]),cl 46 247 [45],mv 2 46] [2] [9,11]) .ret) (sr [bk 48 .eql 5 6,mv 47 48] [1,5,47] (.cond (.t 47) (sr [jj 2 (.mov (ks [115,116,111,112,59]))] [2] .ret) (sr [bk 50 .eql 5 4,mv 49 50] [1,49] (cs 49 (.seq (.region (some []) [fa 51 3 1,l1 52 51,jj 53 (.indexAddr 4 (.t 52) (kk 0)),la 54 4 53,cl 55 234 [54],fa 56 3 1,⟨some 57,.load false 1 (.t 56),none,[4]⟩,jj 58 (.indexAddr 4 (.t 57) (kk 1)),⟨some 59,.load true 4 (.t 58),none,[4]⟩,cl 60 248 [59],jj 61 (.bslice 3 [eN,eN,eN] [(0,1,(ks [119,104,105,108,101])),(1,1,(.t 55)),(2,1,(.t 60))]),cl 62 247 [61],mv 2 62] [2] [9,11]) .ret))))))))))))) (.seq (.region (some []) [fa 63 3 1,l1 64 63,jj 65 (.indexAddr 4 (.t 64) (kk 0)),la 66 4 65,cl 67 234 [66],fa 68 3 1,⟨some 69,.load false 1 (.t 68),none,[4]⟩,jj 70 (.indexAddr 4 (.t 69) (kk 1)),⟨some 71,.load true 4 (.t 70),none,[4]⟩,cl 72 248 [71],jj 73 (.bslice 3 [eN,eN,eN] [(0,1,(ks [105,102])),(1,1,(.t 67)),(2,1,(.t 72))]),cl 74 247 [73],mv 3 74] [1,3] [9,11]) (.seq (sr [fa 75 3 1,l1 76 75,jj 77 (.indexAddr 4 (.t 76) (kk 2)),fa 78 3 77,l1 79 78,ls 80 79,bk 81 .gtr 80 0] [1,3,81] (cs 81 (rn [mv 82 3,fa 83 3 1,l1 84 83,jj 85 (.indexAddr 4 (.t 84) (kk 2)),la 86 4 85,cl 87 248 [86],jj 88 (.bslice 3 [eN,eN,eN] [(0,1,(.t 82)),(1,1,(ks [101,108,115,101])),(2,1,(.t 87))]),cl 89 247 [88],mv 3 89] [3]))) (sr [mv 90 3,mv 2 90] [2] .ret)))))
@[simp] def F314l0x:PC:=(.seq (sr [mv 11 7,mv 12 5,ls 13 12,bn 14 .lss 11 13] [1,5,6,7,14] (.cond (.t 14) .skip (.exit 0))) (.seq (.block 1 (sr [mx 8 (kk 0)] [1,5,6,7,8] (.seq (sr [mv 17 7,mv 18 1,ls 19 18,bn 20 .lss 17 19] [1,5,6,7,8,20] (cs 20 (rn [mv 21 1,mv 22 7,jj 23 (.indexAddr 1 (.t 21) (.t 22)),l1 24 23,jj 25 (.call 17 [(.t 24),(kk 6)]),mv 8 25] [1,5,6,7,8]))) (.region (some []) [mv 26 6,jj 27 (.bslice 6 [eN,eN,eN,eN,eN,eN] [(0,1,(ks [32])),(1,1,(ks [10])),(2,1,(ks [32,32,9])),(3,1,(ks [35,97,123,10])),(4,1,(ks [10,35,32,111,110,10,32])),(5,1,(ks [32]))]),mv 28 8,jj 29 (.indexAddr 1 (.t 27) (.t 28)),l1 30 29,bn 31 .add 26 30,mv 32 5,mv 33 7,jj 34 (.indexAddr 3 (.t 32) (.t 33)),fa 35 1 34,l1 36 35,bn 37 .add 31 36,mv 6 37] [1,5,6,7])))) (rn [mv 15 7,bk 16 .add 15 1,mv 7 16] [1,5,6,7])))
def F314l0:PC:=F314l0x
theorem qhp:run C q F314l0 fr σ = run C q F314l0x fr σ := rfl
def F314:PFun:=pf 2 [.tmp 4] (sr [jj 4 (.mov (ks []))] [0,1] (sr [mv 9 0,cl 10 149 [9],mv 5 10] [1,5] (sr [jj 6 (.mov (ks []))] [1,5,6] (.seq (sr [mx 7 (kk 0)] [1,5,6,7] (.block 0 (.loop F314l0))) (sr [mv 38 6,mv 4 38] [4] .ret)))))
end Go.Pm.F
end
section
namespace Go.Pm.F
def tE:Nat->Option PFun
 |_=>none
def tEz:Nat->Option PFun
 |_=>none
end Go.Pm.F
end
namespace Go.Pm
section
theorem qcO(f:Bool) : ∀ (e:E) {r r':Fo},r.eqv r'=true->((e.fl f).fo r).eqv (e.fo r')=true
 |.int n,r,r',h=>by simp[E.fl,E.fo,Fo.eqv,h]
 |.bool n,r,r',h=>by simp[E.fl,E.fo,Fo.eqv,h]
 |.var s,r,r',h=>by simp[E.fl,E.fo,Fo.eqv,h]
 |.name s,r,r',h=>by simp[E.fl,E.fo,Fo.eqv,h]
 |.field _ s e,r,r',h=>by simp[E.fl,E.fo,Fo.eqv,h,qcO f e (r := .nil) (r' := .nil) rfl]
 |.un _ n e,r,r',h=>by simp[E.fl,E.fo,Fo.eqv,h,qcO f e (r := .nil) (r' := .nil) rfl]
 |.bin _ o a b,r,r',h=>by simp[E.fl,E.fo,Fo.eqv,h,qcO f a (qcO f b (r := .nil) (r' := .nil) rfl)]
theorem qdi(f fi fb:Bool) : ∀ (s:Ss),((s.fl f fi fb).fo).eqv s.fo=true
 |.nil=>rfl
 |.assign _ s e r=>by simp[Ss.fl,Ss.fo,Fo.eqv,qcO f e (r := .nil) (r' := .nil) rfl,qdi f fi fb r]
 |.store _ s a b r=>by simp[Ss.fl,Ss.fo,Fo.eqv,qcO f a (qcO f b (r := .nil) (r' := .nil) rfl),qdi f fi fb r]
 |.effect _ a b r=>by simp[Ss.fl,Ss.fo,Fo.eqv,qcO f a (qcO f b (r := .nil) (r' := .nil) rfl),qdi f fi fb r]
 |.stop r=>by simp[Ss.fl,Ss.fo,Fo.eqv,qdi f fi fb r]
 |.cond w _ c b r=>by cases w<;>simp[Ss.fl,Ss.fo,Fo.eqv,qcO f c (qdi f fi fb b),qdi f fi fb r]
 |.block _ b r=>by simp[Ss.fl,Ss.fo,Fo.eqv,qdi f fi fb b,qdi f fi fb r]
theorem qkZ : ∀ {a b:Fo},a.eqv b=true->a.size=b.size
 |.nil,.nil,_=>rfl
 |.cons ..,.cons ..,h=>by
  simp only[Fo.eqv,Wq] at h
  simp only[Fo.size,qkZ h.2.1,qkZ h.2.2]
 |.nil,.cons ..,h=>by cases h
 |.cons ..,.nil,h=>by cases h
end
section
def wt:List ByteArray->Nat
 |[]=>0
 |t::l=>t.size+1+wt l
theorem qdS(a b:List ByteArray):wt (a++b)=wt a+wt b:=by
 induction a with
 |nil=>simp[wt]
 |cons t a ih=>simp only[Wg,wt,ih]; omega
theorem qmV : ∀ (l:List ByteArray) (p:Bool),(qap p l).length<=wt l
 |[],p=>by simp[qap,wt]
 |t::l,p=>by
  have h1:=qmV l (qb7 p t)
  have h2:=qau t
  have h3:(gap p t).length<=1:=by unfold gap; split<;>simp
  simp only[qap,Wb,wt]
  omega
theorem qn5(b:Bool)(l:List ByteArray):wt (qbR b l)<=wt l+4:=by
 cases b with
 |false=>simp[qbR]
 |true=>
  have:wt (qbR true l)=2+(wt l+2):=by
   show wt (bs [40]::(l++[bs [41]]))=_
   rw[wt,qdS]
   rfl
  omega
theorem qjh(full:Bool) : ∀ (e:E) p,wt (e.tx full p)<=e.cost
 |.int n,p=>by simp[E.tx,wt,E.cost,qaw]
 |.bool n,p=>by
  simp only[E.tx,wt,E.cost]
  split<;>simp[qdP,qgE,qaw]
 |.var s,p=>by simp[E.tx,wt,E.cost]
 |.name s,p=>by simp[E.tx,wt,E.cost]
 |.field _ s e,p=>by
  have:=qjh full e 1
  simp only[E.tx,wt,qdS,E.cost,qaw,We,Wk]
  omega
 |.un _ neg e,p=>by
  have h1:=qjh full e (qdK neg)
  have h2:=qn5 (full||decide (qdK neg<p)) (ustr neg::e.tx full (qdK neg))
  have h3:(ustr neg).size=1:=by cases neg<;>rfl
  simp only[E.tx,E.cost]
  rw[wt,h3] at h2
  omega
 |.bin _ o a b,p=>by
  have h1:=qjh full a o.left
  have h2:=qjh full b (o.prec+1)
  have h3:=qn5 (full||decide (o.prec<p)) (a.tx full o.left++o.str::b.tx full (o.prec+1))
  have how:5<=o.w:=by cases o<;>decide
  simp only[E.tx,E.cost]
  rw[qdS,wt] at h3
  omega
theorem qkQ : ∀ s:Ss,wt s.tx<=s.cost
 |.nil=>Wj _
 |.assign _ s e r=>by
  have h1:=qjh false e 1
  have h2:=qkQ r
  simp only[Ss.tx,wt,qdS,Ss.cost,qaw,We,Wk]
  omega
 |.store _ s a b r=>by
  have h1:=qjh false a 1
  have h3:=qjh false b 1
  have h2:=qkQ r
  simp only[Ss.tx,wt,qdS,Ss.cost,qaw,We,Wk]
  omega
 |.effect _ a b r=>by
  have h1:=qjh false a 1
  have h3:=qjh false b 1
  have h2:=qkQ r
  simp only[Ss.tx,wt,qdS,Ss.cost,qkH,qaw,We,Wk]
  omega
 |.stop r=>by
  have h2:=qkQ r
  simp only[Ss.tx,wt,qdS,Ss.cost,qs0,qaw,We,Wk]
  omega
 |.cond w _ c b r=>by
  have h1:=qjh false c 1
  have h3:=qkQ b
  have h2:=qkQ r
  cases w<;>simp only[Ss.tx,wt,qdS,Ss.cost,qnO,ifS,qaw,We,Wk,if_true,Wn,if_false]<;>omega
 |.block _ b r=>by
  have h3:=qkQ b
  have h2:=qkQ r
  simp only[Ss.tx,wt,qdS,Ss.cost,qaw,We,Wk]
  split
  ·simp only[wt,qkG,qaw,We,Wk]; omega
  ·simp only[wt]; omega
theorem qn6{s:ByteArray}(h:s∈qtE):qqH s/\s.size<=3:=by
 simp only[qtE,qpt,Wg,Wc,Wo,Wx,or_false] at h
 have key : ∀ (c:UInt8) (r:List UInt8),qaQ c=true->(∀ b∈r,qaz b=true)->(c::r).length<=8->Tg (byl (bs (c::r))):=fun c r h1 h2 h3=>qv4 h1 h2 h3
 rcases h with rfl|rfl|rfl|rfl|rfl
 ·exact⟨⟨key 105 [] (by decide) (by decide) (by decide),by decide,by decide,by decide⟩,by decide⟩
 ·exact⟨⟨key 110 [] (by decide) (by decide) (by decide),by decide,by decide,by decide⟩,by decide⟩
 ·exact⟨⟨key 115 [117,109] (by decide) (by decide) (by decide),by decide,by decide,by decide⟩,by decide⟩
 ·exact⟨⟨key 118 [51] (by decide) (by decide) (by decide),by decide,by decide,by decide⟩,by decide⟩
 ·exact⟨⟨key 118 [] (by decide) (by decide) (by decide),by decide,by decide,by decide⟩,by decide⟩
theorem qq3{s:ByteArray}(h:s∈qlZ):(s=qzz\/s=qup\/s=qiR)/\s.size<=5:=by
 simp only[qlZ,Wo,Wx,or_false] at h
 rcases h with rfl|rfl|rfl
 ·exact⟨.inl rfl,by decide⟩
 ·exact⟨.inr (.inl rfl),by decide⟩
 ·exact⟨.inr (.inr rfl),by decide⟩
theorem qjZ{s:ByteArray}(h:s∈qdG):s∈fieldNames/\s.size<=5:=by
 simp only[qdG,qf4,Wg,Wc,Wo,Wx,or_false] at h
 rcases h with rfl|rfl|rfl|rfl|rfl|rfl|rfl|rfl<;>exact⟨by decide,by decide⟩
theorem qbJ : ∀ e:E,e.fine->e.good
 |.int n,h=>h
 |.bool n,h=>h
 |.var s,h=>(qn6 h).1
 |.name s,h=>(qq3 h).1
 |.field _ s e,h=>⟨(qjZ h.1).1,qbJ e h.2.1⟩
 |.un _ neg e,h=>qbJ e h.1
 |.bin _ o a b,h=>⟨qbJ a h.1,qbJ b h.2.1⟩
theorem qcM(full:Bool) : ∀ (e:E) p,e.nest full p<=2*e.dp
 |.int n,p | .bool n,p | .var s,p | .name s,p=>by simp[E.nest]
 |.field _ s e,p=>by have:=qcM full e 1; simp only[E.nest,E.dp]; omega
 |.un _ neg e,p=>by have:=qcM full e (qdK neg); simp only[E.nest,E.dp]; split<;>omega
 |.bin _ o a b,p=>by have h1:=qcM full a o.left; have h2:=qcM full b (o.prec+1); simp only[E.nest,E.dp]; split<;>omega
theorem qpd{s:ByteArray}(h:s∈qf4):s∈qdG:=Yr _ h
theorem qpe(s:Ss):s.fine->s.good none:=by
 fun_induction Ss.fine s with
 |case1=>intro _; exact .inl rfl
 |case2 _ s e r ih=>intro h; exact⟨rfl,(qn6 h.1.1).1,qbJ e h.1.2.1,ih h.2⟩
 |case3 _ s a b r ih=>intro h; exact⟨rfl,(qjZ (qpd h.1.1)).1,qbJ a h.1.2.1,qbJ b h.1.2.2.2.1,ih h.2⟩
 |case4 _ a b r ih=>intro h; exact⟨rfl,qbJ a h.1.1,qbJ b h.1.2.2.1,ih h.2⟩
 |case5 r ih=>intro h; exact⟨rfl,ih h⟩
 |case6 _ c _ x _ y r ih1 ih2 ih3=>intro h; exact⟨rfl,qbJ c h.1.1,⟨1,rfl,ih1 h.2.1,⟨0,rfl,ih2 h.2.2.1,.inr rfl⟩⟩,ih3 h.2.2.2⟩
 |case7 _ c _ x r ih1 ih2=>intro h; exact⟨rfl,qbJ c h.1.1,⟨0,rfl,ih1 h.2.1,.inr rfl⟩,ih2 h.2.2⟩
 |case8=>intro h; exact h.elim
theorem qde : ∀ s:Ss,s.nest<=2*s.edp+1+s.dp
 |.nil=>by simp[Ss.nest]
 |.assign _ s e r=>by have h1:=qcM false e 1; have h2:=qde r; simp only[Ss.nest,Ss.edp,Ss.dp]; omega
 |.store _ s a b r=>by have h1:=qcM false a 1; have h3:=qcM false b 1; have h2:=qde r; simp only[Ss.nest,Ss.edp,Ss.dp]; omega
 |.effect _ a b r=>by have h1:=qcM false a 1; have h3:=qcM false b 1; have h2:=qde r; simp only[Ss.nest,Ss.edp,Ss.dp]; omega
 |.stop r=>by have h2:=qde r; simp only[Ss.nest,Ss.edp,Ss.dp]; omega
 |.cond _ _ c b r=>by have h1:=qcM false c 1; have h3:=qde b; have h2:=qde r; simp only[Ss.nest,Ss.edp,Ss.dp]; omega
 |.block _ b r=>by have h3:=qde b; have h2:=qde r; simp only[Ss.nest,Ss.edp,Ss.dp]; omega
theorem qkR{h:Hd}(hg:h.gen):qdC h.opt:=by
 cases h with
 |none=>intro b hb; cases hb
 |some f b=>
  intro x hx
  cases hx
  have h1:=hg.dp
  have h2:=hg.edp
  have h3:=qde b
  simp only[Hd.ss] at h1 h2
  exact⟨qpe b hg.fine,by omega⟩
theorem qlS{a b c:Hd}(ha:a.gen)(hb:b.gen)(hc:c.gen) : ∀ k,qdC (Hd.opts a b c k)
 |0=>qkR ha
 |1=>qkR hb
 |_+2=>qkR hc
theorem qpf(k:Nat)(h:Hd):wt (qfC k h.opt)<=h.cost:=by
 cases h with
 |none=>simp[Hd.opt,qfC,wt]
 |some f b=>
  have:=qkQ b
  have hk:(qcW k).size<=4:=by unfold qcW; split<;>decide
  simp only[Hd.opt,qfC,wt,qdS,Hd.cost,onS,qaw,We,Wk]
  omega
theorem qn7(a b c:Hd):(qap false (qaY (Hd.opts a b c))).length<=a.cost+(b.cost+c.cost):=by
 refine Yd (qmV (qaY (Hd.opts a b c)) false) ?_
 simp only[qaY,qdS]
 exact Nat.add_le_add (qpf 0 a) (Nat.add_le_add (qpf 1 b) (qpf 2 c))
end
end Go.Pm
section
namespace Go.Pm.F
def tK:Nat->Option PFun
 |227=>some F227
 |_=>none
def tKd:Nat->Option PFun
 |_=>none
def tKz:Nat->Option PFun
 |314=>some F314
 |_=>none
end Go.Pm.F
end
namespace Go.Pm
section
open F
def tab2:ByteArray:=⟨#[48,48,48,49,48,50,48,51,48,52,48,53,48,54,48,55,48,56,48,57,49,48,49,49,49,50,49,51,49,52,49,53,49,54,49,55,49,56,49,57,50,48,50,49,50,50,50,51,50,52,50,53,50,54,50,55,50,56,50,57,51,48,51,49,51,50,51,51,51,52,51,53,51,54,51,55,51,56,51,57,52,48,52,49,52,50,52,51,52,52,52,53,52,54,52,55,52,56,52,57,53,48,53,49,53,50,53,51,53,52,53,53,53,54,53,55,53,56,53,57,54,48,54,49,54,50,54,51,54,52,54,53,54,54,54,55,54,56,54,57,55,48,55,49,55,50,55,51,55,52,55,53,55,54,55,55,55,56,55,57,56,48,56,49,56,50,56,51,56,52,56,53,56,54,56,55,56,56,56,57,57,48,57,49,57,50,57,51,57,52,57,53,57,54,57,55,57,56,57,57]⟩
def tab8:ByteArray:=⟨#[0,1,2,2,3,3,3,3,4,4,4,4,4,4,4,4,5,5,5,5,5,5,5,5,5,5,5,5,5,5,5,5,6,6,6,6,6,6,6,6,6,6,6,6,6,6,6,6,6,6,6,6,6,6,6,6,6,6,6,6,6,6,6,6,7,7,7,7,7,7,7,7,7,7,7,7,7,7,7,7,7,7,7,7,7,7,7,7,7,7,7,7,7,7,7,7,7,7,7,7,7,7,7,7,7,7,7,7,7,7,7,7,7,7,7,7,7,7,7,7,7,7,7,7,7,7,7,7,8,8,8,8,8,8,8,8,8,8,8,8,8,8,8,8,8,8,8,8,8,8,8,8,8,8,8,8,8,8,8,8,8,8,8,8,8,8,8,8,8,8,8,8,8,8,8,8,8,8,8,8,8,8,8,8,8,8,8,8,8,8,8,8,8,8,8,8,8,8,8,8,8,8,8,8,8,8,8,8,8,8,8,8,8,8,8,8,8,8,8,8,8,8,8,8,8,8,8,8,8,8,8,8,8,8,8,8,8,8,8,8,8,8,8,8,8,8,8,8,8,8,8,8,8,8,8,8]⟩
section
variable(tab:ByteArray)
def F295l0Kx:PC:=(.seq (.seq (rn [mv 19 4,bk 20 .geq 19 8] [0,1,4,20]) (.cond (.t 20) (.skip) (.exit 0))) (.block 1 (.seq (rn [mv 21 1,jj 22 (.bin .rem (.t 21) (.c (.int .u64 100000000))),jj 23 (.conv (.int .u32) (.t 22)),mv 5 23] [0,1,4,5]) (.seq (rn [mv 24 1,jj 25 (.bin .quo (.t 24) (.c (.int .u64 100000000))),mv 1 25] [0,1,4,5]) (.seq (rn [mv 26 5,jj 27 (.bin .quo (.t 26) (.c (.int .u32 10000))),mv 28 5,jj 29 (.bin .rem (.t 28) (.c (.int .u32 10000))),mv 6 27,mv 7 29] [0,1,4,6,7]) (.seq (rn [mv 30 7,jj 31 (.bin .quo (.t 30) (.c (.int .u32 100))),jj 32 (.bin .mul (.t 31) (.c (.int .u32 2))),mv 33 7,jj 34 (.bin .rem (.t 33) (.c (.int .u32 100))),jj 35 (.bin .mul (.t 34) (.c (.int .u32 2))),mv 8 32,mv 9 35] [0,1,4,6,8,9]) (.seq (rn [mv 36 6,jj 37 (.bin .quo (.t 36) (.c (.int .u32 100))),jj 38 (.bin .mul (.t 37) (.c (.int .u32 2))),mv 39 6,jj 40 (.bin .rem (.t 39) (.c (.int .u32 100))),jj 41 (.bin .mul (.t 40) (.c (.int .u32 2))),mv 10 38,mv 11 41] [0,1,4,8,9,10,11]) (.seq (.region (some []) [mv 42 0,mv 43 4,bk 44 .sub 43 1,mv 45 0,mv 46 4,bk 47 .sub 46 2,mv 48 9,jj 49 (.bin .add (.t 48) (.c (.int .u32 1))),jj 50 (.indexS (.c (.string tab)) (.t 49)),mv 51 9,jj 52 (.indexS (.c (.string tab)) (.t 51)),jj 53 (.indexAddr 1 (.t 42) (.t 44)),st 1 53 50,jj 54 (.indexAddr 1 (.t 45) (.t 47)),st 1 54 52] [0,1,4,8,10,11]) (.seq (.region (some []) [mv 55 0,mv 56 4,bk 57 .sub 56 3,mv 58 0,mv 59 4,bk 60 .sub 59 4,mv 61 8,jj 62 (.bin .add (.t 61) (.c (.int .u32 1))),jj 63 (.indexS (.c (.string tab)) (.t 62)),mv 64 8,jj 65 (.indexS (.c (.string tab)) (.t 64)),jj 66 (.indexAddr 1 (.t 55) (.t 57)),st 1 66 63,jj 67 (.indexAddr 1 (.t 58) (.t 60)),st 1 67 65] [0,1,4,10,11]) (.seq (.region (some []) [mv 68 0,mv 69 4,bk 70 .sub 69 5,mv 71 0,mv 72 4,bk 73 .sub 72 6,mv 74 11,jj 75 (.bin .add (.t 74) (.c (.int .u32 1))),jj 76 (.indexS (.c (.string tab)) (.t 75)),mv 77 11,jj 78 (.indexS (.c (.string tab)) (.t 77)),jj 79 (.indexAddr 1 (.t 68) (.t 70)),st 1 79 76,jj 80 (.indexAddr 1 (.t 71) (.t 73)),st 1 80 78] [0,1,4,10]) (.seq (.region (some []) [mv 81 0,mv 82 4,bk 83 .sub 82 7,mv 84 0,mv 85 4,bk 86 .sub 85 8,mv 87 10,jj 88 (.bin .add (.t 87) (.c (.int .u32 1))),jj 89 (.indexS (.c (.string tab)) (.t 88)),mv 90 10,jj 91 (.indexS (.c (.string tab)) (.t 90)),jj 92 (.indexAddr 1 (.t 81) (.t 83)),st 1 92 89,jj 93 (.indexAddr 1 (.t 84) (.t 86)),st 1 93 91] [0,1,4]) (rn [mv 94 4,bk 95 .sub 94 8,mv 4 95] [0,1,4]))))))))))))
def F295l0K:PC:=F295l0Kx tab
theorem qb1(C:Task->Option Res)(q:Nat)(fr:Fr)(σ : S):run C q (F295l0K tab) fr σ = run C q (F295l0Kx tab) fr σ := rfl
def F295K:PFun:=⟨2,[],.seq (rn [mv 17 0,ls 18 17,mv 4 18] [0,1,4]) (.seq (.block 0 (.loop (F295l0K tab))) (.seq (rn [mv 96 1,jj 97 (.conv (.int .u32) (.t 96)),mv 12 97] [0,4,12]) (.seq (.seq (rn [mv 98 4,bk 99 .geq 98 4] [0,4,12,99]) (.cond (.t 99) (.seq (rn [mv 100 12,jj 101 (.bin .rem (.t 100) (.c (.int .u32 10000))),mv 13 101] [0,4,12,13]) (.seq (rn [mv 102 12,jj 103 (.bin .quo (.t 102) (.c (.int .u32 10000))),mv 12 103] [0,4,12,13]) (.seq (rn [mv 104 13,jj 105 (.bin .quo (.t 104) (.c (.int .u32 100))),jj 106 (.bin .mul (.t 105) (.c (.int .u32 2))),mv 107 13,jj 108 (.bin .rem (.t 107) (.c (.int .u32 100))),jj 109 (.bin .mul (.t 108) (.c (.int .u32 2))),mv 14 106,mv 15 109] [0,4,12,14,15]) (.seq (.region (some []) [mv 110 0,mv 111 4,bk 112 .sub 111 1,mv 113 0,mv 114 4,bk 115 .sub 114 2,mv 116 15,jj 117 (.bin .add (.t 116) (.c (.int .u32 1))),jj 118 (.indexS (.c (.string tab)) (.t 117)),mv 119 15,jj 120 (.indexS (.c (.string tab)) (.t 119)),jj 121 (.indexAddr 1 (.t 110) (.t 112)),st 1 121 118,jj 122 (.indexAddr 1 (.t 113) (.t 115)),st 1 122 120] [0,4,12,14]) (.seq (.region (some []) [mv 123 0,mv 124 4,bk 125 .sub 124 3,mv 126 0,mv 127 4,bk 128 .sub 127 4,mv 129 14,jj 130 (.bin .add (.t 129) (.c (.int .u32 1))),jj 131 (.indexS (.c (.string tab)) (.t 130)),mv 132 14,jj 133 (.indexS (.c (.string tab)) (.t 132)),jj 134 (.indexAddr 1 (.t 123) (.t 125)),st 1 134 131,jj 135 (.indexAddr 1 (.t 126) (.t 128)),st 1 135 133] [0,4,12]) (rn [mv 136 4,bk 137 .sub 136 4,mv 4 137] [0,4,12])))))) (.skip))) (.seq (.seq (rn [mv 138 4,bk 139 .geq 138 2] [0,4,12,139]) (.cond (.t 139) (.seq (rn [mv 140 12,jj 141 (.bin .rem (.t 140) (.c (.int .u32 100))),jj 142 (.bin .mul (.t 141) (.c (.int .u32 2))),mv 16 142] [0,4,12,16]) (.seq (rn [mv 143 12,jj 144 (.bin .quo (.t 143) (.c (.int .u32 100))),mv 12 144] [0,4,12,16]) (.seq (.region (some []) [mv 145 0,mv 146 4,bk 147 .sub 146 1,mv 148 0,mv 149 4,bk 150 .sub 149 2,mv 151 16,jj 152 (.bin .add (.t 151) (.c (.int .u32 1))),jj 153 (.indexS (.c (.string tab)) (.t 152)),mv 154 16,jj 155 (.indexS (.c (.string tab)) (.t 154)),jj 156 (.indexAddr 1 (.t 145) (.t 147)),st 1 156 153,jj 157 (.indexAddr 1 (.t 148) (.t 150)),st 1 157 155] [0,4,12]) (rn [mv 158 4,bk 159 .sub 158 2,mv 4 159] [0,4,12])))) (.skip))) (.seq (rn [mv 160 4,bk 161 .gtr 160 0] [0,12,161]) (.cond (.t 161) (rn [mv 162 0,mv 163 12,jj 164 (.bin .add (.c (.int .u32 48)) (.t 163)),jj 165 (.conv (.int .u8) (.t 164)),jj 166 (.indexAddr 1 (.t 162) (kk 0)),st 1 166 165] []) (.skip))))))),false,false,false⟩
def F299K:PFun:=⟨1,[.tmp 2],.seq (rn [mx 2 (kk 0)] [0,2]) (.seq (.seq (rn [mv 3 0,jj 4 (.bin .geq (.t 3) (.c (.int .u64 4294967296)))] [0,2,4]) (.cond (.t 4) (.seq (rn [mv 5 0,jj 6 (.bin .shr (.t 5) (.c (.int .u64 32))),mv 0 6] [0]) (rn [mx 2 (kk 32)] [0,2])) (.skip))) (.seq (.seq (rn [mv 7 0,jj 8 (.bin .geq (.t 7) (.c (.int .u64 65536)))] [0,2,8]) (.cond (.t 8) (.seq (rn [mv 9 0,jj 10 (.bin .shr (.t 9) (.c (.int .u64 16))),mv 0 10] [0,2]) (rn [mv 11 2,bk 12 .add 11 16,mv 2 12] [0,2])) (.skip))) (.seq (.seq (rn [mv 13 0,jj 14 (.bin .geq (.t 13) (.c (.int .u64 256)))] [0,2,14]) (.cond (.t 14) (.seq (rn [mv 15 0,jj 16 (.bin .shr (.t 15) (.c (.int .u64 8))),mv 0 16] [0,2]) (rn [mv 17 2,bk 18 .add 17 8,mv 2 18] [0,2])) (.skip))) (.seq (rn [mv 19 2,mv 20 0,jj 21 (.conv (.int .u8) (.t 20)),jj 22 (.indexS (.c (.string tab)) (.t 21)),jj 23 (.conv (.int .i64) (.t 22)),bn 24 .add 19 23,mv 2 24] [2]) (.ret))))),false,false,false⟩
end
def dg(d:Nat):UInt8:=(48+d).toUInt8
theorem qso{d:Nat}(h:d<10):(dg d).toNat=48+d:=qBR d h
theorem qyP : ∀ k,k<100->tab2[2*k]?=some (dg (k / 10)):=by decide +kernel
theorem qyQ : ∀ k,k<100->tab2[2*k+1]?=some (dg (k % 10)):=by decide +kernel
theorem qvE : ∀ x,x<256 -> ∃ l,tab8[x]?=some l/\l.toNat<=8/\(x=0->l.toNat=0)/\(0<x->2 ^ (l.toNat-1)<=x/\x<2 ^ l.toNat/\0<l.toNat):=by
 have h : ∀ x,x<256->(match tab8[x]? with
  |some l=>decide (l.toNat<=8)&&(decide (x=0->l.toNat=0)&&decide (0<x->2 ^ (l.toNat-1)<=x/\x<2 ^ l.toNat/\0<l.toNat))
  |none=>false)=true:=by decide +kernel
 intro x hx
 have:=h x hx
 cases hl:tab8[x]? with
 |none=>rw[hl] at this; cases this
 |some l=>
  rw[hl] at this
  simp only[Wq,decide_eq_true_eq] at this
  exact⟨l,rfl,this.1,this.2.1,this.2.2⟩
def qmy:Nat->Nat->List UInt8
 |0,_=>[]
 |d+1,u=>qmy d (u / 10)++[dg (u % 10)]
theorem qlv : ∀ (k d u:Nat),u<10 ^ (d+1)->(d=0\/10 ^ d<=u)->d<k->qkJ k u=qmy (d+1) u
 |0,d,u,_,_,h=>by omega
 |k+1,0,u,h,_,_=>by
  have:u<10:=by simpa using h
  simp[qkJ,qmy,this,dg,Nat.mod_eq_of_lt this]
 |k+1,d+1,u,h,h2,h3=>by
  have e : ¬ u<10:=by
   have:10 ^ 1<=10 ^ (d+1):=YG (by omega) (by omega)
   rcases h2 with h2|h2<;>omega
  have ih:=qlv k d (u / 10) (by rw[YP] at h; omega) (by
   rcases d with _|d
   ·exact .inl rfl
   ·right
    rcases h2 with h2|h2
    ·cases h2
    ·rw[YP] at h2; omega) (by omega)
  rw[qkJ,if_neg e,ih,qmy]
  rfl
theorem qcp{d u:Nat}(h:u<10 ^ (d+1))(h2:10 ^ d<=u)(hd:d<20):decB u=qmy (d+1) u:=qlv 20 d u h (.inr h2) hd
abbrev U64(n:Nat):V := .dat (.lit (.int .u64 n))
theorem qCB{n:Nat}(h:n<18446744073709551616):IntKind.u64.wrap (n:Int)=n:=by rw[IntKind.wrap_u64]; omega
theorem qrQ{n:Nat}(h:n<4294967296):IntKind.u32.wrap (n:Int)=n:=by rw[IntKind.wrap_u32']; omega
theorem w8u{n:Nat}(h:n<256):IntKind.u8.wrap (n:Int)=n:=by rw[IntKind.wrap_u8']; omega
theorem qvF(a b:Nat):Int.fdiv (a:Int) (b:Int)=((a / b:Nat):Int):=by
 rw[Int.fdiv_eq_ediv_of_nonneg _ (by omega)]; rfl
theorem qBs{u:Nat}(h0:0<u)(h1:u<2147483648) : ∃ L:Nat,L<=31/\0<L/\2 ^ (L-1)<=u/\u<2 ^ L/\Z tQ (.call 299 [U64 u] [])=some (.ret (.int L) []):=by
 have key : ∀ x a:Nat,x<256->0<x->a<=24->a*1=a -> ∃ l:UInt8,tab8[x]?=some l/\a+l.toNat<=a+8/\0<a+l.toNat/\2 ^ (a+l.toNat-1)<=x*2 ^ a/\(x+1)*2 ^ a<=2 ^ (a+l.toNat)/\l.toNat<=8:=by
  intro x a hx hp _ _
  obtain⟨l,e1,e2,_,e4⟩:=qvE x hx
  obtain⟨e5,e6,e7⟩:=e4 hp
  refine⟨l,e1,by omega,by omega,?_,?_,e2⟩
  ·rw[show a+l.toNat-1=(l.toNat-1)+a by omega,Nat.pow_add]
   exact WW _ e5
  ·rw[YM a,Nat.pow_add]
   exact WW _ e6
 have hx:tQ 299=some (F299K tab8):=rfl
 have c1 : ¬ (4294967296:Int)<=u:=by omega
 have n16 : ∀ x:Nat,qpU .u64 (x:Int) 16=((x / 65536:Nat):Int):=fun x=>qvF x 65536
 have n8 : ∀ x:Nat,qpU .u64 (x:Int) 8=((x / 256:Nat):Int):=fun x=>qvF x 256
 by_cases a1:65536<=u
 ·by_cases a2:256<=u / 65536
  ·obtain⟨l,e1,e2,e3,e4,e5,e6⟩:=key (u / 65536 / 256) 24 (by omega) (by omega) (by omega) rfl
   have hL:l.toNat<=7:=by
    rcases Yc l.toNat 8 with h|h
    ·omega
    ·have:l.toNat=8:=by omega
     rw[this] at e4
     omega
   refine⟨24+l.toNat,by omega,e3,by omega,by omega,?_⟩
   refine qac hx rfl ?_
   have w1:=w8u (show u / 65536 / 256<256 by omega)
   have w2:IntKind.i64.wrap (24+(l.toNat:Int))=((24+l.toNat:Nat):Int):=by rw[qai _ (by omega)]; omega
   have w3:=qai (l.toNat:Int) (by omega)
   have w4:IntKind.i64.wrap 24=24:=rfl
   have w5:IntKind.i64.wrap 16=16:=rfl
   have b1:(65536:Int)<=u:=by omega
   have b2:(256:Int)<=((u / 65536:Nat):Int):=by omega
   generalize tab8=tb at *
   generalize hq1:u / 65536=q1 at *
   generalize hq2:q1 / 256=q2 at *
   generalize 24+l.toNat=L at *
   simp[F299K,c1,b1,b2,n16,n8,hq1,hq2,w1,w2,w3,w4,w5,e1]
  ·obtain⟨l,e1,e2,e3,e4,e5,e6⟩:=key (u / 65536) 16 (by omega) (by omega) (by omega) rfl
   refine⟨16+l.toNat,by omega,e3,by omega,by omega,?_⟩
   refine qac hx rfl ?_
   have w1:=w8u (show u / 65536<256 by omega)
   have w2:IntKind.i64.wrap (16+(l.toNat:Int))=((16+l.toNat:Nat):Int):=by rw[qai _ (by omega)]; omega
   have w3:=qai (l.toNat:Int) (by omega)
   have w4:IntKind.i64.wrap 16=16:=rfl
   have b1:(65536:Int)<=u:=by omega
   have b2 : ¬ (256:Int)<=((u / 65536:Nat):Int):=by omega
   generalize tab8=tb at *
   generalize hq1:u / 65536=q1 at *
   generalize 16+l.toNat=L at *
   simp[F299K,c1,b1,b2,n16,n8,hq1,w1,w2,w3,w4,e1]
 ·by_cases a2:256<=u
  ·obtain⟨l,e1,e2,e3,e4,e5,e6⟩:=key (u / 256) 8 (by omega) (by omega) (by omega) rfl
   refine⟨8+l.toNat,by omega,e3,by omega,by omega,?_⟩
   refine qac hx rfl ?_
   have w1:=w8u (show u / 256<256 by omega)
   have w2:IntKind.i64.wrap (8+(l.toNat:Int))=((8+l.toNat:Nat):Int):=by rw[qai _ (by omega)]; omega
   have w3:=qai (l.toNat:Int) (by omega)
   have w4:IntKind.i64.wrap 8=8:=rfl
   have b1 : ¬ (65536:Int)<=u:=by omega
   have b2:(256:Int)<=u:=by omega
   generalize tab8=tb at *
   generalize hq1:u / 256=q1 at *
   generalize 8+l.toNat=L at *
   simp[F299K,c1,b1,b2,n16,n8,hq1,w1,w2,w3,w4,e1]
  ·obtain⟨l,e1,e2,e3,e4,e5,e6⟩:=key u 0 (by omega) (by omega) (by omega) rfl
   refine⟨0+l.toNat,by omega,e3,by omega,by omega,?_⟩
   refine qac hx rfl ?_
   have w1:=w8u (show u<256 by omega)
   have w2:IntKind.i64.wrap (0+(l.toNat:Int))=((0+l.toNat:Nat):Int):=by rw[qai _ (by omega)]; omega
   have w3:=qai (l.toNat:Int) (by omega)
   have b1 : ¬ (65536:Int)<=u:=by omega
   have b2 : ¬ (256:Int)<=u:=by omega
   generalize tab8=tb at *
   simp[F299K,c1,b1,b2,n16,n8,w1,w3,e1]
theorem qBt{L:Nat}(h:L<=31):Z tQ (.call 298 [.int L] [])=some (.ret (.int (L*78913 / 262144:Nat)) []):=by
 refine qac (pf:=F298) rfl rfl ?_
 have w1:=qai ((L:Int)*78913) (by omega)
 have n18:qpU .i64 ((L:Int)*78913) 18=((L*78913 / 262144:Nat):Int):=by
  have:=qvF (L*78913) 262144
  rw[<- this]
  simp[qpU]
  rfl
 generalize L*78913 / 262144=q at *
 simp[F298,w1,n18]
theorem qBu(b:Bool):Z tQ (.call 300 [.bool b] [])=some (.ret (.int (if b then 1 else 0)) []):=by
 refine qac (pf:=F300) rfl rfl ?_
 cases b<;>simp[F300]
theorem qvG : ∀ i,i<20->cutCells G_internal_strconv_uint64pow10 i 1=some [.lit (.int .u64 (10 ^ i:Nat))]:=by
 intro i hi
 unfold cutCells G_internal_strconv_uint64pow10
 rw[Ww (by simpa using hi)]
 simp
theorem qvH{u L:Nat}(h7:7<=L)(h31:L<=31)(hl:2 ^ (L-1)<=u)(hu:u<2 ^ L)(h100:100<=u)(h2:u<2147483648) : ∃ d,3<=d/\d<=10/\10 ^ (d-1)<=u/\u<10 ^ d/\d=L*78913 / 262144+(if 10 ^ (L*78913 / 262144)<=u then 1 else 0):=by
 have hL:L=7\/L=8\/L=9\/L=10\/L=11\/L=12\/L=13\/L=14\/L=15\/L=16\/L=17\/L=18\/L=19\/L=20\/L=21\/L=22\/L=23\/L=24\/L=25\/L=26\/L=27\/L=28\/L=29\/L=30\/L=31:=by omega
 rcases hL with rfl|rfl|rfl|rfl|rfl|rfl|rfl|rfl|rfl|rfl|rfl|rfl|rfl|rfl|rfl|rfl|rfl|rfl|rfl|rfl|rfl|rfl|rfl|rfl|rfl
 all_goals
  refine⟨_,?_,?_,?_,?_,rfl⟩<;>simp only[Nat.reduceMul,Nat.reduceDiv,Nat.reducePow,Nat.reduceSub] at hl hu ⊢ <;> split<;>simp<;>omega
theorem qsp{u:Nat}(h100:100<=u)(h2:u<2147483648) : ∃ d:Nat,3<=d/\d<=10/\10 ^ (d-1)<=u/\u<10 ^ d/\Z tQ (.call 294 [U64 u] [])=some (.ret (.int d) []):=by
 obtain⟨L,l1,l2,l3,l4,z⟩:=qBs (by omega) h2
 have h7:7<=L:=by
  rcases Yc L 7 with h|h
  ·have:2 ^ L<=2 ^ 6:=YG (by omega) (by omega)
   omega
  ·exact h
 obtain⟨d,d1,d2,d3,d4,d5⟩:=qvH h7 l1 l3 l4 h100 h2
 refine⟨d,d1,d2,d3,d4,?_⟩
 have zl:=qBt l1
 have hi:L*78913 / 262144<=9:=by omega
 generalize L*78913 / 262144=i at *
 have hp:=qvG i (by omega)
 have zb:=qBu (decide (10 ^ i<=u))
 have hc:((10 ^ i:Nat):Int)<=(u:Int)↔10 ^ i<=u:=by omega
 have hres:IntKind.i64.wrap ((i:Int)+(if decide (10 ^ i<=u)=true then 1 else 0))=(d:Int):=by
  rw[qai _ (by split<;>omega),d5]
  by_cases h:10 ^ i<=u<;>simp[h]
 refine qac (pf:=F294) rfl rfl ?_
 have i20:(i:Int)<20:=by omega
 generalize 10 ^ i=P at *
 generalize (if decide (P<=u)=true then (1:Int) else 0)=e at *
 simp[F294,z,zl,zb,hp,hc,hres,i20]
end
section
open F
theorem qgw:IntKind.i64.wrap 0=0/\IntKind.i64.wrap 1=1/\IntKind.i64.wrap 2=2/\IntKind.i64.wrap 3=3/\IntKind.i64.wrap 4=4/\IntKind.i64.wrap 5=5/\IntKind.i64.wrap 6=6/\IntKind.i64.wrap 7=7/\IntKind.i64.wrap 8=8/\IntKind.i64.wrap 9=9/\IntKind.i64.wrap 10=10/\IntKind.i64.wrap 11=11:=by decide
abbrev u8z:V := .dat (.lit (.int .u8 0))
theorem dgc{x y:Nat}(h:x=y):dg x=dg y:=by rw[h]
theorem wdg{n:Nat}(h:n<10):IntKind.u8.wrap (IntKind.u32.wrap (48+(n:Int)))=((dg n).toNat:Int):=by rw[qso h,IntKind.wrap_u32',IntKind.wrap_u8']; omega
theorem dm(x k:Nat){K:Int}(hK:K=k)(hx:x<2147483648)(hk:1<k) : ∃ a b:Nat,a=x / k/\b=x % k/\((x:Int).tdiv K=a/\(x:Int) / K=a/\IntKind.u32.wrap (a:Int)=a/\IntKind.u64.wrap (a:Int)=a/\(x:Int).tmod K=b/\(x:Int) % K=b/\IntKind.u32.wrap (b:Int)=b):=by
 subst hK
 have h1:x / k<=x:=Nat.div_le_self x k
 have h2:x % k<=x:=Nat.mod_le x k
 exact⟨_,_,rfl,rfl,rfl,rfl,qrQ (by omega),qCB (by omega),rfl,rfl,qrQ (by omega)⟩
theorem pr{x:Nat}(h:x<100) : ∃ p q:Nat,IntKind.u32.wrap ((x:Int)*2)=(p:Int)/\IntKind.u32.wrap ((p:Int)+1)=(q:Int)/\tab2[p]?=some (dg (x / 10))/\tab2[q]?=some (dg (x % 10)):=
 ⟨2*x,2*x+1,by rw[IntKind.wrap_u32']; omega,by rw[IntKind.wrap_u32']; omega,qyP x h,qyQ x h⟩
theorem qnz : ∀ (n u:Nat),(qmy n u).length=n
 |0,_=>rfl
 |n+1,u=>by rw[qmy,Wb,qnz n]; rfl
def buf(l:List UInt8):List V:=vb (0::(l++List.replicate (23-l.length) 0))
def FB(n u:Nat):Prop:=Z tQ (.call 295 [.msl 0 1 n 23 1,U64 u] [.cells (List.replicate 24 u8z)])=some (.ret (.tup []) [.cells (buf (decB u))])
theorem qBy{u:Nat}(h1:10 ^ 2<=u)(h2:u<10 ^ 3)(h3:u<2147483648):FB 3 u:=by
 have g1:=h1
 have g2:=h2
 simp only[Nat.reducePow] at g1 g2
 have n0:=qrQ (n:=u) (by omega)
 obtain⟨G,t,eG,et,m1⟩:=dm u 100 (K:=100) rfl (by omega) (by omega)
 obtain⟨p2,q2,m2⟩:=pr (x:=t) (by omega)
 have n7:=wdg (n:=G) (by omega)
 have hd:decB u=[dg (G),dg (t / 10),dg (t % 10)]:=by
  rw[qcp (d:=2) h2 h1 (by omega)]
  simp only[qmy,Wc,Wg,WI,and_true,W4,Nat.reduceMul]
  exact⟨dgc (by omega),dgc (by omega),dgc (by omega)⟩
 rw[FB,hd]
 clear hd
 obtain⟨v0,v1,v2,v3,v4,v5,v6,v7,v8,v9,v10,v11⟩:=qgw
 refine qac (pf:=F295K tab2) rfl rfl ?_
 generalize tab2=tab at *
 simp[F295K,buf,vb,List.replicate,qaa,qab,qb1,F295l0Kx,V.len,qaf,Wa,v0,v1,v2,v3,v4,v5,v6,v7,v8,v9,v10,v11,n0,m1,m2,n7]
theorem qBz{u:Nat}(h1:10 ^ 3<=u)(h2:u<10 ^ 4)(h3:u<2147483648):FB 4 u:=by
 have g1:=h1
 have g2:=h2
 simp only[Nat.reducePow] at g1 g2
 have n0:=qrQ (n:=u) (by omega)
 obtain⟨C,E,eC,eE,m1⟩:=dm u 10000 (K:=10000) rfl (by omega) (by omega)
 obtain⟨r,s,er,es,m2⟩:=dm E 100 (K:=100) rfl (by omega) (by omega)
 obtain⟨p3,q3,m3⟩:=pr (x:=s) (by omega)
 obtain⟨p4,q4,m4⟩:=pr (x:=r) (by omega)
 have hd:decB u=[dg (r / 10),dg (r % 10),dg (s / 10),dg (s % 10)]:=by
  rw[qcp (d:=3) h2 h1 (by omega)]
  simp only[qmy,Wc,Wg,WI,and_true,W4,Nat.reduceMul]
  exact⟨dgc (by omega),dgc (by omega),dgc (by omega),dgc (by omega)⟩
 rw[FB,hd]
 clear hd
 obtain⟨v0,v1,v2,v3,v4,v5,v6,v7,v8,v9,v10,v11⟩:=qgw
 refine qac (pf:=F295K tab2) rfl rfl ?_
 generalize tab2=tab at *
 simp[F295K,buf,vb,List.replicate,qaa,qab,qb1,F295l0Kx,V.len,qaf,Wa,v0,v1,v2,v3,v4,v5,v6,v7,v8,v9,v10,v11,n0,m1,m2,m3,m4]
theorem qBA{u:Nat}(h1:10 ^ 4<=u)(h2:u<10 ^ 5)(h3:u<2147483648):FB 5 u:=by
 have g1:=h1
 have g2:=h2
 simp only[Nat.reducePow] at g1 g2
 have n0:=qrQ (n:=u) (by omega)
 obtain⟨C,E,eC,eE,m1⟩:=dm u 10000 (K:=10000) rfl (by omega) (by omega)
 obtain⟨r,s,er,es,m2⟩:=dm E 100 (K:=100) rfl (by omega) (by omega)
 obtain⟨p3,q3,m3⟩:=pr (x:=s) (by omega)
 obtain⟨p4,q4,m4⟩:=pr (x:=r) (by omega)
 have n7:=wdg (n:=C) (by omega)
 have hd:decB u=[dg (C),dg (r / 10),dg (r % 10),dg (s / 10),dg (s % 10)]:=by
  rw[qcp (d:=4) h2 h1 (by omega)]
  simp only[qmy,Wc,Wg,WI,and_true,W4,Nat.reduceMul]
  exact⟨dgc (by omega),dgc (by omega),dgc (by omega),dgc (by omega),dgc (by omega)⟩
 rw[FB,hd]
 clear hd
 obtain⟨v0,v1,v2,v3,v4,v5,v6,v7,v8,v9,v10,v11⟩:=qgw
 refine qac (pf:=F295K tab2) rfl rfl ?_
 generalize tab2=tab at *
 simp[F295K,buf,vb,List.replicate,qaa,qab,qb1,F295l0Kx,V.len,qaf,Wa,v0,v1,v2,v3,v4,v5,v6,v7,v8,v9,v10,v11,n0,m1,m2,m3,m4,n7]
theorem qBB{u:Nat}(h1:10 ^ 5<=u)(h2:u<10 ^ 6)(h3:u<2147483648):FB 6 u:=by
 have g1:=h1
 have g2:=h2
 simp only[Nat.reducePow] at g1 g2
 have n0:=qrQ (n:=u) (by omega)
 obtain⟨C,E,eC,eE,m1⟩:=dm u 10000 (K:=10000) rfl (by omega) (by omega)
 obtain⟨r,s,er,es,m2⟩:=dm E 100 (K:=100) rfl (by omega) (by omega)
 obtain⟨p3,q3,m3⟩:=pr (x:=s) (by omega)
 obtain⟨p4,q4,m4⟩:=pr (x:=r) (by omega)
 obtain⟨G,t,eG,et,m5⟩:=dm C 100 (K:=100) rfl (by omega) (by omega)
 obtain⟨p6,q6,m6⟩:=pr (x:=t) (by omega)
 have hd:decB u=[dg (t / 10),dg (t % 10),dg (r / 10),dg (r % 10),dg (s / 10),dg (s % 10)]:=by
  rw[qcp (d:=5) h2 h1 (by omega)]
  simp only[qmy,Wc,Wg,WI,and_true,W4,Nat.reduceMul]
  exact⟨dgc (by omega),dgc (by omega),dgc (by omega),dgc (by omega),dgc (by omega),dgc (by omega)⟩
 rw[FB,hd]
 clear hd
 obtain⟨v0,v1,v2,v3,v4,v5,v6,v7,v8,v9,v10,v11⟩:=qgw
 refine qac (pf:=F295K tab2) rfl rfl ?_
 generalize tab2=tab at *
 simp[F295K,buf,vb,List.replicate,qaa,qab,qb1,F295l0Kx,V.len,qaf,Wa,v0,v1,v2,v3,v4,v5,v6,v7,v8,v9,v10,v11,n0,m1,m2,m3,m4,m5,m6]
theorem qBC{u:Nat}(h1:10 ^ 6<=u)(h2:u<10 ^ 7)(h3:u<2147483648):FB 7 u:=by
 have g1:=h1
 have g2:=h2
 simp only[Nat.reducePow] at g1 g2
 have n0:=qrQ (n:=u) (by omega)
 obtain⟨C,E,eC,eE,m1⟩:=dm u 10000 (K:=10000) rfl (by omega) (by omega)
 obtain⟨r,s,er,es,m2⟩:=dm E 100 (K:=100) rfl (by omega) (by omega)
 obtain⟨p3,q3,m3⟩:=pr (x:=s) (by omega)
 obtain⟨p4,q4,m4⟩:=pr (x:=r) (by omega)
 obtain⟨G,t,eG,et,m5⟩:=dm C 100 (K:=100) rfl (by omega) (by omega)
 obtain⟨p6,q6,m6⟩:=pr (x:=t) (by omega)
 have n7:=wdg (n:=G) (by omega)
 have hd:decB u=[dg (G),dg (t / 10),dg (t % 10),dg (r / 10),dg (r % 10),dg (s / 10),dg (s % 10)]:=by
  rw[qcp (d:=6) h2 h1 (by omega)]
  simp only[qmy,Wc,Wg,WI,and_true,W4,Nat.reduceMul]
  exact⟨dgc (by omega),dgc (by omega),dgc (by omega),dgc (by omega),dgc (by omega),dgc (by omega),dgc (by omega)⟩
 rw[FB,hd]
 clear hd
 obtain⟨v0,v1,v2,v3,v4,v5,v6,v7,v8,v9,v10,v11⟩:=qgw
 refine qac (pf:=F295K tab2) rfl rfl ?_
 generalize tab2=tab at *
 simp[F295K,buf,vb,List.replicate,qaa,qab,qb1,F295l0Kx,V.len,qaf,Wa,v0,v1,v2,v3,v4,v5,v6,v7,v8,v9,v10,v11,n0,m1,m2,m3,m4,m5,m6,n7]
theorem qBD{u:Nat}(h1:10 ^ 7<=u)(h2:u<10 ^ 8)(h3:u<2147483648):FB 8 u:=by
 have g1:=h1
 have g2:=h2
 simp only[Nat.reducePow] at g1 g2
 have n0:=qrQ (n:=u) (by omega)
 obtain⟨B,A,eB,eA,m1⟩:=dm u 100000000 (K:=100000000) rfl (by omega) (by omega)
 obtain⟨H,L,eH,eL,m2⟩:=dm A 10000 (K:=10000) rfl (by omega) (by omega)
 obtain⟨x,y,ex,ey,m3⟩:=dm L 100 (K:=100) rfl (by omega) (by omega)
 obtain⟨z,w,ez,ew,m4⟩:=dm H 100 (K:=100) rfl (by omega) (by omega)
 obtain⟨p5,q5,m5⟩:=pr (x:=y) (by omega)
 obtain⟨p6,q6,m6⟩:=pr (x:=x) (by omega)
 obtain⟨p7,q7,m7⟩:=pr (x:=w) (by omega)
 obtain⟨p8,q8,m8⟩:=pr (x:=z) (by omega)
 have hd:decB u=[dg (z / 10),dg (z % 10),dg (w / 10),dg (w % 10),dg (x / 10),dg (x % 10),dg (y / 10),dg (y % 10)]:=by
  rw[qcp (d:=7) h2 h1 (by omega)]
  simp only[qmy,Wc,Wg,WI,and_true,W4,Nat.reduceMul]
  exact⟨dgc (by omega),dgc (by omega),dgc (by omega),dgc (by omega),dgc (by omega),dgc (by omega),dgc (by omega),dgc (by omega)⟩
 rw[FB,hd]
 clear hd
 obtain⟨v0,v1,v2,v3,v4,v5,v6,v7,v8,v9,v10,v11⟩:=qgw
 refine qac (pf:=F295K tab2) rfl rfl ?_
 generalize tab2=tab at *
 simp[F295K,buf,vb,List.replicate,qaa,qab,qb1,F295l0Kx,V.len,qaf,Wa,v0,v1,v2,v3,v4,v5,v6,v7,v8,v9,v10,v11,n0,m1,m2,m3,m4,m5,m6,m7,m8]
theorem qBE{u:Nat}(h1:10 ^ 8<=u)(h2:u<10 ^ 9)(h3:u<2147483648):FB 9 u:=by
 have g1:=h1
 have g2:=h2
 simp only[Nat.reducePow] at g1 g2
 have n0:=qrQ (n:=u) (by omega)
 obtain⟨B,A,eB,eA,m1⟩:=dm u 100000000 (K:=100000000) rfl (by omega) (by omega)
 obtain⟨H,L,eH,eL,m2⟩:=dm A 10000 (K:=10000) rfl (by omega) (by omega)
 obtain⟨x,y,ex,ey,m3⟩:=dm L 100 (K:=100) rfl (by omega) (by omega)
 obtain⟨z,w,ez,ew,m4⟩:=dm H 100 (K:=100) rfl (by omega) (by omega)
 obtain⟨p5,q5,m5⟩:=pr (x:=y) (by omega)
 obtain⟨p6,q6,m6⟩:=pr (x:=x) (by omega)
 obtain⟨p7,q7,m7⟩:=pr (x:=w) (by omega)
 obtain⟨p8,q8,m8⟩:=pr (x:=z) (by omega)
 have n7:=wdg (n:=B) (by omega)
 have hd:decB u=[dg (B),dg (z / 10),dg (z % 10),dg (w / 10),dg (w % 10),dg (x / 10),dg (x % 10),dg (y / 10),dg (y % 10)]:=by
  rw[qcp (d:=8) h2 h1 (by omega)]
  simp only[qmy,Wc,Wg,WI,and_true,W4,Nat.reduceMul]
  exact⟨dgc (by omega),dgc (by omega),dgc (by omega),dgc (by omega),dgc (by omega),dgc (by omega),dgc (by omega),dgc (by omega),dgc (by omega)⟩
 rw[FB,hd]
 clear hd
 obtain⟨v0,v1,v2,v3,v4,v5,v6,v7,v8,v9,v10,v11⟩:=qgw
 refine qac (pf:=F295K tab2) rfl rfl ?_
 generalize tab2=tab at *
 simp[F295K,buf,vb,List.replicate,qaa,qab,qb1,F295l0Kx,V.len,qaf,Wa,v0,v1,v2,v3,v4,v5,v6,v7,v8,v9,v10,v11,n0,m1,m2,m3,m4,m5,m6,m7,m8,n7]
theorem qy8{u:Nat}(h1:10 ^ 9<=u)(h2:u<10 ^ 10)(h3:u<2147483648):FB 10 u:=by
 have g1:=h1
 have g2:=h2
 simp only[Nat.reducePow] at g1 g2
 have n0:=qrQ (n:=u) (by omega)
 obtain⟨B,A,eB,eA,m1⟩:=dm u 100000000 (K:=100000000) rfl (by omega) (by omega)
 obtain⟨H,L,eH,eL,m2⟩:=dm A 10000 (K:=10000) rfl (by omega) (by omega)
 obtain⟨x,y,ex,ey,m3⟩:=dm L 100 (K:=100) rfl (by omega) (by omega)
 obtain⟨z,w,ez,ew,m4⟩:=dm H 100 (K:=100) rfl (by omega) (by omega)
 obtain⟨p5,q5,m5⟩:=pr (x:=y) (by omega)
 obtain⟨p6,q6,m6⟩:=pr (x:=x) (by omega)
 obtain⟨p7,q7,m7⟩:=pr (x:=w) (by omega)
 obtain⟨p8,q8,m8⟩:=pr (x:=z) (by omega)
 obtain⟨G,t,eG,et,m9⟩:=dm B 100 (K:=100) rfl (by omega) (by omega)
 obtain⟨p10,q10,m10⟩:=pr (x:=t) (by omega)
 have hd:decB u=[dg (t / 10),dg (t % 10),dg (z / 10),dg (z % 10),dg (w / 10),dg (w % 10),dg (x / 10),dg (x % 10),dg (y / 10),dg (y % 10)]:=by
  rw[qcp (d:=9) h2 h1 (by omega)]
  simp only[qmy,Wc,Wg,WI,and_true,W4,Nat.reduceMul]
  exact⟨dgc (by omega),dgc (by omega),dgc (by omega),dgc (by omega),dgc (by omega),dgc (by omega),dgc (by omega),dgc (by omega),dgc (by omega),dgc (by omega)⟩
 rw[FB,hd]
 clear hd
 obtain⟨v0,v1,v2,v3,v4,v5,v6,v7,v8,v9,v10,v11⟩:=qgw
 refine qac (pf:=F295K tab2) rfl rfl ?_
 generalize tab2=tab at *
 simp[F295K,buf,vb,List.replicate,qaa,qab,qb1,F295l0Kx,V.len,qaf,Wa,v0,v1,v2,v3,v4,v5,v6,v7,v8,v9,v10,v11,n0,m1,m2,m3,m4,m5,m6,m7,m8,m9,m10]
theorem qCX{u n:Nat}(hn:3<=n)(hn10:n<=10)(h1:10 ^ (n-1)<=u)(h2:u<10 ^ n)(h3:u<2147483648)(zf:FB n u)(z:Z tQ (.call 294 [U64 u] [])=some (.ret (.int n) [])):Z tQ (.call 291 [.int u,.int 10] [])=some (.ret (.str (bs (decB u))) []):=by
 have ht:=qjN (decB u)
 have h100:100<=u:=Yd (show 10 ^ 2<=10 ^ (n-1) from YG (show 0<10 by omega) (show 2<=n-1 by omega)) h1
 have hl:(decB u).length=n:=by
  have:=qcp (d:=n-1) (u:=u) (by rw[show n-1+1=n by omega]; exact h2) h1 (by omega)
  rw[this,qnz]
  omega
 have c1 : ¬ (u:Int)<100:=by omega
 have c2 : ¬ (u:Int)<0:=by omega
 have c3:(0:Int)<=u:=by omega
 have c4:=qCB (show u<18446744073709551616 by omega)
 obtain⟨v0,v1,v2,v3,v4,v5,v6,v7,v8,v9,v10,v11⟩:=qgw
 obtain⟨W,hW⟩ : ∃ W,W=0::(decB u++List.replicate (23-(decB u).length) (0:UInt8)):=⟨_,rfl⟩
 rw[FB,buf,<- hW] at zf
 have hw:qc4 (((vb W).drop 1).take n)=some (decB u):=by
  rw[hW,vb,Wv,List.drop_one,List.tail_cons,List.map_append,Yt (by rw[W5]; exact hl)]
  exact ht
 rw[List.drop_one] at hw
 have hmin:min n 23=n:=by omega
 have hWl:(vb W).length=24:=by rw[vb,W5,hW,We,Wb,List.length_replicate,hl]; omega
 obtain⟨m,hm⟩ : ∃ m,m=n+1:=⟨_,rfl⟩
 have w1:IntKind.i64.wrap (1+(n:Int))=(m:Int):=by rw[qai _ (by omega)]; omega
 have b1:(m:Int)<=24:=by omega
 have b2:1<=m:=by omega
 have b3:(1:Int)<=m:=by omega
 have b4:m-1=n:=by omega
 have b5:1+n<=24:=by omega
 have b6:m<=24:=by omega
 clear ht hl h1 h2 hW hm
 generalize decB u=q at *
 simp only[List.replicate] at zf
 refine qac (pf:=F291) rfl rfl ?_
 simp[F291,qfW,qiQ,z,zf,hw,hWl,hmin,bs,c1,c2,c3,c4,w1,b1,b2,b3,b4,b5,b6,bound,List.replicate,Wa,v0,v1,v2,v3,v4,v5,v6,v7,v8,v9,v10,v11]
def tabA:ByteArray:=⟨#[48,49,50,51,52,53,54,55,56,57,97,98,99,100,101,102,103,104,105,106,107,108,109,110,111,112,113,114,115,116,117,118,119,120,121,122]⟩
theorem qvV{u:Nat}(h:u<100):Z tQ (.call 293 [.int u] [])=some (.ret (.str (bs (decB u))) []):=by
 have hA : ∀ u,u<10->tabA.extract u (u+1)=bs (decB u):=by decide +kernel
 have hB : ∀ u,u<100 -> ¬ u<10->tab2.extract (u*2) (u*2+2)=bs (decB u):=by decide +kernel
 refine qac (pf:=F293) rfl rfl ?_
 have sA:tabA.size=36:=rfl
 have sB:tab2.size=200:=rfl
 by_cases h10:u<10
 ·have c1:(u:Int)<10:=by omega
  have e:=hA u h10
  have w1:IntKind.i64.wrap ((u:Int)+1)=((u+1:Nat):Int):=by rw[qai _ (by omega)]; omega
  obtain⟨u1,hu1⟩ : ∃ p:Nat,p=u+1:=⟨_,rfl⟩
  rw[<- hu1] at w1 e
  have b1:(u1:Int)<=tabA.size:=by rw[sA]; omega
  have b2:(u:Int)<=u1:=by omega
  simp only[tabA] at e b1
  generalize bs (decB u)=r at *
  simp[F293,c1,w1,qa4,bound,b1,b2,e]
 ·have c1 : ¬ (u:Int)<10:=by omega
  have e:=hB u h h10
  have w1:IntKind.i64.wrap ((u:Int)*2)=((u*2:Nat):Int):=by rw[qai _ (by omega)]; omega
  obtain⟨u2,hu2⟩ : ∃ p:Nat,p=u*2:=⟨_,rfl⟩
  rw[<- hu2] at w1 e
  have w2:IntKind.i64.wrap ((u2:Int)+2)=((u2+2:Nat):Int):=by rw[qai _ (by omega)]; omega
  obtain⟨u3,hu3⟩ : ∃ p:Nat,p=u2+2:=⟨_,rfl⟩
  rw[<- hu3] at w2 e
  have b1:(u3:Int)<=tab2.size:=by rw[sB]; omega
  have b2:(u2:Int)<=u3:=by omega
  simp only[tab2] at e b1
  generalize bs (decB u)=r at *
  simp[F293,c1,w1,w2,qa4,bound,b1,b2,e]
theorem qsL{u:Nat}(h:u<2147483648):Z tQ (.call 291 [.int u,.int 10] [])=some (.ret (.str (bs (decB u))) []):=by
 by_cases h1:u<100
 ·have z:=qvV h1
  have c1:(u:Int)<100:=by omega
  generalize bs (decB u)=r at *
  refine qac (pf:=F291) rfl rfl ?_
  simp[F291,z,c1]
 ·obtain⟨d,d1,d2,d3,d4,z⟩:=qsp (by omega) h
  have hd:d=3\/d=4\/d=5\/d=6\/d=7\/d=8\/d=9\/d=10:=by omega
  refine qCX d1 d2 d3 d4 h ?_ z
  rcases hd with rfl|rfl|rfl|rfl|rfl|rfl|rfl|rfl
  ·exact qBy d3 d4 h
  ·exact qBz d3 d4 h
  ·exact qBA d3 d4 h
  ·exact qBB d3 d4 h
  ·exact qBC d3 d4 h
  ·exact qBD d3 d4 h
  ·exact qBE d3 d4 h
  ·exact qy8 d3 d4 h
theorem qy9{n:Int}(h0:0<=n)(h:n<=2147483647):Z tQ (.call 283 [.int n] [])=some (.ret (.str (bs (decB n.toNat))) []):=by
 have z:=qsL (u:=n.toNat) (by omega)
 rw[show ((n.toNat:Nat):Int)=n by omega] at z
 have z2:Z tQ (.call 288 [.int n] [])=some (.ret (.str (bs (decB n.toNat))) []):=by
  refine qac (pf:=F288) rfl rfl ?_
  simp[F288,z]
 refine qac (pf:=F283) rfl rfl ?_
 simp[F283,z2]
end
section
open F
theorem qc8(e:E):Z tQ (.call 282 [e.node] [])=some (.ret (.int e.lev) []):=by
 refine qac (pf:=F282) rfl rfl ?_
 cases e with
 |un f neg e=>cases neg<;>simp[F282,E.lev,qdK,ustr,qaT]
 |bin f o a b=>cases o<;>simp[F282,E.lev,Bop.prec,Bop.str,qaT]
 |_=>simp[F282,E.lev]
theorem qwm {k n:Int} {s:ByteArray} {cs:List D} {m i:Nat} {f:Bool} {ds:List D} (hi:i<m) (hm:m<2 ^ 30) (hc:cutCells cs (i*4) 4=some ds) (ho:ds.length=4) (h1 : ∀ d∈ds,V.one (.dat d)=true) :
  Z tQ (.call 274 [.dat (.agg [.lit (.int .i64 k),.lit (.int .i64 n),.lit (.string s),.sl cs m f]),.int i] [])=some (.ret (.dat (.agg ds)) []):=by
 obtain⟨a,b,c,d,rfl⟩ : ∃ a b c d,ds=[a,b,c,d]:=by
  match ds,ho with
  |[a,b,c,d],_=>exact⟨a,b,c,d,rfl⟩
 have ha:=h1 a (by simp)
 have hb:=h1 b (by simp)
 have hcc:=h1 c (by simp)
 have hd:=h1 d (by simp)
 have hlt:(i:Int)<m:=by omega
 refine qac (pf:=F274) rfl rfl ?_
 simp[F274,hc,ha,hb,hcc,hd,hlt,hi,qaf,V.len,Wa]
theorem qee {k n:Int} {s:ByteArray} {a b:Int} {t:ByteArray} {u:D} {r:List D} {m:Nat} {f:Bool} (hm:0<m) (hm2:m<2 ^ 30) (hu:V.one (.dat u)=true) :
  Z tQ (.call 274 [.dat (.agg [.lit (.int .i64 k),.lit (.int .i64 n),.lit (.string s),.sl (.lit (.int .i64 a) :: .lit (.int .i64 b) :: .lit (.string t)::u::r) m f]),.int 0] [])=some (.ret (.dat (.agg [.lit (.int .i64 a),.lit (.int .i64 b),.lit (.string t),u])) []):=
 qwm (i:=0) hm hm2 (by simp) rfl (by simp[hu,Value.oneCell'])
theorem qgF {k n:Int} {s:ByteArray} {a b:Int} {t:ByteArray} {u x0 x1 x2 x3:D} {r:List D} {m:Nat} {f:Bool} (hm:1<m) (hm2:m<2 ^ 30) (hu:V.one (.dat u)=true) :
  Z tQ (.call 274 [.dat (.agg [.lit (.int .i64 k),.lit (.int .i64 n),.lit (.string s),.sl (x0::x1::x2::x3 :: .lit (.int .i64 a) :: .lit (.int .i64 b) :: .lit (.string t)::u::r) m f]),.int 1] [])=some (.ret (.dat (.agg [.lit (.int .i64 a),.lit (.int .i64 b),.lit (.string t),u])) []):=
 qwm (i:=1) hm hm2 (by simp) rfl (by simp[hu,Value.oneCell'])
theorem quq {k n:Int} {s:ByteArray} {a b:Int} {t:ByteArray} {u x0 x1 x2 x3 y0 y1 y2 y3:D} {r:List D} {m:Nat} {f:Bool} (hm:2<m) (hm2:m<2 ^ 30) (hu:V.one (.dat u)=true) :
  Z tQ (.call 274 [.dat (.agg [.lit (.int .i64 k),.lit (.int .i64 n),.lit (.string s),.sl (x0::x1::x2::x3::y0::y1::y2::y3 :: .lit (.int .i64 a) :: .lit (.int .i64 b) :: .lit (.string t)::u::r) m f]),.int 2] [])=some (.ret (.dat (.agg [.lit (.int .i64 a),.lit (.int .i64 b),.lit (.string t),u])) []):=
 qwm (i:=2) hm hm2 (by simp) rfl (by simp[hu,Value.oneCell'])
theorem qbL{t:ByteArray}{w w':List UInt8}(hw:w'=pw w [t])(ht:t.size≠0)(h:w'.length<2 ^ 40):Z tQ (.call 243 [.ptr 0 0,.dat (.sl [.lit (.string t)] 1 true)] (PW w))=some (.ret (.tup []) (PW w')):=by
 subst hw
 exact qzk true (ts:=[t]) (fun x hx=>by rw[Wm.1 hx]; exact ht) (by simp) h
theorem qfJ{t u:ByteArray}{w w':List UInt8}(hw:w'=pw w [t,u])(ht:t.size≠0)(hu:u.size≠0)(h:w'.length<2 ^ 40):Z tQ (.call 243 [.ptr 0 0,.dat (.sl [.lit (.string t),.lit (.string u)] 2 true)] (PW w))=some (.ret (.tup []) (PW w')):=by
 subst hw
 exact qzk true (ts:=[t,u]) (fun x hx=>by
  rcases Wo.1 hx with e|hx
  ·rw[e]; exact ht
  ·rw[Wm.1 hx]; exact hu) (by simp) h
theorem qmN{t:ByteArray}{w w':List UInt8}(hw:w'=pw w [t])(ht:t.size≠0)(h:w'.length<2 ^ 40):Z tQ (.dcall 243 [.dat (.lit .nilIface),.ptr 0 0,.dat (.sl [.lit (.string t)] 1 true)] (PW w))=some (.ret (.dat (.lit undef)) (PW w')):=by
 subst hw
 exact qzl true (ts:=[t]) (fun x hx=>by rw[Wm.1 hx]; exact ht) (by simp) h
end
section
open F
attribute [local simp] qfW qiQ dkey
theorem qam{w w':List UInt8}{ts:List ByteArray}{k:Nat}(hw:w'=pw w ts)(h:w'.length<k):w.length<k:=Wu (by rw[hw]; exact qjP w ts) h
def qfB(e:E)(p:Nat)(i:Int):Prop := ∀ w w',w'=pw w (e.tx false p)->w'.length<2 ^ 40->Z tQ (.call 273 [.ptr 0 0,e.node,.int i] (PW w))=some (.ret (.tup []) (PW w'))
theorem qh9(o:Bop):o.str.size≠0:=by cases o<;>decide
theorem qlw(b:Bool):(ustr b).size≠0:=by cases b<;>decide
theorem qqf{n:Int}(h0:0<=n)(h1:n<=2147483647):(bs (decB n.toNat)).size≠0:=by
 obtain⟨_,_,c,r,h⟩:=qgD (n:=n.toNat) (by omega)
 rw[qaw,h]
 simp
theorem qyW{n:Int}(h0:0<=n)(h1:n<=2147483647){p:Nat}{i:Int}(hi:i=p)(hp:p<=8):qfB (E.int n) p i:=by
 intro w w' hw hsz
 have zl:Z tQ (.call 282 [.dat (.agg [.lit (.int .i64 8),.lit (.int .i64 n),.lit (.string ⟨#[]⟩),.lit (.slice none 0 0)])] [])=some (.ret (.int 8) []):=qc8 (.int n)
 have hc : ¬ (8:Int)<i:=by omega
 have htx:(E.int n).tx false p=[bs (decB n.toNat)]:=by
  have hq : ¬ 8<p:=by omega
  simp[E.tx,qbR,qdK,ustr,bs,qdP,qgE,Bop.left,hq]
 have e1:w'=pw w [bs (decB n.toNat)]:=by rw[hw,htx]
 have s1:=hsz
 have z1:=qbL e1 (qqf h0 h1) s1
 have f0:=qy9 h0 h1
 simp only[PW,PW'] at z1 ⊢
 clear e1 s1 hw htx hsz
 refine qac (pf:=F273) rfl rfl ?_
 simp[F273,zl,hc,f0,z1,Wa]
theorem qsr{p:Nat}{i:Int}(hi:i=p)(hp:p<=8):qfB (E.bool 0) p i:=by
 intro w w' hw hsz
 have zl:Z tQ (.call 282 [.dat (.agg [.lit (.int .i64 9),.lit (.int .i64 0),.lit (.string ⟨#[]⟩),.lit (.slice none 0 0)])] [])=some (.ret (.int 8) []):=qc8 (.bool 0)
 have hc : ¬ (8:Int)<i:=by omega
 have htx:(E.bool 0).tx false p=[⟨#[102,97,108,115,101]⟩]:=by
  have hq : ¬ 8<p:=by omega
  simp[E.tx,qbR,qdK,ustr,bs,qdP,qgE,Bop.left,hq]
 have e1:w'=pw w [⟨#[102,97,108,115,101]⟩]:=by rw[hw,htx]
 have s1:=hsz
 have z1:=qbL e1 (by decide) s1
 simp only[PW,PW'] at z1 ⊢
 clear e1 s1 hw htx hsz
 refine qac (pf:=F273) rfl rfl ?_
 simp[F273,zl,hc,z1,Wa]
theorem qss{p:Nat}{i:Int}(hi:i=p)(hp:p<=8):qfB (E.bool 1) p i:=by
 intro w w' hw hsz
 have zl:Z tQ (.call 282 [.dat (.agg [.lit (.int .i64 9),.lit (.int .i64 1),.lit (.string ⟨#[]⟩),.lit (.slice none 0 0)])] [])=some (.ret (.int 8) []):=qc8 (.bool 1)
 have hc : ¬ (8:Int)<i:=by omega
 have htx:(E.bool 1).tx false p=[⟨#[116,114,117,101]⟩]:=by
  have hq : ¬ 8<p:=by omega
  simp[E.tx,qbR,qdK,ustr,bs,qdP,qgE,Bop.left,hq]
 have e1:w'=pw w [⟨#[116,114,117,101]⟩]:=by rw[hw,htx]
 have s1:=hsz
 have z1:=qbL e1 (by decide) s1
 simp only[PW,PW'] at z1 ⊢
 clear e1 s1 hw htx hsz
 refine qac (pf:=F273) rfl rfl ?_
 simp[F273,zl,hc,z1,Wa]
theorem qyX{s:ByteArray}(hs:s.size≠0){p:Nat}{i:Int}(hi:i=p)(hp:p<=8):qfB (E.var s) p i:=by
 intro w w' hw hsz
 have zl:Z tQ (.call 282 [.dat (.agg [.lit (.int .i64 10),.lit (.int .i64 0),.lit (.string s),.lit (.slice none 0 0)])] [])=some (.ret (.int 8) []):=qc8 (.var s)
 have hc : ¬ (8:Int)<i:=by omega
 have htx:(E.var s).tx false p=[s]:=by
  have hq : ¬ 8<p:=by omega
  simp[E.tx,qbR,qdK,ustr,bs,qdP,qgE,Bop.left,hq]
 have e1:w'=pw w [s]:=by rw[hw,htx]
 have s1:=hsz
 have z1:=qbL e1 (hs) s1
 simp only[PW,PW'] at z1 ⊢
 clear e1 s1 hw htx hsz
 refine qac (pf:=F273) rfl rfl ?_
 simp[F273,zl,hc,z1,Wa]
theorem qvI{s:ByteArray}(hs:s.size≠0){p:Nat}{i:Int}(hi:i=p)(hp:p<=8):qfB (E.name s) p i:=by
 intro w w' hw hsz
 have zl:Z tQ (.call 282 [.dat (.agg [.lit (.int .i64 12),.lit (.int .i64 0),.lit (.string s),.lit (.slice none 0 0)])] [])=some (.ret (.int 8) []):=qc8 (.name s)
 have hc : ¬ (8:Int)<i:=by omega
 have htx:(E.name s).tx false p=[s]:=by
  have hq : ¬ 8<p:=by omega
  simp[E.tx,qbR,qdK,ustr,bs,qdP,qgE,Bop.left,hq]
 have e1:w'=pw w [s]:=by rw[hw,htx]
 have s1:=hsz
 have z1:=qbL e1 (hs) s1
 simp only[PW,PW'] at z1 ⊢
 clear e1 s1 hw htx hsz
 refine qac (pf:=F273) rfl rfl ?_
 simp[F273,zl,hc,z1,Wa]
theorem qst{f:Bool}{s:ByteArray}{e:E}(hs:s.size≠0)(he:qfB e 1 1){p:Nat}{i:Int}(hi:i=p)(hp:p<=8):qfB (E.field f s e) p i:=by
 intro w w' hw hsz
 have zl:Z tQ (.call 282 [.dat (.agg [.lit (.int .i64 11),.lit (.int .i64 0),.lit (.string s),.sl [.lit (.int .i64 e.kind),.lit (.int .i64 e.num),.lit (.string e.str),e.kids] 1 f])] [])=some (.ret (.int 8) []):=qc8 (.field f s e)
 have hc : ¬ (8:Int)<i:=by omega
 have htx:(E.field f s e).tx false p=[s,⟨#[91]⟩]++((e.tx false 1)++([⟨#[93]⟩])):=by
  have hq : ¬ 8<p:=by omega
  simp[E.tx,qbR,qdK,ustr,bs,qdP,qgE,Bop.left,hq]
 obtain⟨w1,e1⟩ : ∃ x,x=pw w [s,⟨#[91]⟩]:=⟨_,rfl⟩
 obtain⟨w2,e2⟩ : ∃ x,x=pw w1 (e.tx false 1):=⟨_,rfl⟩
 have e3:w'=pw w2 [⟨#[93]⟩]:=by rw[hw,htx,qav,<- e1,qav,<- e2]
 have s3:=hsz
 have s2:=qam e3 s3
 have s1:=qam e2 s2
 have z1:=qfJ e1 (hs) (by decide) s1
 have z2:=he w1 w2 e2 s2
 have z3:=qbL e3 (by decide) s3
 have f0:=qee (k:=11) (n:=0) (s:=s) (a:=e.kind) (b:=e.num) (t:=e.str) (u:=e.kids) (r:=[]) (m:=1) (f:=f) (by omega) (by omega) (qbg e)
 simp only[PW,PW'] at z1 z2 z3 ⊢
 clear e1 e2 e3 s1 s2 s3 hw htx hsz
 refine qac (pf:=F273) rfl rfl ?_
 simp[F273,zl,hc,f0,z1,z2,z3,Wa]
theorem qBv{f neg:Bool}{e:E}{L:Nat}(hL:L=qdK neg)(he:qfB e L L){p:Nat}{i:Int}(hi:i=p)(hp:p<=L):qfB (E.un f neg e) p i:=by
 intro w w' hw hsz
 have zl:Z tQ (.call 282 [.dat (.agg [.lit (.int .i64 13),.lit (.int .i64 0),.lit (.string (ustr neg)),.sl [.lit (.int .i64 e.kind),.lit (.int .i64 e.num),.lit (.string e.str),e.kids] 1 f])] [])=some (.ret (.int L) []):=by
  have:=qc8 (.un f neg e)
  rw[show E.lev (.un f neg e)=L from hL.symm] at this
  exact this
 have hc : ¬ (L:Int)<i:=by omega
 have htx:(E.un f neg e).tx false p=[ustr neg]++((e.tx false L)):=by
  have hq : ¬ L<p:=by omega
  simp[E.tx,qbR,bs,hL.symm,hq]
 obtain⟨w1,e1⟩ : ∃ x,x=pw w [ustr neg]:=⟨_,rfl⟩
 have e2:w'=pw w1 (e.tx false L):=by rw[hw,htx,qav,<- e1]
 have s2:=hsz
 have s1:=qam e2 s2
 have z1:=qbL e1 (qlw neg) s1
 have z2:=he w1 w' e2 s2
 have f0:=qee (k:=13) (n:=0) (s:=ustr neg) (a:=e.kind) (b:=e.num) (t:=e.str) (u:=e.kids) (r:=[]) (m:=1) (f:=f) (by omega) (by omega) (qbg e)
 simp only[PW,PW'] at z1 z2 ⊢
 clear e1 e2 s1 s2 hw htx hsz
 refine qac (pf:=F273) rfl rfl ?_
 simp[F273,zl,hc,f0,z1,z2,Wa]
theorem qyY{f neg:Bool}{e:E}{L:Nat}(hL:L=qdK neg)(he:qfB e L L){p:Nat}{i:Int}(hi:i=p)(hp:L<p):qfB (E.un f neg e) p i:=by
 intro w w' hw hsz
 have zl:Z tQ (.call 282 [.dat (.agg [.lit (.int .i64 13),.lit (.int .i64 0),.lit (.string (ustr neg)),.sl [.lit (.int .i64 e.kind),.lit (.int .i64 e.num),.lit (.string e.str),e.kids] 1 f])] [])=some (.ret (.int L) []):=by
  have:=qc8 (.un f neg e)
  rw[show E.lev (.un f neg e)=L from hL.symm] at this
  exact this
 have hc:(L:Int)<i:=by omega
 have htx:(E.un f neg e).tx false p=[⟨#[40]⟩]++([ustr neg]++((e.tx false L)++([⟨#[41]⟩]))):=by
  have hq:L<p:=hp
  simp[E.tx,qbR,bs,hL.symm,hq]
 obtain⟨w1,e1⟩ : ∃ x,x=pw w [⟨#[40]⟩]:=⟨_,rfl⟩
 obtain⟨w2,e2⟩ : ∃ x,x=pw w1 [ustr neg]:=⟨_,rfl⟩
 obtain⟨w3,e3⟩ : ∃ x,x=pw w2 (e.tx false L):=⟨_,rfl⟩
 have e4:w'=pw w3 [⟨#[41]⟩]:=by rw[hw,htx,qav,<- e1,qav,<- e2,qav,<- e3]
 have s4:=hsz
 have s3:=qam e4 s4
 have s2:=qam e3 s3
 have s1:=qam e2 s2
 have z1:=qbL e1 (by decide) s1
 have z2:=qbL e2 (qlw neg) s2
 have z3:=he w2 w3 e3 s3
 have z4:=qmN e4 (by decide) s4
 have f0:=qee (k:=13) (n:=0) (s:=ustr neg) (a:=e.kind) (b:=e.num) (t:=e.str) (u:=e.kids) (r:=[]) (m:=1) (f:=f) (by omega) (by omega) (qbg e)
 simp only[PW,PW'] at z1 z2 z3 z4 ⊢
 clear e1 e2 e3 e4 s1 s2 s3 s4 hw htx hsz
 refine qac (pf:=F273) rfl rfl ?_
 simp[F273,zl,hc,f0,z1,z2,z3,z4,Wa]
theorem qyZ{f:Bool}{o:Bop}{a b:E}{L:Nat}(hl:o.prec=L)(h4:L≠4)(ha:qfB a L L)(hb:qfB b (L+1) ((L:Int)+1)){p:Nat}{i:Int}(hi:i=p)(hp:p<=L):qfB (E.bin f o a b) p i:=by
 intro w w' hw hsz
 have zl:Z tQ (.call 282 [.dat (.agg [.lit (.int .i64 14),.lit (.int .i64 0),.lit (.string o.str),.sl [.lit (.int .i64 a.kind),.lit (.int .i64 a.num),.lit (.string a.str),a.kids,.lit (.int .i64 b.kind),.lit (.int .i64 b.num),.lit (.string b.str),b.kids] 2 f])] [])=some (.ret (.int L) []):=by
  have:=qc8 (.bin f o a b)
  rw[show E.lev (.bin f o a b)=L from hl] at this
  exact this
 have hc : ¬ (L:Int)<i:=by omega
 have hlf:o.left=L:=by have:=qaV o; omega
 have h4' : ¬ (L:Int)=4:=by omega
 have wL:=qai ((L:Int)+1) (by have:=qaV o; omega)
 have htx:(E.bin f o a b).tx false p=(a.tx false L)++([o.str]++((b.tx false (L+1)))):=by
  have hq : ¬ L<p:=by omega
  simp[E.tx,qbR,bs,hl,hlf,hq]
 obtain⟨w1,e1⟩ : ∃ x,x=pw w (a.tx false L):=⟨_,rfl⟩
 obtain⟨w2,e2⟩ : ∃ x,x=pw w1 [o.str]:=⟨_,rfl⟩
 have e3:w'=pw w2 (b.tx false (L+1)):=by rw[hw,htx,qav,<- e1,qav,<- e2]
 have s3:=hsz
 have s2:=qam e3 s3
 have s1:=qam e2 s2
 have z1:=ha w w1 e1 s1
 have z2:=qbL e2 (qh9 o) s2
 have z3:=hb w2 w' e3 s3
 have f0:=qee (k:=14) (n:=0) (s:=o.str) (a:=a.kind) (b:=a.num) (t:=a.str) (u:=a.kids) (r:=[.lit (.int .i64 b.kind),.lit (.int .i64 b.num),.lit (.string b.str),b.kids]) (m:=2) (f:=f) (by omega) (by omega) (qbg a)
 have f1:=qgF (k:=14) (n:=0) (s:=o.str) (x0 := .lit (.int .i64 a.kind)) (x1 := .lit (.int .i64 a.num)) (x2 := .lit (.string a.str)) (x3:=a.kids) (a:=b.kind) (b:=b.num) (t:=b.str) (u:=b.kids) (r:=[]) (m:=2) (f:=f) (by omega) (by omega) (qbg b)
 simp only[PW,PW'] at z1 z2 z3 ⊢
 clear e1 e2 e3 s1 s2 s3 hw htx hsz
 refine qac (pf:=F273) rfl rfl ?_
 simp[F273,zl,hc,f0,f1,z1,z2,z3,Wa,h4',wL]
theorem qvJ{f:Bool}{o:Bop}{a b:E}{L:Nat}(hl:o.prec=L)(h4:L≠4)(ha:qfB a L L)(hb:qfB b (L+1) ((L:Int)+1)){p:Nat}{i:Int}(hi:i=p)(hp:L<p):qfB (E.bin f o a b) p i:=by
 intro w w' hw hsz
 have zl:Z tQ (.call 282 [.dat (.agg [.lit (.int .i64 14),.lit (.int .i64 0),.lit (.string o.str),.sl [.lit (.int .i64 a.kind),.lit (.int .i64 a.num),.lit (.string a.str),a.kids,.lit (.int .i64 b.kind),.lit (.int .i64 b.num),.lit (.string b.str),b.kids] 2 f])] [])=some (.ret (.int L) []):=by
  have:=qc8 (.bin f o a b)
  rw[show E.lev (.bin f o a b)=L from hl] at this
  exact this
 have hc:(L:Int)<i:=by omega
 have hlf:o.left=L:=by have:=qaV o; omega
 have h4' : ¬ (L:Int)=4:=by omega
 have wL:=qai ((L:Int)+1) (by have:=qaV o; omega)
 have htx:(E.bin f o a b).tx false p=[⟨#[40]⟩]++((a.tx false L)++([o.str]++((b.tx false (L+1))++([⟨#[41]⟩])))):=by
  have hq:L<p:=hp
  simp[E.tx,qbR,bs,hl,hlf,hq]
 obtain⟨w1,e1⟩ : ∃ x,x=pw w [⟨#[40]⟩]:=⟨_,rfl⟩
 obtain⟨w2,e2⟩ : ∃ x,x=pw w1 (a.tx false L):=⟨_,rfl⟩
 obtain⟨w3,e3⟩ : ∃ x,x=pw w2 [o.str]:=⟨_,rfl⟩
 obtain⟨w4,e4⟩ : ∃ x,x=pw w3 (b.tx false (L+1)):=⟨_,rfl⟩
 have e5:w'=pw w4 [⟨#[41]⟩]:=by rw[hw,htx,qav,<- e1,qav,<- e2,qav,<- e3,qav,<- e4]
 have s5:=hsz
 have s4:=qam e5 s5
 have s3:=qam e4 s4
 have s2:=qam e3 s3
 have s1:=qam e2 s2
 have z1:=qbL e1 (by decide) s1
 have z2:=ha w1 w2 e2 s2
 have z3:=qbL e3 (qh9 o) s3
 have z4:=hb w3 w4 e4 s4
 have z5:=qmN e5 (by decide) s5
 have f0:=qee (k:=14) (n:=0) (s:=o.str) (a:=a.kind) (b:=a.num) (t:=a.str) (u:=a.kids) (r:=[.lit (.int .i64 b.kind),.lit (.int .i64 b.num),.lit (.string b.str),b.kids]) (m:=2) (f:=f) (by omega) (by omega) (qbg a)
 have f1:=qgF (k:=14) (n:=0) (s:=o.str) (x0 := .lit (.int .i64 a.kind)) (x1 := .lit (.int .i64 a.num)) (x2 := .lit (.string a.str)) (x3:=a.kids) (a:=b.kind) (b:=b.num) (t:=b.str) (u:=b.kids) (r:=[]) (m:=2) (f:=f) (by omega) (by omega) (qbg b)
 simp only[PW,PW'] at z1 z2 z3 z4 z5 ⊢
 clear e1 e2 e3 e4 e5 s1 s2 s3 s4 s5 hw htx hsz
 refine qac (pf:=F273) rfl rfl ?_
 simp[F273,zl,hc,f0,f1,z1,z2,z3,z4,z5,Wa,h4',wL]
theorem qvK{f:Bool}{o:Bop}{a b:E}(hl:o.prec=4)(ha:qfB a 5 5)(hb:qfB b 5 5){p:Nat}{i:Int}(hi:i=p)(hp:p<=4):qfB (E.bin f o a b) p i:=by
 intro w w' hw hsz
 have zl:Z tQ (.call 282 [.dat (.agg [.lit (.int .i64 14),.lit (.int .i64 0),.lit (.string o.str),.sl [.lit (.int .i64 a.kind),.lit (.int .i64 a.num),.lit (.string a.str),a.kids,.lit (.int .i64 b.kind),.lit (.int .i64 b.num),.lit (.string b.str),b.kids] 2 f])] [])=some (.ret (.int 4) []):=by
  have:=qc8 (.bin f o a b)
  rw[show E.lev (.bin f o a b)=4 from hl] at this
  exact this
 have hc : ¬ (4:Int)<i:=by omega
 have hlf:o.left=5:=by have:=qaV o; omega
 have htx:(E.bin f o a b).tx false p=(a.tx false 5)++([o.str]++((b.tx false 5))):=by
  have hq : ¬ 4<p:=by omega
  simp[E.tx,qbR,bs,hl,hlf,hq]
 obtain⟨w1,e1⟩ : ∃ x,x=pw w (a.tx false 5):=⟨_,rfl⟩
 obtain⟨w2,e2⟩ : ∃ x,x=pw w1 [o.str]:=⟨_,rfl⟩
 have e3:w'=pw w2 (b.tx false 5):=by rw[hw,htx,qav,<- e1,qav,<- e2]
 have s3:=hsz
 have s2:=qam e3 s3
 have s1:=qam e2 s2
 have z1:=ha w w1 e1 s1
 have z2:=qbL e2 (qh9 o) s2
 have z3:=hb w2 w' e3 s3
 have f0:=qee (k:=14) (n:=0) (s:=o.str) (a:=a.kind) (b:=a.num) (t:=a.str) (u:=a.kids) (r:=[.lit (.int .i64 b.kind),.lit (.int .i64 b.num),.lit (.string b.str),b.kids]) (m:=2) (f:=f) (by omega) (by omega) (qbg a)
 have f1:=qgF (k:=14) (n:=0) (s:=o.str) (x0 := .lit (.int .i64 a.kind)) (x1 := .lit (.int .i64 a.num)) (x2 := .lit (.string a.str)) (x3:=a.kids) (a:=b.kind) (b:=b.num) (t:=b.str) (u:=b.kids) (r:=[]) (m:=2) (f:=f) (by omega) (by omega) (qbg b)
 simp only[PW,PW'] at z1 z2 z3 ⊢
 clear e1 e2 e3 s1 s2 s3 hw htx hsz
 refine qac (pf:=F273) rfl rfl ?_
 simp[F273,zl,hc,f0,f1,z1,z2,z3,Wa,qai 5 (by omega)]
theorem qsu{f:Bool}{o:Bop}{a b:E}(hl:o.prec=4)(ha:qfB a 5 5)(hb:qfB b 5 5){p:Nat}{i:Int}(hi:i=p)(hp:4<p):qfB (E.bin f o a b) p i:=by
 intro w w' hw hsz
 have zl:Z tQ (.call 282 [.dat (.agg [.lit (.int .i64 14),.lit (.int .i64 0),.lit (.string o.str),.sl [.lit (.int .i64 a.kind),.lit (.int .i64 a.num),.lit (.string a.str),a.kids,.lit (.int .i64 b.kind),.lit (.int .i64 b.num),.lit (.string b.str),b.kids] 2 f])] [])=some (.ret (.int 4) []):=by
  have:=qc8 (.bin f o a b)
  rw[show E.lev (.bin f o a b)=4 from hl] at this
  exact this
 have hc:(4:Int)<i:=by omega
 have hlf:o.left=5:=by have:=qaV o; omega
 have htx:(E.bin f o a b).tx false p=[⟨#[40]⟩]++((a.tx false 5)++([o.str]++((b.tx false 5)++([⟨#[41]⟩])))):=by
  have hq:4<p:=hp
  simp[E.tx,qbR,bs,hl,hlf,hq]
 obtain⟨w1,e1⟩ : ∃ x,x=pw w [⟨#[40]⟩]:=⟨_,rfl⟩
 obtain⟨w2,e2⟩ : ∃ x,x=pw w1 (a.tx false 5):=⟨_,rfl⟩
 obtain⟨w3,e3⟩ : ∃ x,x=pw w2 [o.str]:=⟨_,rfl⟩
 obtain⟨w4,e4⟩ : ∃ x,x=pw w3 (b.tx false 5):=⟨_,rfl⟩
 have e5:w'=pw w4 [⟨#[41]⟩]:=by rw[hw,htx,qav,<- e1,qav,<- e2,qav,<- e3,qav,<- e4]
 have s5:=hsz
 have s4:=qam e5 s5
 have s3:=qam e4 s4
 have s2:=qam e3 s3
 have s1:=qam e2 s2
 have z1:=qbL e1 (by decide) s1
 have z2:=ha w1 w2 e2 s2
 have z3:=qbL e3 (qh9 o) s3
 have z4:=hb w3 w4 e4 s4
 have z5:=qmN e5 (by decide) s5
 have f0:=qee (k:=14) (n:=0) (s:=o.str) (a:=a.kind) (b:=a.num) (t:=a.str) (u:=a.kids) (r:=[.lit (.int .i64 b.kind),.lit (.int .i64 b.num),.lit (.string b.str),b.kids]) (m:=2) (f:=f) (by omega) (by omega) (qbg a)
 have f1:=qgF (k:=14) (n:=0) (s:=o.str) (x0 := .lit (.int .i64 a.kind)) (x1 := .lit (.int .i64 a.num)) (x2 := .lit (.string a.str)) (x3:=a.kids) (a:=b.kind) (b:=b.num) (t:=b.str) (u:=b.kids) (r:=[]) (m:=2) (f:=f) (by omega) (by omega) (qbg b)
 simp only[PW,PW'] at z1 z2 z3 z4 z5 ⊢
 clear e1 e2 e3 e4 e5 s1 s2 s3 s4 s5 hw htx hsz
 refine qac (pf:=F273) rfl rfl ?_
 simp[F273,zl,hc,f0,f1,z1,z2,z3,z4,z5,Wa,qai 5 (by omega)]
theorem qjG{s:ByteArray}(h:s∈fieldNames):s.size≠0:=by
 simp only[fieldNames,Wo,Wx,or_false] at h
 rcases h with h|h|h|h|h|h|h|h<;>rw[h]<;>decide
theorem qlx : ∀ e:E,e.good -> ∀ p i,i=((p:Nat):Int)->p<=8->qfB e p i
 |.int n,h,p,i,hi,hp=>qyW h.1 h.2 hi hp
 |.bool n,h,p,i,hi,hp=>by
  rcases h with rfl|rfl
  ·exact qsr hi hp
  ·exact qss hi hp
 |.var s,h,p,i,hi,hp=>qyX (qfx h.1) hi hp
 |.name s,h,p,i,hi,hp=>qvI (by rcases h with rfl|rfl|rfl<;>decide) hi hp
 |.field f s e,h,p,i,hi,hp=>qst (qjG h.1) (qlx e h.2 1 1 rfl (by omega)) hi hp
 |.un f neg e,h,p,i,hi,hp=>by
  have A:=qlx e h (qdK neg) (qdK neg) rfl (by cases neg<;>decide)
  by_cases hq:qdK neg<p
  ·exact qyY rfl A hi hq
  ·exact qBv rfl A hi (by omega)
 |.bin f o a b,h,p,i,hi,hp=>by
  have hr:=qaV o
  have A:=qlx a h.1 o.left o.left rfl (by omega)
  have B:=qlx b h.2 (o.prec+1) ((o.prec:Int)+1) (by omega) (by omega)
  by_cases h4:o.prec=4
  ·rw[show o.left=5 by omega] at A
   rw[h4] at B
   by_cases hq:4<p
   ·exact qsu h4 A B hi hq
   ·exact qvK h4 A B hi (by omega)
  ·rw[show o.left=o.prec by omega] at A
   by_cases hq:o.prec<p
   ·exact qvJ rfl h4 A B hi hq
   ·exact qyZ rfl h4 A B hi (by omega)
end
section
open F
attribute [local simp] qfW qiQ
def qkY(b:Ss):Prop := ∀ (k n:Int) (s:ByteArray) (f:Bool) w w',w'=pw w (⟨#[123]⟩::(b.tx++[⟨#[125]⟩]))->w'.length<2 ^ 40->Z tQ (.call 244 [.ptr 0 0,.dat (.agg [.lit (.int .i64 k),.lit (.int .i64 n),.lit (.string s),kd f b.fo.len b.fo.cells])] (PW w))=some (.ret (.tup []) (PW w'))
theorem qrE {f fb fc:Bool} {s:ByteArray} {e:E} (hs:s.size≠0) (he:qfB e 1 1) {w w':List UInt8} (hw:w'=pw w ([s,⟨#[61]⟩]++((e.tx false 1)++([⟨#[59]⟩])))) (hsz:w'.length<2 ^ 40) :
  Z tQ (.call 260 [.ptr 0 0,.dat (.agg [.lit (.int .i64 1),.lit (.int .i64 0),.lit (.string s),.sl [.lit (.int .i64 e.kind),.lit (.int .i64 e.num),.lit (.string e.str),e.kids] 1 f])] (PW w))=some (.ret (.tup []) (PW w')):=by
 obtain⟨w1,e1⟩ : ∃ v,v=pw w [s,⟨#[61]⟩]:=⟨_,rfl⟩
 obtain⟨w2,e2⟩ : ∃ v,v=pw w1 (e.tx false 1):=⟨_,rfl⟩
 have e3:w'=pw w2 [⟨#[59]⟩]:=by rw[hw,qav,<- e1,qav,<- e2]
 have s3:=hsz
 have s2:=qam e3 s3
 have s1:=qam e2 s2
 have z1:=qfJ e1 (hs) (by decide) s1
 have z2:=he w1 w2 e2 s2
 have z3:=qbL e3 (by decide) s3
 have f0:=qee (k:=1) (n:=0) (s:=s)  (a:=e.kind) (b:=e.num) (t:=e.str) (u:=e.kids) (r:=[]) (m:=1) (f:=f) (by omega) (by omega) (qbg e)
 simp only[PW,PW'] at z1 z2 z3 ⊢
 clear e1 e2 e3 s1 s2 s3 hw hsz
 refine qac (pf:=F260) rfl rfl ?_
 simp[F260,f0,z1,z2,z3,Wa]
theorem qtM {f fb fc:Bool} {s:ByteArray} {x y:E} (hs:s.size≠0) (hx:qfB x 1 1) (hy:qfB y 1 1) {w w':List UInt8} (hw:w'=pw w ([s,⟨#[91]⟩]++((x.tx false 1)++([⟨#[93]⟩,⟨#[61]⟩]++((y.tx false 1)++([⟨#[59]⟩])))))) (hsz:w'.length<2 ^ 40) :
  Z tQ (.call 260 [.ptr 0 0,.dat (.agg [.lit (.int .i64 2),.lit (.int .i64 0),.lit (.string s),.sl [.lit (.int .i64 x.kind),.lit (.int .i64 x.num),.lit (.string x.str),x.kids,.lit (.int .i64 y.kind),.lit (.int .i64 y.num),.lit (.string y.str),y.kids] 2 f])] (PW w))=some (.ret (.tup []) (PW w')):=by
 obtain⟨w1,e1⟩ : ∃ v,v=pw w [s,⟨#[91]⟩]:=⟨_,rfl⟩
 obtain⟨w2,e2⟩ : ∃ v,v=pw w1 (x.tx false 1):=⟨_,rfl⟩
 obtain⟨w3,e3⟩ : ∃ v,v=pw w2 [⟨#[93]⟩,⟨#[61]⟩]:=⟨_,rfl⟩
 obtain⟨w4,e4⟩ : ∃ v,v=pw w3 (y.tx false 1):=⟨_,rfl⟩
 have e5:w'=pw w4 [⟨#[59]⟩]:=by rw[hw,qav,<- e1,qav,<- e2,qav,<- e3,qav,<- e4]
 have s5:=hsz
 have s4:=qam e5 s5
 have s3:=qam e4 s4
 have s2:=qam e3 s3
 have s1:=qam e2 s2
 have z1:=qfJ e1 (hs) (by decide) s1
 have z2:=hx w1 w2 e2 s2
 have z3:=qfJ e3 (by decide) (by decide) s3
 have z4:=hy w3 w4 e4 s4
 have z5:=qbL e5 (by decide) s5
 have f0:=qee (k:=2) (n:=0) (s:=s)  (a:=x.kind) (b:=x.num) (t:=x.str) (u:=x.kids) (r:=[.lit (.int .i64 y.kind),.lit (.int .i64 y.num),.lit (.string y.str),y.kids]) (m:=2) (f:=f) (by omega) (by omega) (qbg x)
 have f1:=qgF (k:=2) (n:=0) (s:=s) (x0 := .lit (.int .i64 x.kind)) (x1 := .lit (.int .i64 x.num)) (x2 := .lit (.string x.str)) (x3:=x.kids) (a:=y.kind) (b:=y.num) (t:=y.str) (u:=y.kids) (r:=[]) (m:=2) (f:=f) (by omega) (by omega) (qbg y)
 simp only[PW,PW'] at z1 z2 z3 z4 z5 ⊢
 clear e1 e2 e3 e4 e5 s1 s2 s3 s4 s5 hw hsz
 refine qac (pf:=F260) rfl rfl ?_
 simp[F260,f0,f1,z1,z2,z3,z4,z5,Wa]
theorem qrF {f fb fc:Bool} {x y:E} (hx:qfB x 1 1) (hy:qfB y 1 1) {w w':List UInt8} (hw:w'=pw w ([⟨#[101,102,102,101,99,116]⟩]++((x.tx false 1)++([⟨#[44]⟩]++((y.tx false 1)++([⟨#[59]⟩])))))) (hsz:w'.length<2 ^ 40) :
  Z tQ (.call 260 [.ptr 0 0,.dat (.agg [.lit (.int .i64 5),.lit (.int .i64 0),.lit (.string ⟨#[]⟩),.sl [.lit (.int .i64 x.kind),.lit (.int .i64 x.num),.lit (.string x.str),x.kids,.lit (.int .i64 y.kind),.lit (.int .i64 y.num),.lit (.string y.str),y.kids] 2 f])] (PW w))=some (.ret (.tup []) (PW w')):=by
 obtain⟨w1,e1⟩ : ∃ v,v=pw w [⟨#[101,102,102,101,99,116]⟩]:=⟨_,rfl⟩
 obtain⟨w2,e2⟩ : ∃ v,v=pw w1 (x.tx false 1):=⟨_,rfl⟩
 obtain⟨w3,e3⟩ : ∃ v,v=pw w2 [⟨#[44]⟩]:=⟨_,rfl⟩
 obtain⟨w4,e4⟩ : ∃ v,v=pw w3 (y.tx false 1):=⟨_,rfl⟩
 have e5:w'=pw w4 [⟨#[59]⟩]:=by rw[hw,qav,<- e1,qav,<- e2,qav,<- e3,qav,<- e4]
 have s5:=hsz
 have s4:=qam e5 s5
 have s3:=qam e4 s4
 have s2:=qam e3 s3
 have s1:=qam e2 s2
 have z1:=qbL e1 (by decide) s1
 have z2:=hx w1 w2 e2 s2
 have z3:=qbL e3 (by decide) s3
 have z4:=hy w3 w4 e4 s4
 have z5:=qbL e5 (by decide) s5
 have f0:=qee (k:=5) (n:=0) (s:=⟨#[]⟩)  (a:=x.kind) (b:=x.num) (t:=x.str) (u:=x.kids) (r:=[.lit (.int .i64 y.kind),.lit (.int .i64 y.num),.lit (.string y.str),y.kids]) (m:=2) (f:=f) (by omega) (by omega) (qbg x)
 have f1:=qgF (k:=5) (n:=0) (s:=⟨#[]⟩) (x0 := .lit (.int .i64 x.kind)) (x1 := .lit (.int .i64 x.num)) (x2 := .lit (.string x.str)) (x3:=x.kids) (a:=y.kind) (b:=y.num) (t:=y.str) (u:=y.kids) (r:=[]) (m:=2) (f:=f) (by omega) (by omega) (qbg y)
 simp only[PW,PW'] at z1 z2 z3 z4 z5 ⊢
 clear e1 e2 e3 e4 e5 s1 s2 s3 s4 s5 hw hsz
 refine qac (pf:=F260) rfl rfl ?_
 simp[F260,f0,f1,z1,z2,z3,z4,z5,Wa]
theorem qtN {f fb fc:Bool} {c:E} {p:Ss} (hc:qfB c 1 1) (hb:qkY p) {w w':List UInt8} (hw:w'=pw w ([⟨#[119,104,105,108,101]⟩]++((c.tx false 1)++((⟨#[123]⟩::(p.tx++[⟨#[125]⟩])))))) (hsz:w'.length<2 ^ 40) :
  Z tQ (.call 260 [.ptr 0 0,.dat (.agg [.lit (.int .i64 4),.lit (.int .i64 0),.lit (.string ⟨#[]⟩),.sl [.lit (.int .i64 c.kind),.lit (.int .i64 c.num),.lit (.string c.str),c.kids,.lit (.int .i64 7),.lit (.int .i64 0),.lit (.string ⟨#[]⟩),kd fb p.fo.len p.fo.cells] 2 f])] (PW w))=some (.ret (.tup []) (PW w')):=by
 obtain⟨w1,e1⟩ : ∃ v,v=pw w [⟨#[119,104,105,108,101]⟩]:=⟨_,rfl⟩
 obtain⟨w2,e2⟩ : ∃ v,v=pw w1 (c.tx false 1):=⟨_,rfl⟩
 have e3:w'=pw w2 (⟨#[123]⟩::(p.tx++[⟨#[125]⟩])):=by rw[hw,qav,<- e1,qav,<- e2]
 have s3:=hsz
 have s2:=qam e3 s3
 have s1:=qam e2 s2
 have z1:=qbL e1 (by decide) s1
 have z2:=hc w1 w2 e2 s2
 have z3:=hb 7 0 ⟨#[]⟩ fb w2 w' e3 s3
 have f0:=qee (k:=4) (n:=0) (s:=⟨#[]⟩)  (a:=c.kind) (b:=c.num) (t:=c.str) (u:=c.kids) (r:=[.lit (.int .i64 7),.lit (.int .i64 0),.lit (.string ⟨#[]⟩),kd fb p.fo.len p.fo.cells]) (m:=2) (f:=f) (by omega) (by omega) (qbg c)
 have f1:=qgF (k:=4) (n:=0) (s:=⟨#[]⟩) (x0 := .lit (.int .i64 c.kind)) (x1 := .lit (.int .i64 c.num)) (x2 := .lit (.string c.str)) (x3:=c.kids) (a:=7) (b:=0) (t:=⟨#[]⟩) (u:=kd fb p.fo.len p.fo.cells) (r:=[]) (m:=2) (f:=f) (by omega) (by omega) (qlY _ _ _)
 simp only[PW,PW'] at z1 z2 z3 ⊢
 clear e1 e2 e3 s1 s2 s3 hw hsz
 refine qac (pf:=F260) rfl rfl ?_
 simp[F260,f0,f1,z1,z2,z3,Wa]
theorem qAc {f fb fc:Bool} {c:E} {p q:Ss} (hc:qfB c 1 1) (hb:qkY p) (hq:q.fo.len=0) {w w':List UInt8} (hw:w'=pw w ([⟨#[105,102]⟩]++((c.tx false 1)++((⟨#[123]⟩::(p.tx++[⟨#[125]⟩])))))) (hsz:w'.length<2 ^ 40) :
  Z tQ (.call 260 [.ptr 0 0,.dat (.agg [.lit (.int .i64 3),.lit (.int .i64 0),.lit (.string ⟨#[]⟩),.sl [.lit (.int .i64 c.kind),.lit (.int .i64 c.num),.lit (.string c.str),c.kids,.lit (.int .i64 7),.lit (.int .i64 0),.lit (.string ⟨#[]⟩),kd fb p.fo.len p.fo.cells,.lit (.int .i64 7),.lit (.int .i64 0),.lit (.string ⟨#[]⟩),kd fc q.fo.len q.fo.cells] 3 f])] (PW w))=some (.ret (.tup []) (PW w')):=by
 obtain⟨w1,e1⟩ : ∃ v,v=pw w [⟨#[105,102]⟩]:=⟨_,rfl⟩
 obtain⟨w2,e2⟩ : ∃ v,v=pw w1 (c.tx false 1):=⟨_,rfl⟩
 have e3:w'=pw w2 (⟨#[123]⟩::(p.tx++[⟨#[125]⟩])):=by rw[hw,qav,<- e1,qav,<- e2]
 have s3:=hsz
 have s2:=qam e3 s3
 have s1:=qam e2 s2
 have z1:=qbL e1 (by decide) s1
 have z2:=hc w1 w2 e2 s2
 have z3:=hb 7 0 ⟨#[]⟩ fb w2 w' e3 s3
 have f0:=qee (k:=3) (n:=0) (s:=⟨#[]⟩)  (a:=c.kind) (b:=c.num) (t:=c.str) (u:=c.kids) (r:=[.lit (.int .i64 7),.lit (.int .i64 0),.lit (.string ⟨#[]⟩),kd fb p.fo.len p.fo.cells,.lit (.int .i64 7),.lit (.int .i64 0),.lit (.string ⟨#[]⟩),kd fc q.fo.len q.fo.cells]) (m:=3) (f:=f) (by omega) (by omega) (qbg c)
 have f1:=qgF (k:=3) (n:=0) (s:=⟨#[]⟩) (x0 := .lit (.int .i64 c.kind)) (x1 := .lit (.int .i64 c.num)) (x2 := .lit (.string c.str)) (x3:=c.kids) (a:=7) (b:=0) (t:=⟨#[]⟩) (u:=kd fb p.fo.len p.fo.cells) (r:=[.lit (.int .i64 7),.lit (.int .i64 0),.lit (.string ⟨#[]⟩),kd fc q.fo.len q.fo.cells]) (m:=3) (f:=f) (by omega) (by omega) (qlY _ _ _)
 have f2:=quq (k:=3) (n:=0) (s:=⟨#[]⟩) (x0 := .lit (.int .i64 c.kind)) (x1 := .lit (.int .i64 c.num)) (x2 := .lit (.string c.str)) (x3:=c.kids) (y0 := .lit (.int .i64 7)) (y1 := .lit (.int .i64 0)) (y2 := .lit (.string ⟨#[]⟩)) (y3:=kd fb p.fo.len p.fo.cells) (a:=7) (b:=0) (t:=⟨#[]⟩) (u:=kd fc q.fo.len q.fo.cells) (r:=[]) (m:=3) (f:=f) (by omega) (by omega) (qlY _ _ _)
 have hq1 : ∀ cs,kd fc q.fo.len cs = .lit (.slice none 0 0):=fun cs=>by rw[hq]; rfl
 simp only[hq1] at f0 f1 f2 ⊢
 simp only[PW,PW'] at z1 z2 z3 ⊢
 clear e1 e2 e3 s1 s2 s3 hw hsz
 refine qac (pf:=F260) rfl rfl ?_
 simp[F260,f0,f1,f2,z1,z2,z3,Wa,qcF]
theorem qAd {f fb fc:Bool} {c:E} {p q:Ss} (hc:qfB c 1 1) (hb:qkY p) (hq:0<q.fo.len) (hd:qkY q) {w w':List UInt8} (hw:w'=pw w ([⟨#[105,102]⟩]++((c.tx false 1)++((⟨#[123]⟩::(p.tx++[⟨#[125]⟩]))++([⟨#[101,108,115,101]⟩]++((⟨#[123]⟩::(q.tx++[⟨#[125]⟩])))))))) (hsz:w'.length<2 ^ 40) :
  Z tQ (.call 260 [.ptr 0 0,.dat (.agg [.lit (.int .i64 3),.lit (.int .i64 0),.lit (.string ⟨#[]⟩),.sl [.lit (.int .i64 c.kind),.lit (.int .i64 c.num),.lit (.string c.str),c.kids,.lit (.int .i64 7),.lit (.int .i64 0),.lit (.string ⟨#[]⟩),kd fb p.fo.len p.fo.cells,.lit (.int .i64 7),.lit (.int .i64 0),.lit (.string ⟨#[]⟩),kd fc q.fo.len q.fo.cells] 3 f])] (PW w))=some (.ret (.tup []) (PW w')):=by
 obtain⟨w1,e1⟩ : ∃ v,v=pw w [⟨#[105,102]⟩]:=⟨_,rfl⟩
 obtain⟨w2,e2⟩ : ∃ v,v=pw w1 (c.tx false 1):=⟨_,rfl⟩
 obtain⟨w3,e3⟩ : ∃ v,v=pw w2 (⟨#[123]⟩::(p.tx++[⟨#[125]⟩])):=⟨_,rfl⟩
 obtain⟨w4,e4⟩ : ∃ v,v=pw w3 [⟨#[101,108,115,101]⟩]:=⟨_,rfl⟩
 have e5:w'=pw w4 (⟨#[123]⟩::(q.tx++[⟨#[125]⟩])):=by rw[hw,qav,<- e1,qav,<- e2,qav,<- e3,qav,<- e4]
 have s5:=hsz
 have s4:=qam e5 s5
 have s3:=qam e4 s4
 have s2:=qam e3 s3
 have s1:=qam e2 s2
 have z1:=qbL e1 (by decide) s1
 have z2:=hc w1 w2 e2 s2
 have z3:=hb 7 0 ⟨#[]⟩ fb w2 w3 e3 s3
 have z4:=qbL e4 (by decide) s4
 have z5:=hd 7 0 ⟨#[]⟩ fc w4 w' e5 s5
 have f0:=qee (k:=3) (n:=0) (s:=⟨#[]⟩)  (a:=c.kind) (b:=c.num) (t:=c.str) (u:=c.kids) (r:=[.lit (.int .i64 7),.lit (.int .i64 0),.lit (.string ⟨#[]⟩),kd fb p.fo.len p.fo.cells,.lit (.int .i64 7),.lit (.int .i64 0),.lit (.string ⟨#[]⟩),kd fc q.fo.len q.fo.cells]) (m:=3) (f:=f) (by omega) (by omega) (qbg c)
 have f1:=qgF (k:=3) (n:=0) (s:=⟨#[]⟩) (x0 := .lit (.int .i64 c.kind)) (x1 := .lit (.int .i64 c.num)) (x2 := .lit (.string c.str)) (x3:=c.kids) (a:=7) (b:=0) (t:=⟨#[]⟩) (u:=kd fb p.fo.len p.fo.cells) (r:=[.lit (.int .i64 7),.lit (.int .i64 0),.lit (.string ⟨#[]⟩),kd fc q.fo.len q.fo.cells]) (m:=3) (f:=f) (by omega) (by omega) (qlY _ _ _)
 have f2:=quq (k:=3) (n:=0) (s:=⟨#[]⟩) (x0 := .lit (.int .i64 c.kind)) (x1 := .lit (.int .i64 c.num)) (x2 := .lit (.string c.str)) (x3:=c.kids) (y0 := .lit (.int .i64 7)) (y1 := .lit (.int .i64 0)) (y2 := .lit (.string ⟨#[]⟩)) (y3:=kd fb p.fo.len p.fo.cells) (a:=7) (b:=0) (t:=⟨#[]⟩) (u:=kd fc q.fo.len q.fo.cells) (r:=[]) (m:=3) (f:=f) (by omega) (by omega) (qlY _ _ _)
 have hq1:(0:Int)<q.fo.len:=by omega
 simp only[PW,PW'] at z1 z2 z3 z4 z5 ⊢
 clear e1 e2 e3 e4 e5 s1 s2 s3 s4 s5 hw hsz
 refine qac (pf:=F260) rfl rfl ?_
 simp[F260,f0,f1,f2,z1,z2,z3,z4,z5,Wa,hq1,hq]
theorem qxD {f fb:Bool} {d:D} (hd:V.one (.dat d)=true) (hcl:V.cells (.dat d)=[.dat d]) {w w':List UInt8} (hw:w'=pw w [⟨#[115,116,111,112]⟩,⟨#[59]⟩]) (hsz:w'.length<2 ^ 40) :
  Z tQ (.call 260 [.ptr 0 0,.dat (.agg [.lit (.int .i64 6),.lit (.int .i64 0),.lit (.string ⟨#[]⟩),d])] (PW w))=some (.ret (.tup []) (PW w')):=by
 have z1:=qfJ hw (by decide) (by decide) hsz
 simp only[PW,PW'] at z1 ⊢
 refine qac (pf:=F260) rfl rfl ?_
 simp[F260,z1,hd,hcl,Wa]
end
section
open F
attribute [local simp] qfW qiQ
def qyv(s:Ss):Prop := ∀ (cs:List D) (m i:Nat) (f:Bool) w w',cs.drop (i*4)=s.fo.cells->i+s.fo.len=m->m<2 ^ 40->w'=pw w s.tx->w'.length<2 ^ 40 ->
 Z tQ (.loop 2 F244l0 [(0,.ptr 0 0),(10,.dat (.sl cs m f)),(11,.int m),(12,.int i)] (PW w))=some (.out (.exit 0) [(0,.ptr 0 0),(10,.dat (.sl cs m f)),(11,.int m),(12,.int m),(13,.bool false)] (PW w'))
def qyw:Ss->Prop
 |.block _ b r=>qkY b/\qyw r
 |_=>True
theorem qfQ {cs:List D} {m i:Nat} {f:Bool} {w w1:List UInt8} {k n:Int} {s:ByteArray} {d:D} {rest:List D} (hd:cs.drop (i*4) = .lit (.int .i64 k) :: .lit (.int .i64 n) :: .lit (.string s)::d::rest)
  (h1:V.one (.dat d)=true) (hcl:V.cells (.dat d)=[.dat d]) (hi:i<m) (hm:m<2 ^ 40)
  (zs:Z tQ (.call 260 [.ptr 0 0,.dat (.agg [.lit (.int .i64 k),.lit (.int .i64 n),.lit (.string s),d])] (PW w))=some (.ret (.tup []) (PW w1)))
  {r:Res} (zr:Z tQ (.loop 2 F244l0 [(0,.ptr 0 0),(10,.dat (.sl cs m f)),(11,.int m),(12,.int ((i+1:Nat):Int))] (PW w1))=some r) :
  Z tQ (.loop 2 F244l0 [(0,.ptr 0 0),(10,.dat (.sl cs m f)),(11,.int m),(12,.int i)] (PW w))=some r:=by
 have hc:=qx2 hd
 have hlt:(i:Int)<m:=by omega
 have w1':IntKind.i64.wrap ((i:Int)+1)=((i+1:Nat):Int):=by rw[qai _ (by omega)]; omega
 rw[<- zr]
 simp only[PW,PW'] at zs ⊢
 conv=>lhs; rw[qaa]
 generalize ((i+1:Nat):Int)=i1 at *
 simp[qab,qgW,qaf,hc,h1,hcl,hlt,hi,zs,w1',Wa]
 all_goals exact qah (by simp[gcF,h1,hcl,Wa])
theorem qnl{b:Ss}(hg:b.good none)(hl:qyv b):qkY b:=by
 intro k n s f w w' hw hsz
 obtain⟨w1,e1⟩ : ∃ v,v=pw w [⟨#[123]⟩]:=⟨_,rfl⟩
 obtain⟨w2,e2⟩ : ∃ v,v=pw w1 b.tx:=⟨_,rfl⟩
 have e3:w'=pw w2 [⟨#[125]⟩]:=by rw[hw,e2,e1,<- qav,<- qav]; rfl
 have s3:=hsz
 have s2:=qam e3 s3
 have s1:=qam e2 s2
 have htg:=qj1 (qhW b none hg).ok
 have hb:b.fo.len<2 ^ 40:=by
  have h1:=qey b hg
  have h2:=qhj b.tx (wl w1) (fun t ht=>qfx (htg t ht))
  have h3:=congrArg List.length e2
  simp only[pw,Wb] at h3
  omega
 have z1:=qbL e1 (by decide) s1
 have z3:=qbL e3 (by decide) s3
 refine qac (pf:=F244) rfl rfl ?_
 cases hbl:b.fo.len with
 |zero=>
  have hn:=qej hbl
  subst hn
  have:w2=w1:=by rw[e2]; exact qdO w1
  subst this
  simp only[PW,PW'] at z1 z3 ⊢
  simp[F244,z1,z3,qcF,qaa,qab,qgW,Wa]
 |succ q=>
  have z2:=hl b.fo.cells (q+1) 0 f w1 w2 (by simp) (by omega) (by omega) e2 s2
  have hk:kd f (q+1) b.fo.cells = .sl b.fo.cells (q+1) f:=rfl
  rw[hk]
  generalize q+1=M at *
  have z2':Z tQ (.loop 2 F244l0 [(0,.ptr 0 0),(10,.dat (.sl b.fo.cells M f)),(11,.int M),(12,.int 0)] (PW w1++[.cells [.int k,.int n,.str s,.dat (.sl b.fo.cells M f)]]))=_:=(qah (by simp[gcF,Wa])).trans z2
  simp only[PW,PW',Wg,Wc] at z1 z2' z3 ⊢
  simp[F244,z1,z2',z3,qqP,Wa]
theorem qr5{cs:List D}{m:Nat}{f:Bool}{w:List UInt8}:Z tQ (.loop 2 F244l0 [(0,.ptr 0 0),(10,.dat (.sl cs m f)),(11,.int m),(12,.int m)] (PW w))=some (.out (.exit 0) [(0,.ptr 0 0),(10,.dat (.sl cs m f)),(11,.int m),(12,.int m),(13,.bool false)] (PW w)):=by
 rw[qaa]
 simp[qab,qgW,Wa]
theorem pe1{e:E}(h:e.good):qfB e 1 1:=qlx e h 1 1 rfl (by omega)
theorem qyx : ∀ s:Ss,(s.good none->qyv s)/\((∃ k,s.good (some k))->qyw s):=by
 intro s
 induction s with
 |nil=>
  refine⟨fun _ cs m i f w w' hd hm hm2 hw hs=>?_,fun _=>trivial⟩
  rw[Ss.tx,qdO] at hw
  subst hw
  have:i=m:=by simpa [Ss.fo] using hm
  subst this
  exact qr5
 |assign g s e r ih=>
  refine⟨fun h cs m i f w w' hd hm hm2 hw hs=>?_,fun _=>trivial⟩
  obtain⟨_,hn,he,hr⟩:=h
  simp only[Ss.fo,qan,qfM,qaA,qaO,qij,qcN,qaI] at hd hm
  obtain⟨w1,e1⟩ : ∃ v,v=pw w ([s,⟨#[61]⟩]++(e.tx false 1++[⟨#[59]⟩])):=⟨_,rfl⟩
  have e2:w'=pw w1 r.tx:=by
   rw[hw,e1,<- qav]
   simp only[Ss.tx,Wg,Wc,Wf]
   rfl
  exact qfQ hd rfl rfl (by omega) hm2 (qrE (fb:=false) (fc:=false) (qfx hn.1) (pe1 he) e1 (qam e2 hs)) (ih.1 hr cs m (i+1) f w1 w' (qa9 hd) (by omega) hm2 e2 hs)
 |store g s a b r ih=>
  refine⟨fun h cs m i f w w' hd hm hm2 hw hs=>?_,fun _=>trivial⟩
  obtain⟨_,hn,ha,hb,hr⟩:=h
  simp only[Ss.fo,qan,qfM,qaA,qaO,qij,qcN,qaI] at hd hm
  obtain⟨w1,e1⟩ : ∃ v,v=pw w ([s,⟨#[91]⟩]++(a.tx false 1++([⟨#[93]⟩,⟨#[61]⟩]++(b.tx false 1++[⟨#[59]⟩])))):=⟨_,rfl⟩
  have e2:w'=pw w1 r.tx:=by
   rw[hw,e1,<- qav]
   simp only[Ss.tx,Wg,Wc,Wf]
   rfl
  exact qfQ hd rfl rfl (by omega) hm2 (qtM (fb:=false) (fc:=false) (qjG hn) (pe1 ha) (pe1 hb) e1 (qam e2 hs)) (ih.1 hr cs m (i+1) f w1 w' (qa9 hd) (by omega) hm2 e2 hs)
 |effect g a b r ih=>
  refine⟨fun h cs m i f w w' hd hm hm2 hw hs=>?_,fun _=>trivial⟩
  obtain⟨_,ha,hb,hr⟩:=h
  simp only[Ss.fo,qan,qfM,qaA,qaO,qij,qcN,qaI] at hd hm
  obtain⟨w1,e1⟩ : ∃ v,v=pw w ([⟨#[101,102,102,101,99,116]⟩]++(a.tx false 1++([⟨#[44]⟩]++(b.tx false 1++[⟨#[59]⟩])))):=⟨_,rfl⟩
  have e2:w'=pw w1 r.tx:=by
   rw[hw,e1,<- qav]
   simp only[Ss.tx,Wg,Wc,Wf]
   rfl
  exact qfQ hd rfl rfl (by omega) hm2 (qrF (fb:=false) (fc:=false) (pe1 ha) (pe1 hb) e1 (qam e2 hs)) (ih.1 hr cs m (i+1) f w1 w' (qa9 hd) (by omega) hm2 e2 hs)
 |stop r ih=>
  refine⟨fun h cs m i f w w' hd hm hm2 hw hs=>?_,fun _=>trivial⟩
  obtain⟨_,hr⟩:=h
  simp only[Ss.fo,qan,qaA,qaO,qaI,qz9] at hd hm
  obtain⟨w1,e1⟩ : ∃ v,v=pw w [⟨#[115,116,111,112]⟩,⟨#[59]⟩]:=⟨_,rfl⟩
  have e2:w'=pw w1 r.tx:=by
   rw[hw,e1,<- qav]
   rfl
  exact qfQ hd rfl rfl (by omega) hm2 (qxD (f:=false) (fb:=false) rfl rfl e1 (qam e2 hs)) (ih.1 hr cs m (i+1) f w1 w' (qa9 hd) (by omega) hm2 e2 hs)
 |cond w0 g c b r ihb ih=>
  refine⟨fun h cs m i f w w' hd hm hm2 hw hs=>?_,fun _=>trivial⟩
  obtain⟨_,hc,hb,hr⟩:=h
  cases w0 with
  |true=>
   obtain⟨fb,b1,rfl,hb1⟩:=qmX hb
   have hrow:=ihb.2 ⟨1,hb⟩
   simp only[Ss.fo,qan,qfM,qaA,qaO,qij,qcN,qaI,if_true] at hd hm
   obtain⟨w1,e1⟩ : ∃ v,v=pw w ([⟨#[119,104,105,108,101]⟩]++(c.tx false 1++(⟨#[123]⟩::(b1.tx++[⟨#[125]⟩])))):=⟨_,rfl⟩
   have e2:w'=pw w1 r.tx:=by
    rw[hw,e1,<- qav]
    simp only[Ss.tx,Wg,Wc,Wf,qfD,if_true,Wn,if_false]
    rfl
   exact qfQ hd rfl rfl (by omega) hm2 (qtN (fc:=false) (pe1 hc) hrow.1 e1 (qam e2 hs)) (ih.1 hr cs m (i+1) f w1 w' (qa9 hd) (by omega) hm2 e2 hs)
  |false=>
   obtain⟨fb,b1,fc,b2,rfl,hb1,hb2⟩:=qra hb
   have hrow:=ihb.2 ⟨2,hb⟩
   simp only[Ss.fo,qan,qfM,qaA,qaO,qij,qcN,qaI,Wn,if_false] at hd hm
   cases hl:b2.fo.len with
   |zero=>
    have hn:=qej hl
    obtain⟨w1,e1⟩ : ∃ v,v=pw w ([⟨#[105,102]⟩]++(c.tx false 1++(⟨#[123]⟩::(b1.tx++[⟨#[125]⟩])))):=⟨_,rfl⟩
    have e2:w'=pw w1 r.tx:=by
     rw[hw,e1,<- qav,hn]
     simp only[Ss.tx,Wg,Wc,Wf,qfD,if_true,Wn,if_false]
     rfl
    exact qfQ hd rfl rfl (by omega) hm2 (qAc (pe1 hc) hrow.1 hl e1 (qam e2 hs)) (ih.1 hr cs m (i+1) f w1 w' (qa9 hd) (by omega) hm2 e2 hs)
   |succ q=>
    have he:qfD (.block fc b2 .nil)=true:=by cases b2<;>first|rfl|simp[Ss.fo] at hl
    obtain⟨w1,e1⟩ : ∃ v,v=pw w ([⟨#[105,102]⟩]++(c.tx false 1++((⟨#[123]⟩::(b1.tx++[⟨#[125]⟩]))++([⟨#[101,108,115,101]⟩]++(⟨#[123]⟩::(b2.tx++[⟨#[125]⟩])))))):=⟨_,rfl⟩
    have e2:w'=pw w1 r.tx:=by
     rw[hw,e1,<- qav]
     simp only[Ss.tx,he,Wg,Wc,Wf,if_true,Wn,if_false]
     rfl
    exact qfQ hd rfl rfl (by omega) hm2 (qAd (pe1 hc) hrow.1 (by omega) hrow.2.1 e1 (qam e2 hs)) (ih.1 hr cs m (i+1) f w1 w' (qa9 hd) (by omega) hm2 e2 hs)
 |block g b r ihb ih=>
  refine⟨fun h=>?_,fun ⟨k,h⟩=>?_⟩
  ·obtain⟨n,hn,_⟩:=h; cases hn
  ·obtain⟨n,hn,hb,hr⟩:=h
   exact⟨qnl hb (ihb.1 hb),ih.2 ⟨n,hr⟩⟩
end
end Go.Pm
