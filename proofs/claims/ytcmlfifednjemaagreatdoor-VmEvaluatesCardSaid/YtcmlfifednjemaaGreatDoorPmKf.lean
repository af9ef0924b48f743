/- Chapter 13's parser: the token at an offset is the plain one. -/
import Derived.Test.YtcmlfifednjemaaGreatDoorPmAL
import Derived.Test.YtcmlfifednjemaaGreatDoorPmE7
import Derived.Test.YtcmlfifednjemaaGreatDoorPmR
import Derived.Test.YtcmlfifednjemaaGreatDoorPmVp21
import Init
set_option linter.unusedSimpArgs false
set_option linter.unusedVariables false
set_option maxHeartbeats 4000000
namespace Go.Pm
section
open F
theorem qtm{c:UInt8}{r:List UInt8}:bs (c::r)≠⟨#[]⟩:=fun h=>by
 have:=congrArg ByteArray.size h
 rw[qa1,Wd] at this
 exact absurd this (by show ¬ r.length+1=0; omega)
theorem qsm(s:ByteArray)(hl:s.size<2 ^ 40){σ : S}(hσ : LxS s σ){i:Nat}(hi:i<=s.size):Z tP (.call 250 [.ptr 0 0,.int i] σ)=some (.ret (ptk (qgn 12 2 6 s i)) σ):=by
 by_cases hend:i=s.size
 ·subst hend
  have hd:(byl s).drop s.size=[]:=WY (by rw[qaW]; exact Wi _)
  have e:qgn 12 2 6 s s.size=⟨s.size,⟨#[]⟩,0⟩:=by rw[qfg,hd]; rfl
  rw[e]
  exact qqt s hσ
 have hi':i<s.size:=by omega
 obtain⟨c,h1,h2⟩:=qpt hi'
 have hd:=qic h2
 rw[qfg,hd]
 by_cases hlet:qa7 c=true
 ·have hw:qay c=true:=by simp[qay,hlet]
  have ht:=qmm ((byl s).drop (i+1)) hw
  have htok:tokL 12 2 6 (c::(byl s).drop (i+1))=(c::((byl s).drop (i+1)).take (qbO qay ((byl s).drop (i+1))),if 8<qbO qay (c::(byl s).drop (i+1))/\bs (c::((byl s).drop (i+1)).take (qbO qay ((byl s).drop (i+1))))∉fieldNames/\bs (c::((byl s).drop (i+1)).take (qbO qay ((byl s).drop (i+1))))∉wordNames then 2 else 0):=by
   simp only[tokL,hlet,if_true,ht]
  have z:=qte s hl hσ hi
  rw[qco,hd,ht] at z
  have hsz:(bs (c::((byl s).drop (i+1)).take (qbO qay ((byl s).drop (i+1))))).size=qbO qay (c::(byl s).drop (i+1)):=by
   rw[qa1,<- ht,WL,Nat.min_eq_left (qfD _ _)]
  rw[htok]
  have s1:=qdW qa7 c (((byl s).drop (i+1)).take (qbO qay ((byl s).drop (i+1))))
  have s2:=qdW qau c (((byl s).drop (i+1)).take (qbO qay ((byl s).drop (i+1))))
  have hne:=qtm (c:=c) (r:=((byl s).drop (i+1)).take (qbO qay ((byl s).drop (i+1))))
  rw[hlet] at s1
  rw[qor hlet] at s2
  rw[<- hsz]
  generalize bs (c::((byl s).drop (i+1)).take (qbO qay ((byl s).drop (i+1))))=w at *
  have e:ptk ⟨i,w,if 8<w.size/\w∉fieldNames/\w∉wordNames then 2 else 0⟩=ptD (pkW w) w i 0 (pcW w):=by
   have hb:((if 8<w.size/\w∉fieldNames/\w∉wordNames then 2 else 0:Nat):Int)=pcW w:=by
    unfold pcW
    by_cases a:w∈fieldNames<;>by_cases b:w∈wordNames<;>by_cases d:8<w.size<;>simp[a,b,d]
   have hk:kindT ⟨i,w,if 8<w.size/\w∉fieldNames/\w∉wordNames then 2 else 0⟩=pkW w:=by
    unfold pkW kindT
    by_cases a:w∈fieldNames<;>by_cases b:w∈wordNames<;>by_cases d:8<w.size<;>simp[a,b,d,hne,s1]
   have hx:qg8 ⟨i,w,if 8<w.size/\w∉fieldNames/\w∉wordNames then 2 else 0⟩=w:=by
    unfold qg8
    by_cases a:8<w.size/\w∉fieldNames/\w∉wordNames<;>simp[a]
   unfold ptk
   rw[hk,hx,hb]
   simp[valT,s2]
  rw[e]
  exact qqu s hσ hi' h1 hlet (v := .lit (.bool true)) rfl z
 have hlet':qa7 c=false:=by simpa using hlet
 by_cases hdig:qau c=true
 ·have ht:=qmm ((byl s).drop (i+1)) hdig
  have htok:tokL 12 2 6 (c::(byl s).drop (i+1))=(c::((byl s).drop (i+1)).take (qbO qau ((byl s).drop (i+1))),if 2147483647<digV (c::((byl s).drop (i+1)).take (qbO qau ((byl s).drop (i+1)))) then 6 else 0):=by
   simp only[tokL,hlet',hdig,if_true,Wm,if_false,ht]
  have z:=qwe s hl hσ hi
  rw[qco,hd,ht] at z
  rw[htok]
  have s1:=qdW qa7 c (((byl s).drop (i+1)).take (qbO qau ((byl s).drop (i+1))))
  have s2:=qdW qau c (((byl s).drop (i+1)).take (qbO qau ((byl s).drop (i+1))))
  have hne:=qtm (c:=c) (r:=((byl s).drop (i+1)).take (qbO qau ((byl s).drop (i+1))))
  rw[hlet'] at s1
  rw[hdig] at s2
  have hbl:=qbg (c::((byl s).drop (i+1)).take (qbO qau ((byl s).drop (i+1))))
  generalize c::((byl s).drop (i+1)).take (qbO qau ((byl s).drop (i+1)))=l at *
  have e:ptk ⟨i,bs l,if 2147483647<digV l then 6 else 0⟩=ptD (if 2147483647<digV l then 6 else 4) (bs l) i (min (digV l) 2147483648:Nat) (if 2147483647<digV l then 6 else 0):=by
   unfold ptk kindT qg8 valT
   by_cases a:2147483647<digV l<;>simp[a,hne,s1,s2,hbl]
  rw[e]
  exact qqv s hσ hi' h1 hlet' hdig z
 have hdig':qau c=false:=by simpa using hdig
 by_cases hp:bs ((c::(byl s).drop (i+1)).take 2)∈qen
 ·have htok:tokL 12 2 6 (c::(byl s).drop (i+1))=((c::(byl s).drop (i+1)).take 2,0):=by
   simp only[tokL,hlet',hdig',if_pos hp,Wm,if_false]
  have hsz:=qff hp
  rw[qa1,WL,Wd,W5,qaW] at hsz
  have z:=qos s hl hσ (i:=i) (by omega) h1 hlet' hdig' (p:=bs ((c::(byl s).drop (i+1)).take 2)) (by rw[qco,hd]) hp
  rw[htok,z]
  have e:ptk ⟨i,bs ((c::(byl s).drop (i+1)).take 2),0⟩=ptD 5 (bs ((c::(byl s).drop (i+1)).take 2)) i 0 0:=by
   generalize bs ((c::(byl s).drop (i+1)).take 2)=w at hp
   simp only[qen,Wp,Ws,or_false] at hp
   rcases hp with rfl|rfl|rfl|rfl|rfl|rfl<;>rfl
  rw[e]
 ·have z:=qqw s hl hσ hi' h1 hlet' hdig' (fun h=>by rw[qco,hd]; exact hp) (x:=bs [c]) (by rw[qco,hd]; rfl)
  rw[z]
  have s1:=qdW qa7 c []
  have s2:=qdW qau c []
  by_cases hs:c.toNat∈qkb
  ·have htok:tokL 12 2 6 (c::(byl s).drop (i+1))=([c],0):=by simp only[tokL,hlet',hdig',if_neg hp,if_pos hs,Wm,if_false]
   rw[htok,if_pos hs]
   have e:ptk ⟨i,bs [c],0⟩=ptD 5 (bs [c]) i 0 0:=by
    unfold ptk kindT qg8 valT
    simp[s1,s2,hlet',hdig',qtm]
   rw[e]
  ·have htok:tokL 12 2 6 (c::(byl s).drop (i+1))=([c],12):=by simp only[tokL,hlet',hdig',if_neg hp,if_neg hs,Wm,if_false]
   rw[htok,if_neg hs]
   have e:ptk ⟨i,bs [c],12⟩=ptD 6 ⟨#[]⟩ i 0 12:=by
    unfold ptk kindT qg8 valT
    simp[s2,hdig']
   rw[e]
end
section
@[simp] def quX:Nat->PC->PC
 |n+1,.seq a b => .seq a (quX n b)
 |0,_ => .skip
 |_,p=>p
end
section
open F
attribute [local simp] qbb qbT
theorem qoD(s:ByteArray):Z tP (.call 241 [.ptr 0 0] [pO s 1 (.dat (.lit (.slice none 0 0))) 0 0 12,.map kwM])=some (.ret (.fn 249 [] [.ptr 2 0]) [pO s 1 (.dat (.lit (.slice none 0 0))) 0 0 12,.map kwM,.cells [.ptr 0 0]]):=by
 refine qaa (pf:=F241) rfl rfl ?_
 simp[F241,Wa]
abbrev lp8:Ob := .loop ⟨[(2,.ptr 2 0),(3,.ptr 3 0),(4,.ptr 4 0),(5,.ptr 5 0),(19,.fn 249 [] [.ptr 1 0])],[20],F228a0,F228b0,0,none⟩
abbrev TT0(s:ByteArray):S:=[lp8,.cells [.ptr 6 0],qvm,.cells [.int 0],.cells [.int 0],.cells [.ptr 6 0],pO s 7 (.dat (.lit (.slice none 0 0))) 0 0 12,.map kwM]
abbrev TT1(s:ByteArray)(cs:List D)(n:Nat):S:=[lp8,.cells [.ptr 6 0],qvm,.cells [.int 0],.cells [.int 0],.cells [.ptr 6 0],pO s 7 (.gsl cs n 5 8) 0 0 12,.map kwM,.tip cs.length]
abbrev lpR:Ob := .loop ⟨[(2,.ptr 1 0),(3,.ptr 2 0),(4,.ptr 3 0),(5,.ptr 4 0),(19,.fn 249 [] [.ptr 5 0])],[20],F228a0,F228b0,0,none⟩
abbrev Q0(s:ByteArray):S:=[lpR,qvm,.cells [.int 0],.cells [.int 0],.cells [.ptr 6 0],.cells [.ptr 6 0],pO s 7 (.dat (.lit (.slice none 0 0))) 0 0 12,.map kwM]
abbrev Q1(s:ByteArray)(cs:List D)(n:Nat):S:=[lpR,qvm,.cells [.int 0],.cells [.int 0],.cells [.ptr 6 0],.cells [.ptr 6 0],pO s 7 (.gsl cs n 5 8) 0 0 12,.map kwM,.tip cs.length]
def qgY(k:Int)(t:ByteArray)(a v c:Int):List D:=[.lit (.int .i64 k),.lit (.string t),.lit (.int .i64 a),.lit (.int .i64 v),.lit (.int .i64 c)]
section
variable{s:ByteArray}{k a v c:Int}{t:ByteArray}
theorem qzR:Z tP (.round [.yld 0,ptD k t a v c] (Q0 s))=some (.ret (.bool true) (Q1 s (qgY k t a v c) 1)):=by
 have r1:qaC 1 48=true:=by simp only[qaC,decide_eq_true_eq]; omega
 rw[qcx]
 simp[qbo,qhF,qhG,qiE,qiF,qcW,Lp.ended,Ex.isNormal,V.len,qbQ,qkw,r1,qgY,dkey,qa9,qaq,Wa]
theorem qzS{cs:List D}{n:Nat}(hc:cs.length=n*5)(h0:0<n)(hn:n<2 ^ 30):Z tP (.round [.yld 0,ptD k t a v c] (Q1 s cs n))=some (.ret (.bool true) (Q1 s (cs++qgY k t a v c) (n+1))):=by
 have r1:qaC (n+1) 48=true:=by simp only[qaC,decide_eq_true_eq]; omega
 have hne : ¬ n=0:=by omega
 rw[qcx]
 simp[qbo,qhF,qhG,qiE,qiF,qcW,Lp.ended,Ex.isNormal,V.len,qbQ,qkw,r1,hc,hne,qgY,dkey,qa9,qaq,Wa]
end
abbrev tkO(k:Int)(t:ByteArray)(a v c:Int):Ob := .cells [.int k,.str t,.int a,.int v,.int c]
section
variable{s:ByteArray}{i j:Nat}{k a v c:Int}{t:ByteArray}
theorem qqE
  (zs:Z tP (.call 251 [.ptr 0 0,.int i] [pO s 1 (.dat (.lit (.slice none 0 0))) 0 0 12,.map kwM])=some (.ret (.int j) [pO s 1 (.dat (.lit (.slice none 0 0))) 0 0 12,.map kwM]))
  (zc:Z tP (.call 250 [.ptr 0 0,.int j] [pO s 1 (.dat (.lit (.slice none 0 0))) 0 0 12,.map kwM])=some (.ret (ptD k t a v c) [pO s 1 (.dat (.lit (.slice none 0 0))) 0 0 12,.map kwM]))
  (ha:IntKind.i64.wrap (a+t.size)=a+t.size) (h0:decide (k=0)=false) (h6:decide (k=6)=false) :
  Z tP (.loop 8 F249l0 [(0,.yld 0),(1,.ptr 1 0),(3,.int i)] (TT0 s))=Z tP (.loop 8 F249l0 [(0,.yld 0),(1,.ptr 1 0),(3,.int (a+t.size))] (TT1 s (qgY k t a v c) 1)):=by
 have zr:=qzR (s:=s) (k:=k) (a:=a) (v:=v) (c:=c) (t:=t)
 simp only[pO,ptD,qgY] at zs zc zr
 conv=>lhs; rw[qac]
 simp[qad,qe3,zs,zc,zr,V.len,ha,h0,h6,qgY,qa9,qaq,Wa]
 exact qal (by simp[Wa])
theorem qqF
  (zs:Z tP (.call 251 [.ptr 0 0,.int i] [pO s 1 (.dat (.lit (.slice none 0 0))) 0 0 12,.map kwM])=some (.ret (.int j) [pO s 1 (.dat (.lit (.slice none 0 0))) 0 0 12,.map kwM]))
  (zc:Z tP (.call 250 [.ptr 0 0,.int j] [pO s 1 (.dat (.lit (.slice none 0 0))) 0 0 12,.map kwM])=some (.ret (ptD k t a v c) [pO s 1 (.dat (.lit (.slice none 0 0))) 0 0 12,.map kwM]))
  (h:k=0\/k=6) :
  Z tP (.loop 8 F249l0 [(0,.yld 0),(1,.ptr 1 0),(3,.int i)] (TT0 s))=some (.out .ret [(0,.yld 0),(1,.ptr 1 0),(4,.ptr 8 0),(23,.bool true)] [lp8,.cells [.ptr 6 0],qvm,.cells [.int 0],.cells [.int 0],.cells [.ptr 6 0],pO s 7 (.gsl (qgY k t a v c) 1 5 9) 0 0 12,.map kwM,tkO k t a v c,.tip 5]):=by
 have zr:=qzR (s:=s) (k:=k) (a:=a) (v:=v) (c:=c) (t:=t)
 simp only[pO,ptD,qgY] at zs zc zr
 rw[qac]
 rcases h with rfl|rfl<;>simp[qad,qe3,zs,zc,zr,V.len,qgY,qa9,qaq,Wa]
theorem qqG {cs:List D} {n:Nat} (hc:cs.length=n*5) (hn0:0<n) (hn:n<2 ^ 30)
  (zs:Z tP (.call 251 [.ptr 0 0,.int i] [pO s 1 (.gsl cs n 5 2) 0 0 12,.map kwM,.tip cs.length])=some (.ret (.int j) [pO s 1 (.gsl cs n 5 2) 0 0 12,.map kwM,.tip cs.length]))
  (zc:Z tP (.call 250 [.ptr 0 0,.int j] [pO s 1 (.gsl cs n 5 2) 0 0 12,.map kwM,.tip cs.length])=some (.ret (ptD k t a v c) [pO s 1 (.gsl cs n 5 2) 0 0 12,.map kwM,.tip cs.length]))
  (ha:IntKind.i64.wrap (a+t.size)=a+t.size) (h0:decide (k=0)=false) (h6:decide (k=6)=false) :
  Z tP (.loop 8 F249l0 [(0,.yld 0),(1,.ptr 1 0),(3,.int i)] (TT1 s cs n))=Z tP (.loop 8 F249l0 [(0,.yld 0),(1,.ptr 1 0),(3,.int (a+t.size))] (TT1 s (cs++qgY k t a v c) (n+1))):=by
 have zr:=qzS (s:=s) (k:=k) (a:=a) (v:=v) (c:=c) (t:=t) hc hn0 hn
 simp only[pO,ptD,qgY] at zs zc zr
 conv=>lhs; rw[qac]
 simp[qad,qe3,zs,zc,zr,V.len,ha,h0,h6,qgY,qa9,qaq,Wa]
 exact qal (by simp[Wa])
theorem qqH {cs:List D} {n:Nat} (hc:cs.length=n*5) (hn0:0<n) (hn:n<2 ^ 30)
  (zs:Z tP (.call 251 [.ptr 0 0,.int i] [pO s 1 (.gsl cs n 5 2) 0 0 12,.map kwM,.tip cs.length])=some (.ret (.int j) [pO s 1 (.gsl cs n 5 2) 0 0 12,.map kwM,.tip cs.length]))
  (zc:Z tP (.call 250 [.ptr 0 0,.int j] [pO s 1 (.gsl cs n 5 2) 0 0 12,.map kwM,.tip cs.length])=some (.ret (ptD k t a v c) [pO s 1 (.gsl cs n 5 2) 0 0 12,.map kwM,.tip cs.length]))
  (h:k=0\/k=6) :
  Z tP (.loop 8 F249l0 [(0,.yld 0),(1,.ptr 1 0),(3,.int i)] (TT1 s cs n))=some (.out .ret [(0,.yld 0),(1,.ptr 1 0),(4,.ptr 9 0),(23,.bool true)] (TT1 s (cs++qgY k t a v c) (n+1)++[tkO k t a v c])):=by
 have zr:=qzS (s:=s) (k:=k) (a:=a) (v:=v) (c:=c) (t:=t) hc hn0 hn
 simp only[pO,ptD,qgY] at zs zc zr
 rw[qac]
 rcases h with rfl|rfl<;>simp[qad,qe3,zs,zc,zr,V.len,qgY,qa9,qaq,Wa]
end
end
section
open F
attribute [local simp] qbb qbT
abbrev ptT(t:Tk):List D:=qgY (kindT t) (qg8 t) t.at_ (valT t) t.bad
def ptC:List Tk->List D
 |[]=>[]
 |t::r=>ptT t++ptC r
theorem qgc(t:Tk):(kindT t=0\/kindT t=6)↔(t.bad≠0\/t.s.size=0):=by
 have he:t.s=⟨#[]⟩↔t.s.size=0:=⟨fun h=>by rw[h]; rfl,fun h=>by
  have:=qdz t.s
  have hb:byl t.s=[]:=WP (by rw[qaW]; exact h)
  rw[hb] at this
  exact this.symm⟩
 unfold kindT
 by_cases hb:t.bad=0
 ·by_cases h0:t.s=⟨#[]⟩
  ·simp[hb,h0]
   rfl
  ·have h0' : ¬ t.s.size=0:=fun h=>h0 (he.2 h)
   simp only[hb,h0,h0',ne_eq,not_true_eq_false,if_false,false_or,or_self,iff_false]
   split<;>(try split)<;>(try split)<;>omega
 ·simp[hb]
theorem qaQ{t:Tk}(h:t.bad=0):qg8 t=t.s:=by unfold qg8; rw[h]; rfl
theorem qrR(s:ByteArray){i:Nat}(hi:i<=s.size):qij s (s.size-i) false i=i+qa4 false ((byl s).drop i)/\i+qa4 false ((byl s).drop i)<=s.size:=by
 refine⟨qj6 s _ false i (Wi _),?_⟩
 have:=qhr ((byl s).drop i) false
 rw[W5,qaW] at this
 omega
theorem qmX(s:ByteArray)(n:Nat){i:Nat}(hi:i<=s.size){t:Tk}(ht:qgn 12 2 6 s (i+qa4 false ((byl s).drop i))=t):qdC 12 2 6 s (n+1) i=if t.bad≠0\/t.s.size=0 then [t] else t::qdC 12 2 6 s n (t.at_+t.s.size):=by
 rw[qdC,(qrR s hi).1,ht]
theorem qsP(s:ByteArray){i:Nat}(hi:i<=s.size){t:Tk}(ht:qgn 12 2 6 s (i+qa4 false ((byl s).drop i))=t)(h : ¬ (t.bad≠0\/t.s.size=0)):i<t.at_+t.s.size/\t.at_+t.s.size<=s.size:=by
 obtain⟨_,h2⟩:=qrR s hi
 have hij:i<=i+qa4 false ((byl s).drop i):=by omega
 generalize i+qa4 false ((byl s).drop i)=j at ht h2 hij
 by_cases hj:j<s.size
 ·have hp:=qpZ hj 12 2 6
  have ha:t.at_=j:=by rw[<- ht,qfg]
  rw[ht] at hp
  omega
 ·obtain rfl:j=s.size:=by omega
  have hd:(byl s).drop s.size=[]:=WY (by rw[qaW]; exact Wi _)
  exfalso
  apply h
  rw[<- ht,qfg,hd]
  exact .inr rfl
theorem qi6 (s:ByteArray) (hl:s.size<2 ^ 29) : ∀ (n i:Nat) (cs:List D) (m:Nat),s.size-i<n->i<=s.size->0<m->cs.length=m*5->m+(s.size-i)<2 ^ 30 ->
  ∃ k t a v c,Z tP (.loop 8 F249l0 [(0,.yld 0),(1,.ptr 1 0),(3,.int i)] (TT1 s cs m))=some (.out .ret [(0,.yld 0),(1,.ptr 1 0),(4,.ptr 9 0),(23,.bool true)] (TT1 s (cs++ptC (qdC 12 2 6 s n i)) (m+(qdC 12 2 6 s n i).length)++[tkO k t a v c]))
 |0,i,cs,m,h,_,_,_,_=>by omega
 |n+1,i,cs,m,hn,hi,h0,hc,hm=>by
  obtain⟨j1,j2⟩:=qrR s hi
  have zs:=qoj s (by omega) (LxS.gr cs m cs.length 0 0 12) hi
  have zc:=qsm s (by omega) (LxS.gr cs m cs.length 0 0 12) j2
  obtain⟨t,ht⟩ : ∃ t,qgn 12 2 6 s (i+qa4 false ((byl s).drop i))=t:=⟨_,rfl⟩
  rw[qmX s n hi ht]
  rw[ht] at zc
  by_cases hend:t.bad≠0\/t.s.size=0
  ·rw[if_pos hend]
   have z:=qqH hc h0 (by omega) zs zc ((qgc t).2 hend)
   simp only[ptC,WD,Wr]
   exact⟨_,_,_,_,_,z⟩
  ·rw[if_neg hend]
   obtain⟨q1,q2⟩:=qsP s hi ht hend
   have hb:t.bad=0:=by simp only[not_or,ne_eq,Decidable.not_not] at hend; exact hend.1
   have hk : ¬ (kindT t=0\/kindT t=6):=fun h=>hend ((qgc t).1 h)
   simp only[not_or] at hk
   have z:=qqG hc h0 (by omega) zs zc (by rw[qaQ hb,qaf _ (by omega)]) (decide_eq_false hk.1) (decide_eq_false hk.2)
   have hT:qgY (kindT t) t.s t.at_ (valT t) t.bad=ptT t:=by show _=qgY (kindT t) (qg8 t) t.at_ (valT t) t.bad; rw[qaQ hb]
   rw[qaQ hb,hT] at z
   obtain⟨k,x,a,v,c,ih⟩:=qi6 s hl n (t.at_+t.s.size) (cs++ptT t) (m+1) (by omega) q2 (by omega) (by rw[Wb,hc]; simp only[qgY,Wd,Wj]; omega) (by omega)
   refine⟨k,x,a,v,c,z.trans ?_⟩
   have e1:((t.at_:Int)+t.s.size)=((t.at_+t.s.size:Nat):Int):=by omega
   rw[e1,ih]
   simp only[ptC,Wo,Wd]
   rw[show m+1+(qdC 12 2 6 s n (t.at_+t.s.size)).length=m+((qdC 12 2 6 s n (t.at_+t.s.size)).length+1) by omega]
theorem qpE(s:ByteArray)(hl:s.size<2 ^ 29):Z tP (.call 249 [.yld 0,.ptr 1 0] (TT0 s))=some (.ret (.tup []) (TT1 s (ptC (toks s)) (toks s).length)):=by
 obtain⟨j1,j2⟩:=qrR s (i:=0) (by omega)
 have zs:=qoj s (by omega) (LxS.nil 0 0 12) (i:=0) (by omega)
 have zc:=qsm s (by omega) (LxS.nil 0 0 12) j2
 obtain⟨t,ht⟩ : ∃ t,qgn 12 2 6 s (0+qa4 false ((byl s).drop 0))=t:=⟨_,rfl⟩
 have hn:=qmX s s.size (i:=0) (by omega) ht
 rw[show toks s=qdC 12 2 6 s (s.size+1) 0 from rfl,hn]
 rw[ht] at zc
 by_cases hend:t.bad≠0\/t.s.size=0
 ·rw[if_pos hend]
  have z:=qqF zs zc ((qgc t).2 hend)
  simp only[YA] at z
  refine qaa (pf:=F249) rfl rfl ?_
  simp[F249,z,ptC,qgY,Wa]
 ·rw[if_neg hend]
  obtain⟨q1,q2⟩:=qsP s (i:=0) (by omega) ht hend
  have hb:t.bad=0:=by simp only[not_or,ne_eq,Decidable.not_not] at hend; exact hend.1
  have hk : ¬ (kindT t=0\/kindT t=6):=fun h=>hend ((qgc t).1 h)
  simp only[not_or] at hk
  have z:=qqE zs zc (by rw[qaQ hb,qaf _ (by omega)]) (decide_eq_false hk.1) (decide_eq_false hk.2)
  have hT:qgY (kindT t) t.s t.at_ (valT t) t.bad=ptT t:=by show _=qgY (kindT t) (qg8 t) t.at_ (valT t) t.bad; rw[qaQ hb]
  rw[qaQ hb,hT] at z
  obtain⟨k,x,a,v,c,ih⟩:=qi6 s hl s.size (t.at_+t.s.size) (ptT t) 1 (by omega) q2 (by omega) (by simp only[qgY,Wd,Wj]) (by omega)
  have e1:((t.at_:Int)+t.s.size)=((t.at_+t.s.size:Nat):Int):=by omega
  rw[e1,ih] at z
  simp only[YA] at z
  have e2:ptT t++ptC (qdC 12 2 6 s s.size (t.at_+t.s.size))=ptC (t::qdC 12 2 6 s s.size (t.at_+t.s.size)):=rfl
  rw[e2] at z
  have e3:1+(qdC 12 2 6 s s.size (t.at_+t.s.size)).length=(t::qdC 12 2 6 s s.size (t.at_+t.s.size)).length:=by rw[Wd]; omega
  rw[e3] at z
  generalize t::qdC 12 2 6 s s.size (t.at_+t.s.size)=T at z ⊢
  refine qaa (pf:=F249) rfl rfl ?_
  simp[F249,z,Wa]
end
section
open F
attribute [local simp] qbb qbT dkey
abbrev PS(s:ByteArray)(T:List Tk)(i a c:Int):S:=[pO s 1 (.gsl (ptC T) T.length 5 2) i a c,.map kwM,.tip (ptC T).length]
theorem qme : ∀ (T:List Tk) (i:Nat),(ptC T).drop (i*5)=ptC (T.drop i)
 |[],i=>by simp[ptC]
 |t::T,0=>by simp
 |t::T,i+1=>by
  rw[show (i+1)*5=i*5+5 by omega]
  simp only[ptC,qgY,Wh,Wg,YB]
  exact qme T i
theorem qs4{T:List Tk}{i:Nat}{t:Tk}{r:List Tk}(h:T.drop i=t::r):qaj (ptC T) (i*5) 5=some [.lit (.int .i64 (kindT t)),.lit (.string (qg8 t)),.lit (.int .i64 t.at_),.lit (.int .i64 (valT t)),.lit (.int .i64 t.bad)]:=by
 unfold qaj
 rw[qme,h]
 simp[ptC,qgY]
section
variable{s:ByteArray}{T:List Tk}{i:Nat}{a c:Int}{t:Tk}{r:List Tk}
theorem qmf(h:T.drop i=t::r):i<T.length:=by
 have:=congrArg List.length h
 rw[W5,Wd] at this
 omega
theorem qbP(h:T.drop i=t::r)(hb:t.bad=0):Z tP (.call 252 [.ptr 0 0] (PS s T i a c))=some (.ret (ptk t) (PS s T i a c)):=by
 have hlt:(i:Int)<T.length:=by have:=qmf h; omega
 have hc:=qs4 h
 have hk : ¬ kindT t=6:=fun e=>by
  unfold kindT at e
  rw[if_neg (by simp[hb])] at e
  revert e
  split<;>(try split)<;>(try split)<;>omega
 refine qaa (pf:=F252) rfl rfl ?_
 simp[F252,qag,hlt,hc,hk,Wa]
end
end
section
open F
attribute [local simp] qbb qbT dkey
def WfQ(T:List Tk):Prop := ∀ i t,T.drop i=[t]->t.bad≠0\/t.s=⟨#[]⟩
section
variable{s:ByteArray}{T:List Tk}{i:Nat}{a c:Int}{t:Tk}{r:List Tk}
theorem WfQ.next(hw:WfQ T)(h:T.drop i=t::r)(hb:t.bad=0)(hs:t.s≠⟨#[]⟩):T.drop (i+1)=r/\r≠[]:=by
 refine⟨by rw[<- List.drop_drop,h]; rfl,?_⟩
 rintro rfl
 rcases hw i t h with h1|h1
 ·exact h1 hb
 ·exact hs h1
theorem qk8(hb:t.bad=0):(kindT t=0)=(t.s=⟨#[]⟩):=by
 have:=qgc t
 apply propext
 constructor
 ·intro h
  rcases this.1 (.inl h) with h1|h1
  ·exact absurd hb h1
  ·have hbl:byl t.s=[]:=WP (by rw[qaW]; exact h1)
   have:=qdz t.s
   rw[hbl] at this
   exact this.symm
 ·intro h
  unfold kindT
  rw[if_neg (by simp[hb]),if_pos h]
theorem qch(h:T.drop i=t::r)(hb:t.bad=0){d:D}{l:List ByteArray}(hd:RowS d l)(hl:l.length<2 ^ 40)(hn:(⟨#[]⟩:ByteArray)∉l):Z tP (.call 269 [.ptr 0 0,.dat d] (PS s T i a c))=some (.ret (.bool (decide (t.s∈l))) (PS s T i a c)):=by
 have zp:=qbP (s:=s) (a:=a) (c:=c) h hb
 have zc:=qnz hd hl t.s
 have ho:=hd.one
 have hcl:=hd.cells
 have ht:=qaQ hb
 have hk:=qk8 hb
 simp only[PS,pO,ptk,ptD,ht] at zp
 refine qaa (pf:=F269) rfl rfl ?_
 by_cases h0:t.s=⟨#[]⟩
 ·have hk0:decide (kindT t=0)=true:=decide_eq_true (hk.mpr h0)
  have hm:t.s∉l:=by rw[h0]; exact hn
  simp[F269,zp,zc,ho,hcl,hk0,hm,Wa]
 ·have hk0:decide (kindT t=0)=false:=decide_eq_false (fun e=>h0 (hk.mp e))
  simp[F269,zp,zc,ho,hcl,hk0,Wa]
theorem qci(h:T.drop i=t::r)(hb:t.bad=0)(hl:T.length<2 ^ 40):Z tP (.call 277 [.ptr 0 0] (PS s T i a c))=some (.ret (ptk t) (PS s T ((i+1:Nat):Int) a c)):=by
 have zp:=qbP (s:=s) (a:=a) (c:=c) h hb
 have hlt:=qmf h
 have w1:=qaf ((i:Int)+1) (by omega)
 simp only[PS,pO,ptk,ptD] at zp
 refine qaa (pf:=F277) rfl rfl ?_
 simp[F277,zp,w1,Wa]
theorem qi5(h:T.drop i=t::r)(hb:t.bad=0)(hl:T.length<2 ^ 40)(hx:t.s≠⟨#[]⟩):Z tP (.call 253 [.ptr 0 0,.str t.s] (PS s T i a c))=some (.ret (.tup []) (PS s T ((i+1:Nat):Int) a c)):=by
 have zi:=qch (s:=s) (a:=a) (c:=c) h hb (qaN [t.s] true) (by simp) (by simp; exact fun e=>hx e.symm)
 have hlt:=qmf h
 have w1:=qaf ((i:Int)+1) (by omega)
 simp only[PS,pO,qbJ,Wu,WB,Wr,Wk,decide_true] at zi
 refine qaa (pf:=F253) rfl rfl ?_
 simp[F253,zi,w1,Wa]
end
end
section
open F
attribute [local simp] qbb qbT dkey
def fnP:Nat->Nat
 |1=>279|2=>287|3=>290|4=>292|5=>297|6=>304|7=>308|_=>309
def clF:Nat->Nat
 |1=>286|2=>289|5=>303|_=>307
def qiR:Nat->List ByteArray
 |1=>[⟨#[124,124]⟩] | 2=>[⟨#[38,38]⟩] | 5=>[⟨#[43]⟩,⟨#[45]⟩] | _=>[⟨#[42]⟩,⟨#[47]⟩]
def qf5(p:Nat):Prop:=p=1\/p=2\/p=5\/p=6
abbrev CS(s:ByteArray)(T:List Tk)(lv:Int)(i a c:Int):S:=[.cells [.ptr 2 0],.cells [.int lv],pO s 3 (.gsl (ptC T) T.length 5 4) i a c,.map kwM,.tip (ptC T).length]
abbrev BS(s:ByteArray)(T:List Tk)(lv:Int)(i a c:Int):S:=[pO s 3 (.gsl (ptC T) T.length 5 4) i a c,.cells [.ptr 0 0],.cells [.int lv],.map kwM,.tip (ptC T).length]
abbrev ndO(e:E):Ob := .cells [.int e.kind,.int e.num,.str e.str,.dat e.kids]
abbrev nd0:Ob := .cells [.int 0,.int 0,.str ⟨#[]⟩,.dat (.lit (.slice none 0 0))]
abbrev BL(s:ByteArray)(T:List Tk)(lv:Int)(i a c:Int)(e:E):S:=[pO s 3 (.gsl (ptC T) T.length 5 4) i a c,.cells [.ptr 0 0],.cells [.int lv],.map kwM,.tip (ptC T).length,nd0,ndO e]
abbrev bqF(g:Nat)(d:D):Fr:=[(0,.ptr 0 0),(1,.fn g [] [.ptr 1 0,.ptr 2 0]),(2,.dat d),(6,.ptr 5 0),(7,.ptr 6 0)]
section
variable{s:ByteArray}{T:List Tk}{i i':Nat}{lv:Int}{t:Tk}{r:List Tk}{p:Nat}
theorem qo6(hp:qf5 p){e:E}(z:Z tP (.call (fnP (p+1)) [.ptr 0 0,.int lv] (PS s T i 0 12))=some (.ret e.node (PS s T i' 0 12))):Z tP (.call (clF p) [.ptr 0 0,.ptr 1 0] (CS s T lv i 0 12))=some (.ret e.node (CS s T lv i' 0 12)):=by
 simp only[PS,pO] at z
 rcases hp with rfl|rfl|rfl|rfl
 ·refine qaa (pf:=F286) rfl rfl ?_
  simp only[fnP] at z
  simp[F286,z,Wa]
 ·refine qaa (pf:=F289) rfl rfl ?_
  simp only[fnP] at z
  simp[F289,z,Wa]
 ·refine qaa (pf:=F303) rfl rfl ?_
  simp only[fnP] at z
  simp[F303,z,Wa]
 ·refine qaa (pf:=F307) rfl rfl ?_
  simp only[fnP] at z
  simp[F307,z,Wa]
theorem qrb{g:Nat}{d:D}{l:List ByteArray}(hd:RowS d l)(hl:l.length<2 ^ 40)(hn:(⟨#[]⟩:ByteArray)∉l)(h:T.drop i=t::r)(hb:t.bad=0)(hm:t.s∉l)(e:E):Z tP (.loop 5 F285l0 (bqF g d) (BL s T lv i 0 12 e))=some (.out (.exit 0) (bqF g d++[(13,.bool false)]) (BL s T lv i 0 12 e)):=by
 have zi:=qch (s:=s) (a:=0) (c:=12) h hb hd hl hn
 have ho:=hd.one
 have hcl:=hd.cells
 simp only[PS,pO,hm,decide_false] at zi
 rw[qac]
 simp[qad,qiH,zi,ho,hcl,Wa]
theorem qo7 {g:Nat} {d:D} {l:List ByteArray} (hd:RowS d l) (hl:l.length<2 ^ 40) (hT:T.length<2 ^ 40) (hn:(⟨#[]⟩:ByteArray)∉l) (h:T.drop i=t::r) (hb:t.bad=0) (hm:t.s∈l) {o:Bop} (ho':t.s=o.str) (e e':E)
  (z:Z tP (.call g [.ptr 0 0,.ptr 1 0] (CS s T lv ((i+1:Nat):Int) 0 12))=some (.ret e'.node (CS s T lv i' 0 12))):Z tP (.loop 5 F285l0 (bqF g d) (BL s T lv i 0 12 e))=Z tP (.loop 5 F285l0 (bqF g d) (BL s T lv i' 0 12 (.bin true o e e'))):=by
 have zi:=qch (s:=s) (a:=0) (c:=12) h hb hd hl hn
 have zt:=qci (s:=s) (a:=0) (c:=12) h hb hT
 have ho:=hd.one
 have hcl:=hd.cells
 have htx:=qaQ hb
 simp only[PS,pO,hm,decide_true] at zi
 simp only[PS,pO,ptk,ptD,htx,ho'] at zt
 simp only[CS,pO] at z
 simp only[WE,Wv] at z zt
 conv=>lhs; rw[qac]
 simp[qad,qiH,zi,zt,z,ho,hcl,qa9,qaq,qcV,qer,qdG,still,V.same,Wa]
 rfl
end
end
section
open F
attribute [local simp] qbb qbT dkey
theorem qu7{p:Nat}(hp:qf5 p){y:ByteArray}{o:Bop}(h:qp6 p y=some o):y=o.str/\y∈qiR p:=by
 have h1:o.str=y:=by have:=List.find?_some h; simpa using this
 have h2:=List.mem_of_find?_eq_some h
 subst h1
 refine⟨rfl,?_⟩
 rcases hp with rfl|rfl|rfl|rfl<;>simp only[Wp,Ws,or_false] at h2
 ·subst h2; decide
 ·subst h2; decide
 ·rcases h2 with rfl|rfl<;>decide
 ·rcases h2 with rfl|rfl<;>decide
theorem qu8{p:Nat}(hp:qf5 p){y:ByteArray}(h:qp6 p y=none):y∉qiR p:=by
 have h2:=YF.1 h
 rcases hp with rfl|rfl|rfl|rfl<;>simp only[Wp,Ws,or_false] at h2
 ·intro hm
  exact h2 .or rfl (by simpa [qiR,Bop.str,eq_comm] using hm)
 ·intro hm
  exact h2 .and rfl (by simpa [qiR,Bop.str,eq_comm] using hm)
 ·intro hm
  simp only[qiR,Wp,Ws,or_false] at hm
  rcases hm with rfl|rfl
  ·exact h2 .add (.inl rfl) (by decide)
  ·exact h2 .sub (.inr rfl) (by decide)
 ·intro hm
  simp only[qiR,Wp,Ws,or_false] at hm
  rcases hm with rfl|rfl
  ·exact h2 .mul (.inl rfl) (by decide)
  ·exact h2 .div (.inr rfl) (by decide)
theorem qsW{p:Nat}(hp:qf5 p):(⟨#[]⟩:ByteArray)∉qiR p/\(qiR p).length<2 ^ 40:=by
 rcases hp with rfl|rfl|rfl|rfl<;>exact⟨by decide,by decide⟩
end
section
open F
attribute [local simp] qbb qbT dkey
section
variable{s:ByteArray}{T:List Tk}{lv i i' i2:Nat}{g:Nat}{d:D}{e e':E}{a c:Int}
theorem qAL (ho:V.one (.dat d)=true) (hc:V.cells (.dat d)=[.dat d])
  (z:Z tP (.call g [.ptr 0 0,.ptr 1 0] (CS s T lv i 0 12))=some (.ret e.node (CS s T lv i' 0 12)))
  (zl:Z tP (.loop 5 F285l0 (bqF g d) (BL s T lv i' 0 12 e))=some (.out (.exit 0) (bqF g d++[(13,.bool false)]) (BL s T lv i2 0 12 e'))) :
  Z tP (.call 285 [.ptr 0 0,.fn g [] [.ptr 1 0,.ptr 2 0],.dat d] (BS s T lv i 0 12))=some (.ret e'.node (BS s T lv i2 0 12)):=by
 simp only[CS,BL,pO,ndO] at z zl
 refine qaa (pf:=F285) rfl rfl ?_
 simp[F285,z,zl,ho,hc,Wa]
theorem qAM {p:Nat} (hp:qf5 p) (z:Z tP (.call 285 [.ptr 0 0,.fn (clF p) [] [.ptr 1 0,.ptr 2 0],.dat (.sl (qbJ (qiR p)) (qiR p).length true)] (BS s T lv i 0 12))=some (.ret e.node (BS s T lv i' 0 12))) :
  Z tP (.call (fnP p) [.ptr 0 0,.int lv] (PS s T i 0 12))=some (.ret e.node (PS s T i' 0 12)):=by
 simp only[BS,pO] at z
 rcases hp with rfl|rfl|rfl|rfl
 ·refine qaa (pf:=F279) rfl rfl ?_
  simp only[clF,qiR,qbJ,Wu,WB,Wd,Wj] at z
  simp[F279,z,Wa]
 ·refine qaa (pf:=F287) rfl rfl ?_
  simp only[clF,qiR,qbJ,Wu,WB,Wd,Wj] at z
  simp[F287,z,Wa]
 ·refine qaa (pf:=F297) rfl rfl ?_
  simp only[clF,qiR,qbJ,Wu,WB,Wd,Wj] at z
  simp[F297,z,Wa]
 ·refine qaa (pf:=F304) rfl rfl ?_
  simp only[clF,qiR,qbJ,Wu,WB,Wd,Wj] at z
  simp[F304,z,Wa]
end
end
section
open F
attribute [local simp] qbb qbT dkey
def qrK:List ByteArray:=[⟨#[60]⟩,⟨#[60,61]⟩,⟨#[62]⟩,⟨#[62,61]⟩,⟨#[61,61]⟩,⟨#[33,61]⟩]
theorem qrL{y:ByteArray}{o:Bop}(h:qp6 4 y=some o):y=o.str/\y∈qrK:=by
 have h1:o.str=y:=by have:=List.find?_some h; simpa using this
 have h2:=List.mem_of_find?_eq_some h
 subst h1
 refine⟨rfl,?_⟩
 simp only[Wp,Ws,or_false] at h2
 rcases h2 with rfl|rfl|rfl|rfl|rfl|rfl<;>decide
theorem qrM{y:ByteArray}(h:qp6 4 y=none):y∉qrK:=by
 have h2:=YF.1 h
 intro hm
 simp only[qrK,Wp,Ws,or_false] at hm
 simp only[Wp,Ws,or_false] at h2
 rcases hm with rfl|rfl|rfl|rfl|rfl|rfl
 ·exact h2 .lt (by simp) (by decide)
 ·exact h2 .le (by simp) (by decide)
 ·exact h2 .gt (by simp) (by decide)
 ·exact h2 .ge (by simp) (by decide)
 ·exact h2 .eq (by simp) (by decide)
 ·exact h2 .ne (by simp) (by decide)
section
variable{s:ByteArray}{T:List Tk}{lv i i' i2:Nat}{e e':E}{a c:Int}{t:Tk}{r:List Tk}
theorem qzi(z:Z tP (.call 297 [.ptr 0 0,.int lv] (PS s T i 0 12))=some (.ret e.node (PS s T i' 0 12)))(h:T.drop i'=t::r)(hb:t.bad=0)(hm:t.s∉qrK):Z tP (.call 292 [.ptr 0 0,.int lv] (PS s T i 0 12))=some (.ret e.node (PS s T i' 0 12)):=by
 have zi:=qch (s:=s) (a:=0) (c:=12) h hb (qaN qrK true) (by decide) (by decide)
 simp only[PS,pO] at z
 simp only[hm,decide_false] at zi
 simp only[PS,pO,qrK,qbJ,Wu,WB,Wd,Wj] at zi
 refine qaa (pf:=F292) rfl rfl ?_
 simp[F292,z,zi,Wa]
theorem qAD (hT:T.length<2 ^ 40) (z:Z tP (.call 297 [.ptr 0 0,.int lv] (PS s T i 0 12))=some (.ret e.node (PS s T i' 0 12))) (h:T.drop i'=t::r) (hb:t.bad=0) (hm:t.s∈qrK) {o:Bop} (hs:t.s=o.str)
  (z2:Z tP (.call 297 [.ptr 0 0,.int lv] (PS s T ((i'+1:Nat):Int) 0 12))=some (.ret e'.node (PS s T i2 0 12))):Z tP (.call 292 [.ptr 0 0,.int lv] (PS s T i 0 12))=some (.ret (E.bin true o e e').node (PS s T i2 0 12)):=by
 have zi:=qch (s:=s) (a:=0) (c:=12) h hb (qaN qrK true) (by decide) (by decide)
 have zt:=qci (s:=s) (a:=0) (c:=12) h hb hT
 have htx:=qaQ hb
 simp only[PS,pO] at z z2
 simp only[hm,decide_true] at zi
 simp only[PS,pO,qrK,qbJ,Wu,WB,Wd,Wj] at zi
 simp only[PS,pO,ptk,ptD,htx,hs] at zt
 simp only[WE,Wv] at z2 zt
 refine qaa (pf:=F292) rfl rfl ?_
 simp[F292,z,zi,zt,z2,qa9,qaq,qcV,qer,qdG,still,V.same,Wa]
 try rfl
end
end
section
open F
attribute [local simp] qbb qbT dkey
def unF(neg:Bool):Nat:=if neg then 308 else 290
def unG(neg:Bool):Nat:=if neg then 309 else 292
section
variable{s:ByteArray}{T:List Tk}{lv i i' i2:Nat}{e e':E}{a c:Int}{t:Tk}{r:List Tk}{neg:Bool}
theorem qzV(h:T.drop i=t::r)(hb:t.bad=0)(hm:t.s≠ustr neg)(z:Z tP (.call (unG neg) [.ptr 0 0,.int lv] (PS s T i 0 12))=some (.ret e.node (PS s T i' 0 12))):Z tP (.call (unF neg) [.ptr 0 0,.int lv] (PS s T i 0 12))=some (.ret e.node (PS s T i' 0 12)):=by
 have zi:=qch (s:=s) (a:=0) (c:=12) h hb (qaN [ustr neg] true) (by simp) (by cases neg<;>decide)
 simp only[Wk,hm,decide_false] at zi
 simp only[PS,pO] at z
 cases neg
 ·simp only[unG,Wm,if_false] at z
  simp only[PS,pO,ustr,qbJ,Wu,WB,Wr,Wm,if_false] at zi
  refine qaa (pf:=F290) rfl rfl ?_
  simp[F290,z,zi,Wa]
 ·simp only[unG,if_true] at z
  simp only[PS,pO,ustr,qbJ,Wu,WB,Wr,if_true] at zi
  refine qaa (pf:=F308) rfl rfl ?_
  simp[F308,z,zi,Wa]
theorem qAB (hlv:lv<=20) (h:T.drop i=t::r) (hb:t.bad=0) (hm:t.s=ustr neg) (zo:Z tP (.call 270 [.ptr 0 0,.str (ustr neg),.int ((lv+1:Nat):Int)] (PS s T i 0 12))=some (.ret (.tup []) (PS s T i' 0 12)))
  (z:Z tP (.call (unF neg) [.ptr 0 0,.int ((lv+1:Nat):Int)] (PS s T i' 0 12))=some (.ret e.node (PS s T i2 0 12))):Z tP (.call (unF neg) [.ptr 0 0,.int lv] (PS s T i 0 12))=some (.ret (E.un true neg e).node (PS s T i2 0 12)):=by
 have zi:=qch (s:=s) (a:=0) (c:=12) h hb (qaN [ustr neg] true) (by simp) (by cases neg<;>decide)
 have w1:=qaf ((lv:Int)+1) (by omega)
 simp only[Wk,hm,decide_true] at zi
 simp only[PS,pO] at zo z
 simp only[WE,Wv] at zo z
 cases neg
 ·simp only[PS,pO,unF,ustr,qbJ,Wu,WB,Wr,Wm,if_false] at zi zo z
  refine qaa (pf:=F290) rfl rfl ?_
  simp[F290,zo,zi,z,w1,Wa]
  rfl
 ·simp only[PS,pO,unF,ustr,qbJ,Wu,WB,Wr,if_true] at zi zo z
  refine qaa (pf:=F308) rfl rfl ?_
  simp[F308,zo,zi,z,w1,Wa]
  rfl
end
end
section
open F
attribute [local simp] qbb qbT dkey
def qgm:ByteArray:=⟨#[116,114,117,101]⟩
def qeA:ByteArray:=⟨#[102,97,108,115,101]⟩
def qlt:List ByteArray:=[⟨#[115,101,108,102]⟩,⟨#[111,116,104,101,114]⟩,⟨#[116,105,99,107]⟩]
section
variable{s:ByteArray}{T:List Tk}{lv i i' i2 i3:Nat}{e e':E}{a c:Int}{t:Tk}{r:List Tk}
theorem qyd(hT:T.length<2 ^ 40)(h:T.drop i=t::r)(hb:t.bad=0)(hk:kindT t=4):Z tP (.call 309 [.ptr 0 0,.int lv] (PS s T i 0 12))=some (.ret (E.int (valT t)).node (PS s T ((i+1:Nat):Int) 0 12)):=by
 have zp:=qbP (s:=s) (a:=0) (c:=12) h hb
 have zt:=qci (s:=s) (a:=0) (c:=12) h hb hT
 simp only[PS,pO,ptk,ptD,hk] at zp zt
 refine qaa (pf:=F309) rfl rfl ?_
 simp[F309,zp,zt,Wa]
 try rfl
theorem qye(hT:T.length<2 ^ 40)(h:T.drop i=t::r)(hb:t.bad=0)(hk:kindT t=1):Z tP (.call 309 [.ptr 0 0,.int lv] (PS s T i 0 12))=some (.ret (E.var t.s).node (PS s T ((i+1:Nat):Int) 0 12)):=by
 have zp:=qbP (s:=s) (a:=0) (c:=12) h hb
 have zt:=qci (s:=s) (a:=0) (c:=12) h hb hT
 simp only[PS,pO,ptk,ptD,hk,qaQ hb] at zp zt
 refine qaa (pf:=F309) rfl rfl ?_
 simp[F309,zp,zt,Wa]
 try rfl
theorem qyf(h:T.drop i=t::r)(hb:t.bad=0)(hk:kindT t=3)(z:Z tP (.call 280 [.ptr 0 0,.int lv] (PS s T i 0 12))=some (.ret e.node (PS s T i' 0 12))):Z tP (.call 309 [.ptr 0 0,.int lv] (PS s T i 0 12))=some (.ret (E.field true t.s e).node (PS s T i' 0 12)):=by
 have zp:=qbP (s:=s) (a:=0) (c:=12) h hb
 simp only[PS,pO,ptk,ptD,hk,qaQ hb] at zp z
 refine qaa (pf:=F309) rfl rfl ?_
 simp[F309,zp,z,qa9,qaq,qcV,qer,qdG,still,V.same,Wa]
 try rfl
theorem qvH(hT:T.length<2 ^ 40)(h:T.drop i=t::r)(hb:t.bad=0)(hk:kindT t=2)(hm:t.s=qgm):Z tP (.call 309 [.ptr 0 0,.int lv] (PS s T i 0 12))=some (.ret (E.bool 1).node (PS s T ((i+1:Nat):Int) 0 12)):=by
 have zp:=qbP (s:=s) (a:=0) (c:=12) h hb
 have zt:=qci (s:=s) (a:=0) (c:=12) h hb hT
 have z1:=qch (s:=s) (a:=0) (c:=12) h hb (qaN [qgm] true) (by simp) (by decide)
 simp only[hm,Wk,decide_true] at z1
 simp only[PS,pO,ptk,ptD,hk] at zp zt
 simp only[PS,pO,qgm,qbJ,Wu,WB,Wr] at z1
 refine qaa (pf:=F309) rfl rfl ?_
 simp[F309,zp,zt,z1,Wa]
 try rfl
theorem qs2(hT:T.length<2 ^ 40)(h:T.drop i=t::r)(hb:t.bad=0)(hk:kindT t=2)(hm:t.s=qeA):Z tP (.call 309 [.ptr 0 0,.int lv] (PS s T i 0 12))=some (.ret (E.bool 0).node (PS s T ((i+1:Nat):Int) 0 12)):=by
 have zp:=qbP (s:=s) (a:=0) (c:=12) h hb
 have zt:=qci (s:=s) (a:=0) (c:=12) h hb hT
 have z1:=qch (s:=s) (a:=0) (c:=12) h hb (qaN [qgm] true) (by simp) (by decide)
 have z2:=qch (s:=s) (a:=0) (c:=12) h hb (qaN [qeA] true) (by simp) (by decide)
 have hne:qeA≠qgm:=by decide
 simp only[hm,Wk,hne,decide_false,decide_true] at z1 z2
 simp only[PS,pO,ptk,ptD,hk] at zp zt
 simp only[PS,pO,qgm,qeA,qbJ,Wu,WB,Wr] at z1 z2
 refine qaa (pf:=F309) rfl rfl ?_
 simp[F309,zp,zt,z1,z2,Wa]
 try rfl
theorem qvI(hT:T.length<2 ^ 40)(h:T.drop i=t::r)(hb:t.bad=0)(hk:kindT t=2)(hm:t.s∈qlt):Z tP (.call 309 [.ptr 0 0,.int lv] (PS s T i 0 12))=some (.ret (E.name t.s).node (PS s T ((i+1:Nat):Int) 0 12)):=by
 have zp:=qbP (s:=s) (a:=0) (c:=12) h hb
 have zt:=qci (s:=s) (a:=0) (c:=12) h hb hT
 have z1:=qch (s:=s) (a:=0) (c:=12) h hb (qaN [qgm] true) (by simp) (by decide)
 have z2:=qch (s:=s) (a:=0) (c:=12) h hb (qaN [qeA] true) (by simp) (by decide)
 have z3:=qch (s:=s) (a:=0) (c:=12) h hb (qaN qlt true) (by decide) (by decide)
 have n1:t.s≠qgm:=fun e=>absurd (e ▸ hm) (by decide)
 have n2:t.s≠qeA:=fun e=>absurd (e ▸ hm) (by decide)
 simp only[hm,Wk,n1,n2,decide_false,decide_true] at z1 z2 z3
 simp only[PS,pO,ptk,ptD,hk,qaQ hb] at zp zt
 simp only[PS,pO,qgm,qeA,qlt,qbJ,Wu,WB,Wd,Wj] at z1 z2 z3
 refine qaa (pf:=F309) rfl rfl ?_
 simp[F309,zp,zt,z1,z2,z3,Wa]
 try rfl
end
end
section
open F
attribute [local simp] qbb qbT dkey
section
variable{s:ByteArray}{T:List Tk}{lv i i' i2 i3:Nat}{e:E}{a c:Int}{t:Tk}{r:List Tk}
theorem qyV (hlv:lv<=20) (h:T.drop i=t::r) (hb:t.bad=0) (h4:decide (kindT t=4)=false) (h1:decide (kindT t=1)=false) (h3:decide (kindT t=3)=false) (n1:t.s≠qgm) (n2:t.s≠qeA) (n3:t.s∉qlt)
  (zo:Z tP (.call 270 [.ptr 0 0,.str ⟨#[40]⟩,.int ((lv+1:Nat):Int)] (PS s T i 0 12))=some (.ret (.tup []) (PS s T i' 0 12)))
  (ze:Z tP (.call 279 [.ptr 0 0,.int ((lv+1:Nat):Int)] (PS s T i' 0 12))=some (.ret e.node (PS s T i2 0 12)))
  (zc:Z tP (.call 253 [.ptr 0 0,.str ⟨#[41]⟩] (PS s T i2 0 12))=some (.ret (.tup []) (PS s T i3 0 12))):Z tP (.call 309 [.ptr 0 0,.int lv] (PS s T i 0 12))=some (.ret e.node (PS s T i3 0 12)):=by
 have w1:=qaf ((lv:Int)+1) (by omega)
 have zp:=qbP (s:=s) (a:=0) (c:=12) h hb
 have z1:=qch (s:=s) (a:=0) (c:=12) h hb (qaN [qgm] true) (by simp) (by decide)
 have z2:=qch (s:=s) (a:=0) (c:=12) h hb (qaN [qeA] true) (by simp) (by decide)
 have z3:=qch (s:=s) (a:=0) (c:=12) h hb (qaN qlt true) (by decide) (by decide)
 simp only[Wk,n1,n2,n3,decide_false] at z1 z2 z3
 simp only[PS,pO,ptk,ptD,qaQ hb] at zp
 simp only[PS,pO,qgm,qeA,qlt,qbJ,Wu,WB,Wd,Wj] at z1 z2 z3
 simp only[PS,pO] at zo ze zc
 simp only[WE,Wv] at zo ze
 refine qaa (pf:=F309) rfl rfl ?_
 simp[F309,zp,z1,z2,z3,h4,h1,h3,w1,zo,ze,zc,qa8,Wa]
theorem qyW (hlv:lv<=20) (hT:T.length<2 ^ 40) (h:T.drop i=t::r) (hb:t.bad=0)
  (zo:Z tP (.call 270 [.ptr 0 0,.str ⟨#[91]⟩,.int ((lv+1:Nat):Int)] (PS s T ((i+1:Nat):Int) 0 12))=some (.ret (.tup []) (PS s T i' 0 12)))
  (ze:Z tP (.call 279 [.ptr 0 0,.int ((lv+1:Nat):Int)] (PS s T i' 0 12))=some (.ret e.node (PS s T i2 0 12)))
  (zc:Z tP (.call 253 [.ptr 0 0,.str ⟨#[93]⟩] (PS s T i2 0 12))=some (.ret (.tup []) (PS s T i3 0 12))):Z tP (.call 280 [.ptr 0 0,.int lv] (PS s T i 0 12))=some (.ret e.node (PS s T i3 0 12)):=by
 have w1:=qaf ((lv:Int)+1) (by omega)
 have zt:=qci (s:=s) (a:=0) (c:=12) h hb hT
 simp only[PS,pO,ptk,ptD] at zt
 simp only[WE,Wv] at zt
 simp only[PS,pO] at zo ze zc
 simp only[WE,Wv] at zo ze
 refine qaa (pf:=F280) rfl rfl ?_
 simp[F280,zt,w1,zo,ze,zc,qa8,Wa]
end
end
section
open F
def qjB(w:ByteArray):Int:=if w=⟨#[]⟩ then 0 else if qaJ qa7 w then (if w∈fieldNames then 3 else if w∈wordNames then 2 else 1) else if qaJ qau w then 4 else 5
theorem qcC{t:Tk}(hb:t.bad=0):kindT t=qjB t.s:=by unfold kindT qjB; rw[if_neg (by simp[hb])]
theorem qoz(w:ByteArray):qaJ qau w=true->w≠⟨#[]⟩/\qaJ qa7 w=false:=by
 rw[qbr,qbr]
 intro h
 refine⟨?_,?_⟩
 ·rintro rfl
  exact absurd h (by decide)
 ·cases hh:(byl w).head? with
  |none=>rfl
  |some c=>
   rw[hh] at h
   simp only at h ⊢
   by_cases hl:qa7 c=true
   ·rw[qor hl] at h; cases h
   ·simpa using hl
theorem qfW{w:ByteArray}(h:qaJ qa7 w=true):w≠⟨#[]⟩:=by
 rintro rfl
 exact absurd h (by decide)
end
section
open F
attribute [local simp] qbb qbT dkey
def ifT:ByteArray:=⟨#[105,102]⟩
def qfj:ByteArray:=⟨#[119,104,105,108,101]⟩
def qey:ByteArray:=⟨#[101,102,102,101,99,116]⟩
def qnc:ByteArray:=⟨#[115,116,111,112]⟩
abbrev nv(k:Int)(x:ByteArray)(d:D):V := .dat (.agg [.lit (.int .i64 k),.lit (.int .i64 0),.lit (.string x),d])
abbrev cE(e:E):List D:=[.lit (.int .i64 e.kind),.lit (.int .i64 e.num),.lit (.string e.str),e.kids]
section
variable{s:ByteArray}{T:List Tk}{lv i i1 i2 i3 i4:Nat}{e e':E}{a c:Int}{t:Tk}{r:List Tk}{d:D}
theorem qyb{k:Int}{x:ByteArray}(o:V.one (.dat d)=true)(oc:V.cells (.dat d)=[.dat d])(z:Z tP (.call 253 [.ptr 0 0,.str ⟨#[59]⟩] (PS s T i 0 12))=some (.ret (.tup []) (PS s T i1 0 12))):Z tP (.call 278 [.ptr 0 0,nv k x d] (PS s T i 0 12))=some (.ret (nv k x d) (PS s T i1 0 12)):=by
 simp only[PS,pO] at z
 refine qaa (pf:=F278) rfl rfl ?_
 simp[F278,z,o,oc,Wa]
theorem qlr (hlv:lv<=20) (hT:T.length<2 ^ 40) (h:T.drop i=t::r) (hb:t.bad=0) (hk:kindT t=1)
  (z1:Z tP (.call 253 [.ptr 0 0,.str ⟨#[61]⟩] (PS s T ((i+1:Nat):Int) 0 12))=some (.ret (.tup []) (PS s T i1 0 12)))
  (z2:Z tP (.call 279 [.ptr 0 0,.int lv] (PS s T i1 0 12))=some (.ret (e).node (PS s T i2 0 12)))
  (z3:Z tP (.call 278 [.ptr 0 0,nv 1 t.s (.sl (cE e) 1 true)] (PS s T i2 0 12))=some (.ret (nv 1 t.s (.sl (cE e) 1 true)) (PS s T i3 0 12))):Z tP (.call 271 [.ptr 0 0,.int lv] (PS s T i 0 12))=some (.ret (nv 1 t.s (.sl (cE e) 1 true)) (PS s T i3 0 12)):=by
 have w1:=qaf ((lv:Int)+1) (by omega)
 have zp:=qbP (s:=s) (a:=0) (c:=12) h hb
 have zt:=qci (s:=s) (a:=0) (c:=12) h hb hT
 simp only[PS,pO,ptk,ptD,hk,qaQ hb] at zp zt
 simp only[PS,pO,cE,nv,Wh,Wg] at z1 z2 z3
 try simp only[WE,Wv] at zt z1 z2 z3
 refine qaa (pf:=F271) rfl rfl ?_
 simp[F271,zp,zt,w1,z1,z2,z3,qa8,qbp,qa9,qaq,qcV,qer,qdG,still,V.same,Wa]
theorem qnd (hlv:lv<=20) (hT:T.length<2 ^ 40) (h:T.drop i=t::r) (hb:t.bad=0) (hk:kindT t=3)
  (z1:Z tP (.call 280 [.ptr 0 0,.int lv] (PS s T i 0 12))=some (.ret e.node (PS s T i1 0 12)))
  (z2:Z tP (.call 253 [.ptr 0 0,.str ⟨#[61]⟩] (PS s T i1 0 12))=some (.ret (.tup []) (PS s T i2 0 12)))
  (z3:Z tP (.call 279 [.ptr 0 0,.int lv] (PS s T i2 0 12))=some (.ret (e').node (PS s T i3 0 12)))
  (z4:Z tP (.call 278 [.ptr 0 0,nv 2 t.s (.sl (cE e++cE e') 2 true)] (PS s T i3 0 12))=some (.ret (nv 2 t.s (.sl (cE e++cE e') 2 true)) (PS s T i4 0 12))):Z tP (.call 271 [.ptr 0 0,.int lv] (PS s T i 0 12))=some (.ret (nv 2 t.s (.sl (cE e++cE e') 2 true)) (PS s T i4 0 12)):=by
 have w1:=qaf ((lv:Int)+1) (by omega)
 have zp:=qbP (s:=s) (a:=0) (c:=12) h hb
 have zt:=qci (s:=s) (a:=0) (c:=12) h hb hT
 simp only[PS,pO,ptk,ptD,hk,qaQ hb] at zp zt
 simp only[PS,pO,cE,nv,Wh,Wg] at z1 z2 z3 z4
 try simp only[WE,Wv] at zt z1 z2 z3 z4
 refine qaa (pf:=F271) rfl rfl ?_
 simp[F271,zp,zt,w1,z1,z2,z3,z4,qa8,qbp,qa9,qaq,qcV,qer,qdG,still,V.same,Wa]
theorem qof (hlv:lv<=20) (hT:T.length<2 ^ 40) (h:T.drop i=t::r) (hb:t.bad=0) (h1:decide (kindT t=1)=false) (h3:decide (kindT t=3)=false) (hm:t.s=ifT) (od:V.one (.dat d)=true) (oc:V.cells (.dat d)=[.dat d])
  (z1:Z tP (.call 281 [.ptr 0 0,.int lv] (PS s T i 0 12))=some (.ret (nv 3 ⟨#[]⟩ d) (PS s T i1 0 12))):Z tP (.call 271 [.ptr 0 0,.int lv] (PS s T i 0 12))=some (.ret (nv 3 ⟨#[]⟩ d) (PS s T i1 0 12)):=by
 have w1:=qaf ((lv:Int)+1) (by omega)
 have zp:=qbP (s:=s) (a:=0) (c:=12) h hb
 have zt:=qci (s:=s) (a:=0) (c:=12) h hb hT
 simp only[PS,pO,ptk,ptD,qaQ hb] at zp zt
 have y0:=qch (s:=s) (a:=0) (c:=12) h hb (qaN [ifT] true) (by simp) (by decide)
 simp only[hm,Wk,decide_true] at y0
 simp only[PS,pO,ifT,qbJ,Wu,WB,Wr] at y0
 simp only[PS,pO,cE,nv,Wh,Wg] at z1
 try simp only[WE,Wv] at zt z1
 refine qaa (pf:=F271) rfl rfl ?_
 simp[F271,zp,zt,w1,h1,h3,y0,od,oc,z1,qa8,qbp,qa9,qaq,qcV,qer,qdG,still,V.same,Wa]
theorem qne (hlv:lv<=20) (hT:T.length<2 ^ 40) (h:T.drop i=t::r) (hb:t.bad=0) (h1:decide (kindT t=1)=false) (h3:decide (kindT t=3)=false) (hm:t.s=qfj) (od:V.one (.dat d)=true) (oc:V.cells (.dat d)=[.dat d])
  (z1:Z tP (.call 279 [.ptr 0 0,.int lv] (PS s T ((i+1:Nat):Int) 0 12))=some (.ret (e).node (PS s T i1 0 12)))
  (z2:Z tP (.call 256 [.ptr 0 0,.int ((lv+1:Nat):Int)] (PS s T i1 0 12))=some (.ret (nv 7 ⟨#[]⟩ d) (PS s T i2 0 12))):Z tP (.call 271 [.ptr 0 0,.int lv] (PS s T i 0 12))=some (.ret (nv 4 ⟨#[]⟩ (.sl (cE e++[.lit (.int .i64 7),.lit (.int .i64 0),.lit (.string ⟨#[]⟩),d]) 2 true)) (PS s T i2 0 12)):=by
 have w1:=qaf ((lv:Int)+1) (by omega)
 have zp:=qbP (s:=s) (a:=0) (c:=12) h hb
 have zt:=qci (s:=s) (a:=0) (c:=12) h hb hT
 simp only[PS,pO,ptk,ptD,qaQ hb] at zp zt
 have y0:=qch (s:=s) (a:=0) (c:=12) h hb (qaN [ifT] true) (by simp) (by decide)
 have q0:qfj≠ifT:=by decide
 simp only[hm,Wk,q0,decide_false] at y0
 simp only[PS,pO,ifT,qbJ,Wu,WB,Wr] at y0
 have y1:=qch (s:=s) (a:=0) (c:=12) h hb (qaN [qfj] true) (by simp) (by decide)
 simp only[hm,Wk,decide_true] at y1
 simp only[PS,pO,qfj,qbJ,Wu,WB,Wr] at y1
 simp only[PS,pO,cE,nv,Wh,Wg] at z1 z2
 try simp only[WE,Wv] at zt z1 z2
 refine qaa (pf:=F271) rfl rfl ?_
 simp[F271,zp,zt,w1,h1,h3,y0,y1,od,oc,z1,z2,qa8,qbp,qa9,qaq,qcV,qer,qdG,still,V.same,Wa]
theorem qls (hlv:lv<=20) (hT:T.length<2 ^ 40) (h:T.drop i=t::r) (hb:t.bad=0) (h1:decide (kindT t=1)=false) (h3:decide (kindT t=3)=false) (hm:t.s=qey)
  (z1:Z tP (.call 279 [.ptr 0 0,.int lv] (PS s T ((i+1:Nat):Int) 0 12))=some (.ret (e).node (PS s T i1 0 12)))
  (z2:Z tP (.call 253 [.ptr 0 0,.str ⟨#[44]⟩] (PS s T i1 0 12))=some (.ret (.tup []) (PS s T i2 0 12)))
  (z3:Z tP (.call 279 [.ptr 0 0,.int lv] (PS s T i2 0 12))=some (.ret (e').node (PS s T i3 0 12)))
  (z4:Z tP (.call 278 [.ptr 0 0,nv 5 ⟨#[]⟩ (.sl (cE e++cE e') 2 true)] (PS s T i3 0 12))=some (.ret (nv 5 ⟨#[]⟩ (.sl (cE e++cE e') 2 true)) (PS s T i4 0 12))):Z tP (.call 271 [.ptr 0 0,.int lv] (PS s T i 0 12))=some (.ret (nv 5 ⟨#[]⟩ (.sl (cE e++cE e') 2 true)) (PS s T i4 0 12)):=by
 have w1:=qaf ((lv:Int)+1) (by omega)
 have zp:=qbP (s:=s) (a:=0) (c:=12) h hb
 have zt:=qci (s:=s) (a:=0) (c:=12) h hb hT
 simp only[PS,pO,ptk,ptD,qaQ hb] at zp zt
 have y0:=qch (s:=s) (a:=0) (c:=12) h hb (qaN [ifT] true) (by simp) (by decide)
 have q0:qey≠ifT:=by decide
 simp only[hm,Wk,q0,decide_false] at y0
 simp only[PS,pO,ifT,qbJ,Wu,WB,Wr] at y0
 have y1:=qch (s:=s) (a:=0) (c:=12) h hb (qaN [qfj] true) (by simp) (by decide)
 have q1:qey≠qfj:=by decide
 simp only[hm,Wk,q1,decide_false] at y1
 simp only[PS,pO,qfj,qbJ,Wu,WB,Wr] at y1
 have y2:=qch (s:=s) (a:=0) (c:=12) h hb (qaN [qey] true) (by simp) (by decide)
 simp only[hm,Wk,decide_true] at y2
 simp only[PS,pO,qey,qbJ,Wu,WB,Wr] at y2
 simp only[PS,pO,cE,nv,Wh,Wg] at z1 z2 z3 z4
 try simp only[WE,Wv] at zt z1 z2 z3 z4
 refine qaa (pf:=F271) rfl rfl ?_
 simp[F271,zp,zt,w1,h1,h3,y0,y1,y2,z1,z2,z3,z4,qa8,qbp,qa9,qaq,qcV,qer,qdG,still,V.same,Wa]
theorem qog (hlv:lv<=20) (hT:T.length<2 ^ 40) (h:T.drop i=t::r) (hb:t.bad=0) (h1:decide (kindT t=1)=false) (h3:decide (kindT t=3)=false) (hm:t.s=qnc)
  (z1:Z tP (.call 278 [.ptr 0 0,nv 6 ⟨#[]⟩ (.lit (.slice none 0 0))] (PS s T ((i+1:Nat):Int) 0 12))=some (.ret (nv 6 ⟨#[]⟩ (.lit (.slice none 0 0))) (PS s T i1 0 12))):Z tP (.call 271 [.ptr 0 0,.int lv] (PS s T i 0 12))=some (.ret (nv 6 ⟨#[]⟩ (.lit (.slice none 0 0))) (PS s T i1 0 12)):=by
 have w1:=qaf ((lv:Int)+1) (by omega)
 have zp:=qbP (s:=s) (a:=0) (c:=12) h hb
 have zt:=qci (s:=s) (a:=0) (c:=12) h hb hT
 simp only[PS,pO,ptk,ptD,qaQ hb] at zp zt
 have y0:=qch (s:=s) (a:=0) (c:=12) h hb (qaN [ifT] true) (by simp) (by decide)
 have q0:qnc≠ifT:=by decide
 simp only[hm,Wk,q0,decide_false] at y0
 simp only[PS,pO,ifT,qbJ,Wu,WB,Wr] at y0
 have y1:=qch (s:=s) (a:=0) (c:=12) h hb (qaN [qfj] true) (by simp) (by decide)
 have q1:qnc≠qfj:=by decide
 simp only[hm,Wk,q1,decide_false] at y1
 simp only[PS,pO,qfj,qbJ,Wu,WB,Wr] at y1
 have y2:=qch (s:=s) (a:=0) (c:=12) h hb (qaN [qey] true) (by simp) (by decide)
 have q2:qnc≠qey:=by decide
 simp only[hm,Wk,q2,decide_false] at y2
 simp only[PS,pO,qey,qbJ,Wu,WB,Wr] at y2
 have y3:=qch (s:=s) (a:=0) (c:=12) h hb (qaN [qnc] true) (by simp) (by decide)
 simp only[hm,Wk,decide_true] at y3
 simp only[PS,pO,qnc,qbJ,Wu,WB,Wr] at y3
 simp only[PS,pO,cE,nv,Wh,Wg] at z1
 try simp only[WE,Wv] at zt z1
 refine qaa (pf:=F271) rfl rfl ?_
 simp[F271,zp,zt,w1,h1,h3,y0,y1,y2,y3,z1,qa8,qbp,qa9,qaq,qcV,qer,qdG,still,V.same,Wa]
end
end
section
open F
attribute [local simp] qbb qbT dkey
def qnE:ByteArray:=⟨#[101,108,115,101]⟩
abbrev cB(d:D):List D:=[.lit (.int .i64 7),.lit (.int .i64 0),.lit (.string ⟨#[]⟩),d]
section
variable{s:ByteArray}{T:List Tk}{lv i i1 i2 i3 i4:Nat}{e:E}{a c:Int}{t:Tk}{r:List Tk}{d d':D}
theorem qyX (hlv:lv<=20) (od:V.one (.dat d)=true) (oc:V.cells (.dat d)=[.dat d])
  (z1:Z tP (.call 253 [.ptr 0 0,.str ifT] (PS s T i 0 12))=some (.ret (.tup []) (PS s T i1 0 12)))
  (z2:Z tP (.call 279 [.ptr 0 0,.int lv] (PS s T i1 0 12))=some (.ret e.node (PS s T i2 0 12)))
  (z3:Z tP (.call 256 [.ptr 0 0,.int ((lv+1:Nat):Int)] (PS s T i2 0 12))=some (.ret (nv 7 ⟨#[]⟩ d) (PS s T i3 0 12))) (h:T.drop i3=t::r) (hb:t.bad=0) (hm:t.s≠qnE):Z tP (.call 281 [.ptr 0 0,.int lv] (PS s T i 0 12))=some (.ret (nv 3 ⟨#[]⟩ (.sl (cE e++cB d++cB (.lit (.slice none 0 0))) 3 true)) (PS s T i3 0 12)):=by
 have w1:=qaf ((lv:Int)+1) (by omega)
 simp only[PS,pO,nv,ifT] at z1 z2 z3
 try simp only[WE,Wv] at z1 z2 z3
 have y:=qch (s:=s) (a:=0) (c:=12) h hb (qaN [qnE] true) (by simp) (by decide)
 simp only[Wk,hm,decide_false] at y
 simp only[PS,pO,qnE,qbJ,Wu,WB,Wr] at y
 refine qaa (pf:=F281) rfl rfl ?_
 simp[F281,w1,z1,z2,z3,y,od,oc,qa8,Wa]
theorem qyY (hlv:lv<=20) (od:V.one (.dat d)=true) (oc:V.cells (.dat d)=[.dat d])
  (z1:Z tP (.call 253 [.ptr 0 0,.str ifT] (PS s T i 0 12))=some (.ret (.tup []) (PS s T i1 0 12)))
  (z2:Z tP (.call 279 [.ptr 0 0,.int lv] (PS s T i1 0 12))=some (.ret e.node (PS s T i2 0 12)))
  (z3:Z tP (.call 256 [.ptr 0 0,.int ((lv+1:Nat):Int)] (PS s T i2 0 12))=some (.ret (nv 7 ⟨#[]⟩ d) (PS s T i3 0 12))) (od':V.one (.dat d')=true) (oc':V.cells (.dat d')=[.dat d']) (hT:T.length<2 ^ 40) (h:T.drop i3=t::r) (hb:t.bad=0) (hm:t.s=qnE)
  (z4:Z tP (.call 256 [.ptr 0 0,.int ((lv+1:Nat):Int)] (PS s T ((i3+1:Nat):Int) 0 12))=some (.ret (nv 7 ⟨#[]⟩ d') (PS s T i4 0 12))):Z tP (.call 281 [.ptr 0 0,.int lv] (PS s T i 0 12))=some (.ret (nv 3 ⟨#[]⟩ (.sl (cE e++cB d++cB d') 3 true)) (PS s T i4 0 12)):=by
 have w1:=qaf ((lv:Int)+1) (by omega)
 simp only[PS,pO,nv,ifT] at z1 z2 z3
 try simp only[WE,Wv] at z1 z2 z3
 have y:=qch (s:=s) (a:=0) (c:=12) h hb (qaN [qnE] true) (by simp) (by decide)
 simp only[Wk,hm,decide_true] at y
 simp only[PS,pO,qnE,qbJ,Wu,WB,Wr] at y
 have zt:=qci (s:=s) (a:=0) (c:=12) h hb hT
 simp only[PS,pO,ptk,ptD] at zt
 simp only[PS,pO,nv] at z4
 simp only[WE,Wv] at zt z4
 refine qaa (pf:=F281) rfl rfl ?_
 simp[F281,w1,z1,z2,z3,y,zt,z4,od',oc',od,oc,qa8,Wa]
end
end
section
open F
attribute [local simp] qbb qbT dkey
def qvt(v:V)(σt:S)(cs:List D)(n:Nat):Prop:=(n=0/\cs=[]/\v = .dat (.lit (.slice none 0 0)) /\ σt=[])\/(n≠0/\cs.length=n*4/\v = .gsl cs n 4 5 /\ σt=[.tip cs.length])
abbrev bzF(lv:Nat):Fr:=[(0,.ptr 0 0),(1,.int lv),(4,.ptr 3 0),(5,.ptr 4 0)]
abbrev bzS(s:ByteArray)(T:List Tk)(i a c:Int)(v:V)(σt:S):S:=PS s T i a c++(nd0 :: .cells [.int 7,.int 0,.str ⟨#[]⟩,v] :: σt)
def qru:ByteArray:=⟨#[125]⟩
section
variable{s:ByteArray}{T:List Tk}{lv i i' i1 i2:Nat}{a c:Int}{t:Tk}{r:List Tk}{d:D}{v:V}{σt:S}{cs:List D}{n:Nat}
theorem qw3(h:T.drop i=t::r)(hb:t.bad=0)(hm:t.s=qru)(hr:qvt v σt cs n):Z tP (.loop 3 F256l0 (bzF lv) (bzS s T i 0 12 v σt))=some (.out (.exit 0) (bzF lv++[(13,.bool false)]) (bzS s T i 0 12 v σt)):=by
 have y:=qch (s:=s) (a:=0) (c:=12) h hb (qaN [qru] true) (by simp) (by decide)
 simp only[Wk,hm,decide_true] at y
 simp only[PS,pO,qru,qbJ,Wu,WB,Wr] at y
 rw[qac]
 rcases hr with ⟨rfl,rfl,rfl,rfl⟩|⟨h0,h1,rfl,rfl⟩<;>simp[qad,qgo,y,Wa]
theorem qrv (h:T.drop i=t::r) (hb:t.bad=0) (hm:t.s≠qru) (hr:qvt v σt cs n) (hn:n<=2 ^ 40) {k:Int} {x:ByteArray} (od:V.one (.dat d)=true) (oc:V.cells (.dat d)=[.dat d])
  (z:Z tP (.call 271 [.ptr 0 0,.int lv] (PS s T i 0 12))=some (.ret (nv k x d) (PS s T i' 0 12))) :
  ∃ v' σt',qvt v' σt' (cs++[.lit (.int .i64 k),.lit (.int .i64 0),.lit (.string x),d]) (n+1)/\Z tP (.loop 3 F256l0 (bzF lv) (bzS s T i 0 12 v σt))=Z tP (.loop 3 F256l0 (bzF lv) (bzS s T i' 0 12 v' σt')):=by
 have y:=qch (s:=s) (a:=0) (c:=12) h hb (qaN [qru] true) (by simp) (by decide)
 have hroom:qaC (n+1) 56=true:=by simp only[qaC,decide_eq_true_eq]; omega
 simp only[Wk,hm,decide_false] at y
 simp only[PS,pO,qru,qbJ,Wu,WB,Wr] at y
 simp only[PS,pO,nv] at z
 refine⟨.gsl (cs++[.lit (.int .i64 k),.lit (.int .i64 0),.lit (.string x),d]) (n+1) 4 5,[.tip (cs++[.lit (.int .i64 k),.lit (.int .i64 0),.lit (.string x),d]).length],.inr ⟨by omega,?_,rfl,rfl⟩,?_⟩
 ·rcases hr with ⟨rfl,rfl,_,_⟩|⟨_,h1,_,_⟩
  ·simp
  ·simp[h1]; omega
 ·conv=>lhs; rw[qac]
  rcases hr with ⟨rfl,rfl,rfl,rfl⟩|⟨h0,h1,rfl,rfl⟩
  ·have hr1:qaC 1 56=true:=by decide
   simp[qad,qgo,y,z,od,oc,hr1,qbQ,qkw,qa9,qaq,qcV,qer,qdG,still,V.same,Wa]
   try exact qal (by simp[Wa])
  ·simp[qad,qgo,y,z,od,oc,hroom,h0,h1,qbQ,qkw,qa9,qaq,qcV,qer,qdG,still,V.same,Wa]
   try exact qal (by simp[Wa])
theorem qzc (hT:T.length<2 ^ 40) (zo:Z tP (.call 270 [.ptr 0 0,.str ⟨#[123]⟩,.int lv] (PS s T i 0 12))=some (.ret (.tup []) (PS s T i1 0 12))) (hr:qvt v σt cs n)
  (zl:Z tP (.loop 3 F256l0 (bzF lv) (bzS s T i1 0 12 (.dat (.lit (.slice none 0 0))) []))=some (.out (.exit 0) (bzF lv++[(13,.bool false)]) (bzS s T i2 0 12 v σt)))
  (h:T.drop i2=t::r) (hb:t.bad=0) (hm:t.s=qru):Z tP (.call 256 [.ptr 0 0,.int lv] (PS s T i 0 12))=some (.ret (nv 7 ⟨#[]⟩ (kd false n cs)) (PS s T ((i2+1:Nat):Int) 0 12)):=by
 have zx:=qi5 (s:=s) (a:=0) (c:=12) h hb hT (by rw[hm]; decide)
 rw[hm] at zx
 simp only[PS,pO,qru,WE,Wv] at zx
 simp only[PS,pO,bzS,Wh,Wg] at zo zl
 refine qaa (pf:=F256) rfl rfl ?_
 rcases hr with ⟨rfl,rfl,rfl,rfl⟩|⟨h0,h1,rfl,rfl⟩
 ·simp[F256,zo,zl,zx,Wa]
 ·obtain⟨m,rfl⟩ : ∃ m,n=m+1:=⟨n-1,by omega⟩
  simp[F256,zo,zl,zx,Wa]
end
end
section
open F
attribute [local simp] qbb qbT dkey
section
variable{s:ByteArray}{T:List Tk}{i:Nat}{t:Tk}{r:List Tk}{a c:Int}
theorem qnX{k:Nat}(h:T.drop i=t::r)(hb:t.bad=0)(hk:qe6 t.s=some k):Z tP (.call 254 [.ptr 0 0] (PS s T i 0 12))=some (.ret (.int k) (PS s T i 0 12)):=by
 have zp:=qbP (s:=s) (a:=0) (c:=12) h hb
 simp only[PS,pO,ptk,ptD,qaQ hb] at zp
 generalize t.s=w at zp hk
 unfold qe6 at hk
 by_cases h1:w=bs [97,99,116]
 ·subst h1
  simp only[if_true,We] at hk
  subst hk
  simp only[bs] at zp
  refine qaa (pf:=F254) rfl rfl ?_
  simp[F254,zp,qaF,Wa]
 rw[if_neg h1] at hk
 by_cases h2:w=bs [116,105,99,107]
 ·subst h2
  simp only[if_true,We] at hk
  subst hk
  simp only[bs] at zp
  refine qaa (pf:=F254) rfl rfl ?_
  simp[F254,zp,qaF,Wa]
 rw[if_neg h2] at hk
 by_cases h3:w=qrU
 ·subst h3
  simp only[if_true,We] at hk
  subst hk
  simp only[qrU] at zp
  refine qaa (pf:=F254) rfl rfl ?_
  simp[F254,zp,qaF,Wa]
 ·rw[if_neg h3] at hk; cases hk
theorem qld{w:ByteArray}{k:Nat}(h:qe6 w=some k):k=0\/k=1\/k=2:=by
 unfold qe6 at h
 split at h
 ·cases h; omega
 split at h
 ·cases h; omega
 split at h
 ·cases h; omega
 ·cases h
end
end
section
open F
attribute [local simp] qbb qbT dkey
abbrev pgF:Fr:=[(0,.ptr 0 0),(2,.ptr 3 0),(3,.ptr 4 0)]
abbrev pgS(s:ByteArray)(T:List Tk)(i a c:Int)(q:Nat->N4):S:=PS s T i a c++[qvm,rob q]
section
variable{s:ByteArray}{T:List Tk}{i i' i2:Nat}{t:Tk}{r:List Tk}{a c:Int}{q:Nat->N4}
theorem qwm(h:T.drop i=t::r)(hb:t.bad=0)(hs:t.s=⟨#[]⟩):Z tP (.loop 3 F242l0 pgF (pgS s T i 0 12 q))=some (.out (.exit 0) (pgF++[(8,.bool false)]) (pgS s T i 0 12 q)):=by
 have zp:=qbP (s:=s) (a:=0) (c:=12) h hb
 have hk:kindT t=0:=by rw[qcC hb,qjB,if_pos hs]
 have k0:=(q 0).one
 have k1:=(q 1).one
 have k2:=(q 2).one
 have c0:=(q 0).cl
 have c1:=(q 1).cl
 have c2:=(q 2).cl
 simp only[PS,pO,ptk,ptD,hk] at zp
 rw[qac]
 simp[qad,qiG,zp,k0,k1,k2,c0,c1,c2,Wa]
theorem qyL {t2:Tk} {r2:List Tk} {k:Nat} {d:D} (hT:T.length<2 ^ 40) (h:T.drop i=t::r) (hb:t.bad=0) (hs:t.s≠⟨#[]⟩) (z:Z tP (.call 253 [.ptr 0 0,.str ⟨#[111,110]⟩] (PS s T i 0 12))=some (.ret (.tup []) (PS s T i' 0 12)))
  (h2:T.drop i'=t2::r2) (hb2:t2.bad=0) (hh:qe6 t2.s=some k) (hq:decide ((q k).k=0)=true) (od:V.one (.dat d)=true) (oc:V.cells (.dat d)=[.dat d]) (zb:Z tP (.call 256 [.ptr 0 0,.int 1] (PS s T ((i'+1:Nat):Int) 0 12))=some (.ret (nv 7 ⟨#[]⟩ d) (PS s T i2 0 12))):Z tP (.loop 3 F242l0 pgF (pgS s T i 0 12 q))=Z tP (.loop 3 F242l0 pgF (pgS s T i2 0 12 (qxK q k ⟨7,0,⟨#[]⟩,d,od,oc⟩))):=by
 have zp:=qbP (s:=s) (a:=0) (c:=12) h hb
 have zh:=qnX (s:=s) h2 hb2 hh
 have hlt:=qmf h2
 have w1:=qaf ((i':Int)+1) (by omega)
 have hk:decide (kindT t=0)=false:=decide_eq_false (fun e=>hs ((qk8 hb).mp e))
 simp only[PS,pO,ptk,ptD] at zp z zh
 simp only[PS,pO,nv] at zb
 simp only[WE,Wv] at zb
 have k0:=(q 0).one
 have k1:=(q 1).one
 have k2:=(q 2).one
 have c0:=(q 0).cl
 have c1:=(q 1).cl
 have c2:=(q 2).cl
 conv=>lhs; rw[qac]
 rcases qld hh with rfl|rfl|rfl<;>simp[qad,qiG,zp,z,zh,zb,od,oc,w1,hk,hq,k0,k1,k2,c0,c1,c2,qxK,Wa]<;>rfl
end
end
section
open F
attribute [local simp] qbb qbT dkey
section
variable{s:ByteArray}{T:List Tk}{i':Nat}{q:Nat->N4}{a c:Int}
theorem qnx(z:Z tP (.loop 3 F242l0 pgF (pgS s T 0 0 12 fun k=>qkp none))=some (.out (.exit 0) (pgF++[(8,.bool false)]) (pgS s T i' 0 12 q))):Z tP (.call 242 [.ptr 0 0] (PS s T 0 0 12))=some (.ret (qvu q) (PS s T i' 0 12)):=by
 have k0:=(q 0).one
 have k1:=(q 1).one
 have k2:=(q 2).one
 have c0:=(q 0).cl
 have c1:=(q 1).cl
 have c2:=(q 2).cl
 simp only[pgS,PS,pO,rob,qkp,Wh,Wg] at z
 refine qaa (pf:=F242) rfl rfl ?_
 simp[F242,z,k0,k1,k2,c0,c1,c2,Wa]
end
end
section
open F
attribute [local simp] qbb qbT dkey
section
variable{s:ByteArray}{T:List Tk}{i':Nat}{q:Nat->N4}{a c:Int}
abbrev dS(s:ByteArray)(T:List Tk)(q:Nat->N4)(x y:Int)(i a c:Int):S:=[.cells [.ptr 4 0],rob q,.cells [.int x],.cells [.int y],pO s 5 (.gsl (ptC T) T.length 5 6) i a c,.map kwM,.tip (ptC T).length]
theorem qpx{x y i a c:Int}:Z tP (.dcall 240 [.dat (.lit .nilIface),.ptr 0 0,.ptr 1 0,.ptr 2 0,.ptr 3 0] (dS s T q x y i a c))=some (.ret (.dat (.lit undef)) (dS s T q x y i a c)):=by
 have k0:=(q 0).one
 have k1:=(q 1).one
 have k2:=(q 2).one
 have c0:=(q 0).cl
 have c1:=(q 1).cl
 have c2:=(q 2).cl
 refine qob (pf:=F240) rfl ?_
 have hfl:F240.body.flat=true:=rfl
 simp only[qaV]
 rw[if_pos ⟨rfl,rfl,rfl,hfl,.inl rfl⟩]
 simp[F240,qfN,k0,k1,k2,c0,c1,c2,Wa]
theorem qrP (h : ¬ (2000:Int)<s.size) (zt:Z tP (.call 249 [.yld 0,.ptr 1 0] (TT0 s))=some (.ret (.tup []) (TT1 s (ptC T) T.length)))
  (z:Z tP (.call 242 [.ptr 0 0] (PS s T 0 0 12))=some (.ret (qvu q) (PS s T i' 0 12))):Z tP (.call 228 [.str s] [])=some (.ret (.tup [qvu q,.int 0,.int 0]) []):=by
 have z1:=qnj s
 have z2:=qoD s
 have k0:=(q 0).one
 have k1:=(q 1).one
 have k2:=(q 2).one
 have c0:=(q 0).cl
 have c1:=(q 1).cl
 have c2:=(q 2).cl
 simp only[pO] at z2
 simp only[TT0,TT1,pO] at zt
 simp only[PS,pO] at z
 have zd:=qpx (s:=s) (T:=T) (q:=q) (x:=0) (y:=0) (i:=i') (a:=0) (c:=12)
 simp only[dS,pO,rob] at zd
 refine qaa (pf:=F228) rfl rfl ?_
 simp[F228,z1,z2,zt,z,zd,h,V.len,k0,k1,k2,c0,c1,c2,Wa]
end
end
section
open F
attribute [local simp] qbb qbT dkey
section
variable{s:ByteArray}{T:List Tk}{i':Nat}{a c:Int}
abbrev q0:Nat->N4:=fun _=>qkp none
end
end
section
open F
theorem qkH(s:ByteArray) : ∀ n i,(qdC 12 2 6 s n i).length<=n+1
 |0,i=>by simp[qdC]
 |n+1,i=>by
  rw[qdC]
  have:=qkH s n
  split
  ·simp
  ·simp only[Wd]; have:=this ((qgn 12 2 6 s (qij s (s.size-i) false i)).at_+(qgn 12 2 6 s (qij s (s.size-i) false i)).s.size); omega
end
section
open F
abbrev Sub(p q:Nat->Option PFun):Prop := ∀ f pf,p f=some pf->q f=some pf
structure Has(prog:Nat->Option PFun):Prop where
 b:Sub qae prog
 r:Sub tR prog
 s:Sub tS prog
 p:Sub tP prog
 q:Sub tQ prog
 e:Sub tE prog
 k:Sub tK prog
def hdO:Option Ss->Hd
 |none => .none
 |some b => .some false b
theorem qtg(o:Option Ss):(qkp o).k=(hdO o).nd.k/\(qkp o).n=(hdO o).nd.n/\(qkp o).s=(hdO o).nd.s/\(qkp o).d=(hdO o).nd.d:=by cases o<;>exact⟨rfl,rfl,rfl,rfl⟩
theorem qth(h:Nat->Option Ss):qvu (fun k=>qkp (h k)) = .dat (ru (hdO (h 0)).nd (hdO (h 1)).nd (hdO (h 2)).nd):=by
 obtain⟨a1,a2,a3,a4⟩:=qtg (h 0)
 obtain⟨b1,b2,b3,b4⟩:=qtg (h 1)
 obtain⟨c1,c2,c3,c4⟩:=qtg (h 2)
 simp only[qvu,ru,a1,a2,a3,a4,b1,b2,b3,b4,c1,c2,c3,c4]
end
end Go.Pm
section
namespace Go.Pm.F
variable(C:Task->Option Res)(q:Nat)(fr:Fr)(σ : S)
@[simp] def F359l0x:PC:=(.seq (sr [mv 14 6,bk 15 .add 14 1,mv 16 1,ls 17 16,bn 18 .lss 15 17,mv 19 18,jt 20 19 (.mov (.t 6)),jt 21 19 (.bin .lss (.t 20) (kk 40)),jj 22 (.pick (.t 19) (.t 21) kF)] [1,5,6,22] (.cond (.t 22) .skip (.exit 0))) (.seq (.block 1 (sr [mv 25 1,mv 26 6,jj 27 (.indexAddr 1 (.t 25) (.t 26)),l1 28 27,mv 29 5,ls 30 29,cl 31 17 [28,30],mv 7 31] [1,5,6,7] (sr [mv 32 1,mv 33 6,bk 34 .add 33 1,jj 35 (.indexAddr 1 (.t 32) (.t 34)),l1 36 35,jj 37 (.call 17 [(.t 36),(kk 100000)]),mv 8 37] [1,5,6,7,8] (sr [mv 38 8,bk 39 .rem 38 41,bk 40 .sub 39 20,mv 9 40] [1,5,6,7,8,9] (.seq (sr [mv 41 8,bk 42 .rem 41 7,bk 43 .eql 42 0] [1,5,6,7,8,9,43] (cs 43 (rn [jj 44 (.bslice 7 [zN,zN,zN,zN,zN,zN,zN] [(0,1,(kk 2147483647)),(1,1,(kk (-2147483647))),(2,1,(kk 65536)),(3,1,(kk 46341)),(4,1,(kk (-46341))),(5,1,(kk 1048577)),(6,1,(kk 16385))]),mv 45 8,bk 46 .quo 45 7,bk 47 .rem 46 7,jj 48 (.indexAddr 1 (.t 44) (.t 47)),l1 49 48,mv 9 49] [1,5,6,7,8,9]))) (.seq (sr [mv 50 7,bk 51 .eql 50 6,mv 52 51,jf 53 52 (.mov (.t 7)),jf 54 52 (.bin .eql (.t 53) (kk 7)),jj 55 (.pick (.t 52) kT (.t 54)),mv 56 55,jf 57 56 (.mov (.t 7)),jf 58 56 (.bin .eql (.t 57) (kk 8)),jj 59 (.pick (.t 56) kT (.t 58))] [1,5,6,7,8,9,59] (cs 59 (rn [mv 60 9,jj 61 (.call 17 [(.t 60),(kk 24)]),mv 9 61] [1,5,6,7,8,9]))) (.seq (sr [mv 62 7,bk 63 .eql 62 11] [1,5,6,7,8,9,63] (cs 63 (rn [jj 64 (.bslice 5 [zN,zN,zN,zN,zN] [(0,1,(kk 0)),(1,1,(kk 1)),(2,1,(kk 39)),(3,1,(kk 40)),(4,1,(kk 41))]),mv 65 8,bk 66 .rem 65 5,jj 67 (.indexAddr 1 (.t 64) (.t 66)),l1 68 67,mv 9 68] [1,5,6,7,9]))) (rn [mv 69 5,mv 70 7,mv 71 9,jj 72 (.indexAddr 1 (.t 69) (.t 70)),st 1 72 71] [1,5,6])))))))) (rn [mv 23 6,bk 24 .add 23 2,mv 6 24] [1,5,6])))
def F359l0:PC:=F359l0x
def F359:PFun:=⟨2,[.tmp 4],sr [bx 2 0,jj 4 (.mov (.c (.slice none 0 0)))] [1,2] (sr [jj 10 (.bslice 0 [] []),la 11 16 2,cl 12 55 [11],jj 13 (.appendO 1 8 (.t 10) (.t 12)),mv 5 13] [1,5] (.seq (sr [mx 6 (kk 0)] [1,5,6] (.block 0 (.loop F359l0))) (sr [mv 73 5,mv 4 73] [4] .ret))),true,false,false⟩
end Go.Pm.F
end
section
namespace Go.Pm.F
variable(C:Task->Option Res)(q:Nat)(fr:Fr)(σ : S)
@[simp] def F360l0x:PC:=(.seq (sr [mv 36 14,bk 37 .lss 36 16] [2,4,11,12,13,14,37] (.cond (.t 37) .skip (.exit 0))) (.seq (.block 1 (rn [mv 40 12,mv 41 14,jj 42 (.bin .add (kk 32) (.t 41)),mv 43 13,jj 44 (.indexAddr 1 (.t 40) (.t 42)),st 1 44 43] [2,4,11,12,13,14])) (rn [mv 38 14,bk 39 .add 38 1,mv 14 39] [2,4,11,12,13,14])))
def F360l0:PC:=F360l0x
theorem qjd:run C q F360l0 fr σ = run C q F360l0x fr σ := rfl
@[simp] def F360l1x:PC:=(.seq (sr [mv 106 24,bk 107 .leq 106 1000] [11,12,13,16,21,23,24,107] (.cond (.t 107) .skip (.exit 2))) (.seq (.block 3 (sr [mv 111 23,jj 112 (.mkif 0 (.t 111)),la 113 16 11,la 114 4 21,cl 115 52 [112,113,114],mv 110 115,ex 116 110 0,ex 117 110 1,ex 118 110 2,jj 26 (.alloc [zN,zN,zN,zN]),mv 25 116,st 4 26 117,mv 27 118] [11,12,13,16,21,23,24,25] (sr [mv 119 25] [11,12,13,16,21,23,24,119] (cs 119 (.exit 2))))) (rn [mv 108 24,bk 109 .add 108 1,mv 24 109] [11,12,13,16,21,23,24])))
def F360l1:PC:=F360l1x
theorem qje:run C q F360l1 fr σ = run C q F360l1x fr σ := rfl
def veR:PC:=(.seq (.region (some []) [mv 120 23,la 121 16 11,jj 122 (.call 100 [(.t 121),(kk 0)]),bk 123 .add 122 4,cl 124 51 [120,123],⟨some 125,.load true 4 (.t 16),none,[2,4]⟩,mv 126 12,⟨some 127,.load true 16 (.t 11),none,[2,4]⟩,mv 128 13,cl 129 350 [125,126,127,128],bn 130 .eql 124 129,mv 131 130,jt 132 131 (.call 50 []),jj 133 (.pick (.t 131) (.t 132) kF),mv 10 133] [10] [9,12]) (.ret))
def F360:PFun:=pf 5 [.tmp 10] (sr [mx 10 kF] [0,1,2,3,4] (sr [mv 28 0,cl 29 45 [28],jj 11 (.alloc [zN,sN,zN,zN,zN,zN,sN,sN,zN,zN,zN,zN,zN,zN,zN,zN]),st 16 11 29] [1,2,3,4,11] (sr [la 30 16 11,mv 31 1,cl 32 359 [30,31],mv 12 32] [2,3,4,11,12] (sr [mv 33 3,jj 34 (.call 17 [(.t 33),(kk 2001)]),bk 35 .sub 34 1000,mv 13 35] [2,4,11,12,13] (.seq (sr [mx 14 (kk 0)] [2,4,11,12,13,14] (.block 0 (.loop F360l0))) (sr [mv 45 12,jj 46 (.indexAddr 1 (.t 45) (kk 9)),jn (.store 1 (.t 46) (kk 1))] [2,4,11,12,13] (sr [mv 47 12,jj 48 (.indexAddr 1 (.t 47) (kk 10)),jn (.store 1 (.t 48) (kk 2))] [2,4,11,12,13] (sr [mv 49 2,jj 50 (.build [sN,zN] [(0,1,(.t 49))]),bx 51 50,mv 15 51] [4,11,12,13,15] (sr [mv 52 15,jj 53 (.call 177 [(.t 52),(kk 3)]),jj 16 (.alloc [zN,zN,eN,sN]),st 4 16 53] [4,11,12,13,15,16] (sr [la 54 4 16,cl 55 234 [54],jj 56 (.bin .add (ks [111,110,32,116,105,99,107,123,97,91,48,93,61]) (.t 55)),jj 57 (.bin .add (.t 56) (ks [59,125])),mv 17 57] [4,11,12,13,15,16,17] (.seq (sr [mv 58 4] [11,12,13,15,16,17,58] (cs 58 (sr [mv 59 15,jj 60 (.call 179 [(.t 59),(kk 3)]),st 4 16 60] [11,12,13,16] (rn [la 61 4 16,cl 62 234 [61],jj 63 (.bin .add (ks [111,110,32,116,105,99,107,123,105,102,32]) (.t 62)),jj 64 (.bin .add (.t 63) (ks [123,97,91,48,93,61,49,59,125,101,108,115,101,123,97,91,48,93,61,48,59,125,125])),mv 17 64] [11,12,13,16,17])))) (sr [mv 66 17,cl 67 228 [66],mv 65 67,ex 68 65 0,ex 69 65 1,ex 70 65 2,jj 18 (.alloc [zN,zN,eN,sN,zN,zN,eN,sN,zN,zN,eN,sN]),st 12 18 68,mv 19 69,mv 20 70] [11,12,13,16,18,20] (sr [la 72 12 18,cl 73 131 [72],mv 71 73,ex 74 71 0,ex 75 71 1,jj 21 (.alloc [sN,zN,zN,zN]),st 4 21 74,mv 22 75] [11,12,13,16,20,21,22] (sr [mv 76 12,cl 77 46 [76],mv 23 77] [11,12,13,16,20,21,22,23] (.seq (sr [mv 78 23,jj 79 (.isnil true false (.t 78)),mv 80 79,jf 81 80 (.mov (.t 20)),jf 82 80 (.bin .neq (.t 81) (kk 0)),jj 83 (.pick (.t 80) kT (.t 82)),mv 84 83,jf 85 84 (.mov (.t 22)),jf 86 84 (.bin .eql (.t 85) (kk 15)),jj 87 (.pick (.t 84) kT (.t 86))] [11,12,13,16,20,21,22,23,87] (cs 87 (sr [mv 88 20,bk 89 .eql 88 0,mv 90 89,jt 91 90 (.mov (.t 23)),jt 92 90 (.isnil true true (.t 91)),jj 93 (.pick (.t 90) (.t 92) kF),mv 94 93,jt 95 94 (.call 50 []),jj 96 (.pick (.t 94) (.t 95) kF),mv 10 96] [10] .ret))) (.seq (sr [mv 97 22,bk 98 .neq 97 0,mv 99 98,jf 100 99 (.mov (.t 23)),jf 101 99 (.mkif 0 (.t 100)),jf 102 99 (.load true 4 (.t 21)),jf 103 99 (.call 49 [(.t 101),(.t 102),(kk 1),(kk 1),(kk 2),(kk 1000)]),jf 104 99 (.un .not (.t 103)),jj 105 (.pick (.t 99) kT (.t 104))] [11,12,13,16,21,23,105] (cs 105 (sr [mx 10 kF] [10] .ret))) (.seq (sr [mx 24 (kk 0)] [11,12,13,16,21,23,24] (.block 2 (.loop F360l1))) veR)))))))))))))))))
end Go.Pm.F
end
namespace Go.Pm
section
open F
section
variable{prog:Nat->Option PFun}(sv:Sub qab prog)(h359:prog 359=some F359)
include sv h359
theorem qrm (s:Su) (hs:s.ok) (bs:List Bo) (hb:s.bs=boC bs) (hbl:bs.length=s.nb) {d:D} {xs:List Int} (hd:IsRow d xs) (hx : ∀ x∈xs,I64 x) :
  ∃ w,w.length=s.n/\Z prog (.call 359 [s.d,.dat d] [])=some (.ret (.own 0 s.n 1) [.vec (qbz w)]):=by
 have hp:=hs.p3; have hq:=hs.b5
 have hN:48<=s.n/\s.n<1000:=by unfold Su.n; omega
 obtain⟨w0,a1,a2,a3⟩:=qot s hs bs hb hbl
 obtain⟨w,i',b1,b2⟩:=qzy hd hx s.n hN.1 hN.2 42 w0 0 a1 (by omega) (by omega)
 refine⟨w,b1,?_⟩
 refine qaa h359 rfl ?_
 have hr:qaC s.n 8=true:=by simp[qaC]; omega
 have hn0 : ¬ s.n=0:=by omega
 rw[show ((0:Nat):Int)=0 from rfl] at b2
 have e1:(qan w0).map V.dat=qbz w0:=by simp[qan,qbz]
 have b3:=qcy sv ((qal (k:=0) (b:=F47l0) (fr:=[(1,.dat d),(5,.own 1 s.n 1),(6,.int 0)]) (σ := [qhk s,.vec (qbz w0)]) (by simp[qih,qhk,Su.c,Wa])).trans b2)
 have b3:Z prog (.loop 0 F359l0 [(1,.dat d),(5,.own 1 s.n 1),(6,.int 0)] [qhk s,.vec (qbz w0)])=_:=b3
 have a3:=qcy sv a3
 simp only[qih,qhk,Su.c,List.map] at b3
 simp only[Su.d,Su.c] at a3 ⊢
 simp[F359,a3,e1,a1,hr,hn0,b3,b1,Wa]
end
def fillN(w:List Int)(v:Int):Nat->List Int
 |0=>w
 |k+1=>(fillN w v k).set (32+k) v
@[simp] theorem qkW(w:List Int)(v:Int) : ∀ k,(fillN w v k).length=w.length
 |0=>rfl
 |k+1=>by simp[fillN,qkW w v k]
theorem qkX{w:List Int}(v:Int)(h48:48<=w.length) : ∀ m k,k<m->m<=16->getN (fillN w v m) (32+k)=v
 |m+1,k,h,h1=>by
  show getN (qaK (fillN w v m) ((32+m:Nat):Int) v) (32+k)=v
  by_cases e:k=m
  ·subst e; exact qax (by simp; omega) (by simp; omega)
  ·rw[qam (by simp; omega)]; exact qkX v h48 m k (by omega) (by omega)
def evF(d2:D)(bo:Bool)(N:Nat)(v i:Int):Fr:=[(2,.dat d2),(4,.bool bo),(11,.ptr 0 0),(12,.own 1 N 1),(13,.int v),(14,.int i)]
theorem qkY {prog:Nat->Option PFun} {s:Su} {d2:D} {bo:Bool} {w:List Int} {N:Nat} {v:Int} (hw:w.length=N) (h48:48<=N) : ∀ (m i:Nat),i+m=16 ->
  Z prog (.loop 0 F360l0 (evF d2 bo N v i) [qhk s,.vec (qbz (fillN w v i))])=some (.out (.exit 0) (evF d2 bo N v 16++[(37,.bool false)]) [qhk s,.vec (qbz (fillN w v 16))])
 |0,i,h=>by
  obtain rfl:i=16:=by omega
  rw[qac]
  simp[qad,qjd,evF,qhk,Su.c,Wa]
 |m+1,i,h=>by
  have e:=qkY (prog:=prog) (s:=s) (d2:=d2) (bo:=bo) (v:=v) hw h48 m (i+1) (by omega)
  have w1:=qaf ((i:Int)+1) (by omega)
  have w2:=qaf (32+(i:Int)) (by omega)
  have hi:(i:Int)<16:=by omega
  have fo:=qk1 1 N (32+(i:Int)) (by omega) (by omega)
  have hl:32+i+1<=N:=by omega
  have fin:(qbz (fillN w v i)).take (32+i)++(V.int v::(qbz (fillN w v i)).drop (32+i+1))=qbz (fillN w v (i+1)):=qbH _ (32+i) v (by simp; omega)
  rw[show (32+(i:Int)).toNat=32+i by omega] at fo
  rw[show (((i+1:Nat)):Int)=i+1 by omega] at e
  generalize fillN w v (i+1)=W' at *
  have hlen:(fillN w v i).length=N:=by simp[hw]
  generalize fillN w v i=W at *
  generalize fillN w v 16=W2 at *
  simp only[evF,qhk,Su.c,List.map] at *
  rw[qac]
  simp[qad,qjd,Wa,w1,w2,hi,fo,hl,fin,hlen,e]
end
end Go.Pm
section
namespace Go.Pm.Gr
abbrev Cd:=List (Int × Int)
def qeC(op:Int):Int:=if op=3\/op=4\/op=13\/op=17\/op=19 then 1 else if op=5\/op=9\/op=10\/op=11\/op=12\/op=14\/op=15\/op=16\/op=20 then 2 else 0
def qdp(op:Int):Int:=if op=3\/op=5\/op=18\/op=19\/op=20\/op=21 then 0 else 1
theorem qmn(op:Int):0<=qeC op/\qeC op<=2:=by unfold qeC; split<;>(try split)<;>omega
theorem qfR(op:Int):0<=qdp op/\qdp op<=1:=by unfold qdp; split<;>omega
def opA(c:Cd)(i:Nat):Int:=(c.getD i (0,0)).1
def nA(c:Cd)(i:Nat):Int:=(c.getD i (0,0)).2
def qgg(c:Cd)(i:Nat):List Int:=if opA c i=21 then [] else if opA c i=18 then [nA c i] else if opA c i=19 then [(i:Int)+1,nA c i] else [(i:Int)+1]
def qvp(c:Cd):Prop := ∀ i,i<c.length -> ∀ j∈qgg c i,0<=j/\j<=c.length
def aft(c:Cd)(i:Nat)(d:Int):Int:=d+(qdp (opA c i)-qeC (opA c i))
inductive Reach(c:Cd)(e:Nat):Nat->Prop
 |here:Reach c e e
 |go {i j:Nat}:Reach c e i->i<c.length->(j:Int)∈qgg c i->j<c.length->Reach c e j
theorem Reach.lt{c:Cd}{e i:Nat}(he:e<c.length)(h:Reach c e i):i<c.length:=by
 cases h with
 |here=>exact he
 |go _ _ _ h=>exact h
structure CF(c:Cd)(e:Nat)(D:Nat->Int):Prop where
 zero:D e=0
 pops : ∀ i,Reach c e i->qeC (opA c i)<=D i
 step : ∀ i,Reach c e i -> ∀ j:Nat,(j:Int)∈qgg c i->j<c.length->D j=aft c i (D i)
def qtn(c:Cd)(e:Nat):Prop := ∃ i,Reach c e i/\(c.length:Int)∈qgg c i
structure Most(c:Cd)(e:Nat)(D:Nat->Int)(m:Int):Prop where
 nonneg:0<=m
 le : ∀ i,Reach c e i->aft c i (D i)<=m
 at_:m=0 \/ ∃ i,Reach c e i/\m=aft c i (D i)
theorem Most.unique{c:Cd}{e:Nat}{D:Nat->Int}{m m':Int}(h:Most c e D m)(h':Most c e D m'):m=m':=by
 have a:m<=m':=by
  rcases h.at_ with h0|⟨i,hi,h0⟩
  ·have:=h'.nonneg; omega
  ·have:=h'.le i hi; omega
 have b:m'<=m:=by
  rcases h'.at_ with h0|⟨i,hi,h0⟩
  ·have:=h.nonneg; omega
  ·have:=h.le i hi; omega
 omega
theorem CF.unique{c:Cd}{e:Nat}{D D':Nat->Int}(h:CF c e D)(h':CF c e D'){i:Nat}(hi:Reach c e i):D i=D' i:=by
 induction hi with
 |here=>rw[h.zero,h'.zero]
 |go hi hl hj hjl ih=>rw[h.step _ hi _ hj hjl,h'.step _ hi _ hj hjl,ih]
theorem Most.of_eq{c:Cd}{e:Nat}{D D':Nat->Int}{m:Int}(h:CF c e D)(h':CF c e D')(hm:Most c e D m):Most c e D' m:=by
 refine⟨hm.nonneg,fun i hi=>?_,?_⟩
 ·rw[<- CF.unique h h' hi]; exact hm.le i hi
 ·rcases hm.at_ with h0|⟨i,hi,h0⟩
  ·exact .inl h0
  ·exact .inr ⟨i,hi,by rw[<- CF.unique h h' hi]; exact h0⟩
structure An where
 falls:Bool
 breaks:Bool
 depth:Int
 ds:List Int
 op:List Nat
def gD(l:List Int)(i:Nat):Int:=l.getD i 0
def one(n:Nat)(d:Int)(a:An)(j:Int):An:=
 if j=n then { a with falls:=true }
 else if gD a.ds j.toNat=0 then { a with ds:=a.ds.set j.toNat (max d 0+1),op:=a.op++[j.toNat] }
 else if gD a.ds j.toNat≠d+1 then { a with breaks:=true }
 else a
def stp(c:Cd)(a:An)(i:Nat)(r:List Nat):An:=
 let d:=gD a.ds i-1
 let d':=aft c i d
 (qgg c i).foldl (one c.length d') { a with breaks:=a.breaks||decide (d<qeC (opA c i)),depth:=max a.depth d',op:=r }
theorem qfS{l:List Int}{i:Nat}{v:Int}(h:i<l.length):gD (l.set i v) i=v:=by
 simp[gD,Wn,h]
theorem qfT{l:List Int}{i j:Nat}{v:Int}(h:i≠j):gD (l.set i v) j=gD l j:=by
 simp only[gD,Wn]
 rw[Wt h]
structure Inv(c:Cd)(e:Nat)(cur:Option Nat)(pre:List Int)(a:An):Prop where
 len:a.ds.length=c.length
 nodup:a.op.Nodup
 opn : ∀ i∈a.op,i<c.length/\gD a.ds i≠0
 pos : ∀ i,i<c.length->gD a.ds i≠0->1<=gD a.ds i/\Reach c e i
 ent:gD a.ds e=1
 cur_ : ∀ i,cur=some i->i<c.length/\gD a.ds i≠0/\i∉a.op
 done : ∀ i,i<c.length->gD a.ds i≠0->i∉a.op -> ∀ j∈(if cur=some i then pre else qgg c i),(j=c.length->a.falls=true)/\(j<c.length->gD a.ds j.toNat≠0)
 fal:a.falls=true->qtn c e
 brk:a.breaks=false -> ∀ i,i<c.length->gD a.ds i≠0->i∉a.op->qeC (opA c i)<=gD a.ds i-1 /\ ∀ j∈(if cur=some i then pre else qgg c i),j<c.length->gD a.ds j.toNat=aft c i (gD a.ds i-1)+1
 cf : ∀ D,CF c e D->a.breaks=false /\ ∀ i,i<c.length->gD a.ds i≠0->gD a.ds i=D i+1
 dle:0<=a.depth /\ ∀ i,i<c.length->gD a.ds i≠0->i∉a.op->aft c i (gD a.ds i-1)<=a.depth
 dat:a.depth=0 \/ ∃ i,i<c.length/\gD a.ds i≠0/\i∉a.op/\a.depth=aft c i (gD a.ds i-1)
theorem qto {c:Cd} {e i:Nat} {pre:List Int} {j:Int} {a:An} (h:Inv c e (some i) pre a) (hs:j∈qgg c i) (hj:0<=j/\j<=c.length) :
  Inv c e (some i) (pre++[j]) (one c.length (aft c i (gD a.ds i-1)) a j)/\gD (one c.length (aft c i (gD a.ds i-1)) a j).ds i=gD a.ds i:=by
 obtain⟨hi1,hi2,hi3⟩:=h.cur_ i rfl
 obtain⟨hp1,hp2⟩:=h.pos i hi1 hi2
 unfold one
 by_cases hn:j=c.length
 ·rw[if_pos hn]
  refine⟨⟨h.len,h.nodup,h.opn,h.pos,h.ent,h.cur_,?_,fun _=>⟨i,hp2,by rw[<- hn]; exact hs⟩,?_,h.cf,h.dle,h.dat⟩,rfl⟩
  ·intro k k1 k2 k3 x hx
   have:=h.done k k1 k2 k3
   by_cases hk:some i=some k
   ·rw[if_pos hk] at hx this
    rcases Wl.1 hx with hx|hx
    ·exact⟨fun _=>rfl,(this x hx).2⟩
    ·simp only[Wk] at hx
     exact⟨fun _=>rfl,fun hl=>by omega⟩
   ·rw[if_neg hk] at hx this
    exact⟨fun _=>rfl,(this x hx).2⟩
  ·intro hb k k1 k2 k3
   have:=h.brk hb k k1 k2 k3
   refine⟨this.1,fun x hx hl=>?_⟩
   by_cases hk:some i=some k
   ·rw[if_pos hk] at hx
    rw[if_pos hk] at this
    rcases Wl.1 hx with hx|hx
    ·exact this.2 x hx hl
    ·simp only[Wk] at hx; omega
   ·rw[if_neg hk] at hx this
    exact this.2 x hx hl
 ·rw[if_neg hn]
  have hjl:j.toNat<c.length:=by omega
  have hjs:((j.toNat:Nat):Int)∈qgg c i:=by rw[show ((j.toNat:Nat):Int)=j by omega]; exact hs
  have hjr:Reach c e j.toNat:=Reach.go hp2 hi1 hjs hjl
  by_cases h0:gD a.ds j.toNat=0
  ·rw[if_pos h0]
   have hij:j.toNat≠i:=fun hh=>hi2 (by rw[<- hh]; exact h0)
   have hjo:j.toNat∉a.op:=fun hh=>(h.opn _ hh).2 h0
   have hnew:gD (a.ds.set j.toNat (max (aft c i (gD a.ds i-1)) 0+1)) j.toNat=max (aft c i (gD a.ds i-1)) 0+1:=qfS (by rw[h.len]; exact hjl)
   have hold : ∀ k,k≠j.toNat->gD (a.ds.set j.toNat (max (aft c i (gD a.ds i-1)) 0+1)) k=gD a.ds k:=fun k hk=>qfT (Yw hk)
   have hge : ∀ k,gD a.ds k≠0->gD (a.ds.set j.toNat (max (aft c i (gD a.ds i-1)) 0+1)) k=gD a.ds k:=fun k hk=>hold k (fun hh=>hk (by rw[hh]; exact h0))
   generalize hV:a.ds.set j.toNat (max (aft c i (gD a.ds i-1)) 0+1)=V at *
   have back : ∀ k,gD V k≠0->k∉a.op++[j.toNat]->gD a.ds k≠0/\k∉a.op/\gD V k=gD a.ds k:=fun k k2 k3=>by
    have hk:k≠j.toNat:=fun hh=>k3 (by rw[hh]; simp)
    rw[hold k hk] at k2
    exact⟨k2,fun hh=>k3 (by simp[hh]),hold k hk⟩
   refine⟨⟨by simp only; rw[<- hV]; simp[h.len],?_,?_,?_,?_,?_,?_,h.fal,?_,?_,?_,?_⟩,hold i (Yw hij)⟩
   ·simp only
    rw[List.nodup_append]
    exact⟨h.nodup,by simp,fun x hx y hy=>by simp only[Wk] at hy; rw[hy]; exact fun hh=>hjo (by rw[<- hh]; exact hx)⟩
   ·intro k hk
    simp only at hk ⊢
    rcases Wl.1 hk with hk|hk
    ·have:=h.opn k hk
     exact⟨this.1,by rw[hge k this.2]; exact this.2⟩
    ·simp only[Wk] at hk
     rw[hk,hnew]
     exact⟨hjl,by omega⟩
   ·intro k k1 k2
    simp only at k2 ⊢
    by_cases hk:k=j.toNat
    ·rw[hk,hnew]; exact⟨by omega,hjr⟩
    ·rw[hold k hk] at k2 ⊢; exact h.pos k k1 k2
   ·simp only; rw[hge e (by rw[h.ent]; omega)]; exact h.ent
   ·intro k hk
    have:=h.cur_ k hk
    simp only
    refine⟨this.1,by rw[hge k this.2.1]; exact this.2.1,?_⟩
    rw[Wl,not_or]
    refine⟨this.2.2,?_⟩
    simp only[Wk]
    intro hh
    exact this.2.1 (by rw[hh]; exact h0)
   ·intro k k1 k2 k3 x hx
    simp only at k2 k3 ⊢
    obtain⟨b1,b2,b3⟩:=back k k2 k3
    have:=h.done k k1 b1 b2
    by_cases hk:some i=some k
    ·rw[if_pos hk] at hx this
     rcases Wl.1 hx with hx|hx
     ·exact⟨(this x hx).1,fun hl=>by rw[hge _ ((this x hx).2 hl)]; exact (this x hx).2 hl⟩
     ·simp only[Wk] at hx
      exact⟨fun hh=>absurd (hx ▸ hh) hn,fun _=>by rw[hx,hnew]; omega⟩
    ·rw[if_neg hk] at hx this
     exact⟨(this x hx).1,fun hl=>by rw[hge _ ((this x hx).2 hl)]; exact (this x hx).2 hl⟩
   ·intro hb k k1 k2 k3
    simp only at hb k2 k3 ⊢
    obtain⟨b1,b2,b3⟩:=back k k2 k3
    have hbr:=h.brk hb k k1 b1 b2
    have hdo:=h.done k k1 b1 b2
    rw[b3]
    refine⟨hbr.1,fun x hx hl=>?_⟩
    by_cases hk:some i=some k
    ·rw[if_pos hk] at hx hbr hdo
     rcases Wl.1 hx with hx|hx
     ·rw[hge _ ((hdo x hx).2 hl)]; exact hbr.2 x hx hl
     ·simp only[Wk] at hx
      have hik:i=k:=WX hk
      subst hik
      have:=qfR (opA c i)
      rw[hx,hnew]
      have hh:=hbr.1
      unfold aft
      omega
    ·rw[if_neg hk] at hx hbr hdo
     rw[hge _ ((hdo x hx).2 hl)]; exact hbr.2 x hx hl
   ·intro D hD
    obtain⟨c1,c2⟩:=h.cf D hD
    refine⟨c1,fun k k1 k2=>?_⟩
    simp only at k2 ⊢
    by_cases hk:k=j.toNat
    ·rw[hk,hnew,hD.step i hp2 j.toNat hjs hjl]
     have hDi:gD a.ds i=D i+1:=c2 i hi1 hi2
     rw[show gD a.ds i-1=D i by omega]
     have:=hD.pops i hp2
     have:=qfR (opA c i)
     unfold aft
     omega
    ·rw[hold k hk] at k2 ⊢; exact c2 k k1 k2
   ·refine⟨h.dle.1,fun k k1 k2 k3=>?_⟩
    simp only at k2 k3 ⊢
    obtain⟨b1,b2,b3⟩:=back k k2 k3
    rw[b3]; exact h.dle.2 k k1 b1 b2
   ·rcases h.dat with hd|⟨k,k1,k2,k3,k4⟩
    ·exact .inl hd
    ·refine .inr ⟨k,k1,by simp only; rw[hge k k2]; exact k2,?_,by simp only; rw[hge k k2]; exact k4⟩
     simp only
     rw[Wl,not_or]
     refine⟨k3,?_⟩
     simp only[Wk]
     intro hh
     exact k2 (by rw[hh]; exact h0)
  ·rw[if_neg h0]
   by_cases hd:gD a.ds j.toNat≠aft c i (gD a.ds i-1)+1
   ·rw[if_pos hd]
    refine⟨⟨h.len,h.nodup,h.opn,h.pos,h.ent,h.cur_,?_,h.fal,fun hb=>by simp at hb,?_,h.dle,h.dat⟩,rfl⟩
    ·intro k k1 k2 k3 x hx
     have:=h.done k k1 k2 k3
     by_cases hk:some i=some k
     ·rw[if_pos hk] at hx this
      rcases Wl.1 hx with hx|hx
      ·exact this x hx
      ·simp only[Wk] at hx
       exact⟨fun hh=>absurd (hx ▸ hh) hn,fun _=>by rw[hx]; exact h0⟩
     ·rw[if_neg hk] at hx this
      exact this x hx
    ·intro D hD
     exfalso
     obtain⟨c1,c2⟩:=h.cf D hD
     apply hd
     rw[c2 j.toNat hjl h0,hD.step i hp2 j.toNat hjs hjl,c2 i hi1 hi2,show D i+1-1=D i by omega]
   ·rw[if_neg hd]
    have hd':gD a.ds j.toNat=aft c i (gD a.ds i-1)+1:=by omega
    refine⟨⟨h.len,h.nodup,h.opn,h.pos,h.ent,h.cur_,?_,h.fal,?_,h.cf,h.dle,h.dat⟩,rfl⟩
    ·intro k k1 k2 k3 x hx
     have:=h.done k k1 k2 k3
     by_cases hk:some i=some k
     ·rw[if_pos hk] at hx this
      rcases Wl.1 hx with hx|hx
      ·exact this x hx
      ·simp only[Wk] at hx
       exact⟨fun hh=>absurd (hx ▸ hh) hn,fun _=>by rw[hx]; exact h0⟩
     ·rw[if_neg hk] at hx this
      exact this x hx
    ·intro hb k k1 k2 k3
     have:=h.brk hb k k1 k2 k3
     refine⟨this.1,fun x hx hl=>?_⟩
     by_cases hk:some i=some k
     ·rw[if_pos hk] at hx
      rw[if_pos hk] at this
      rcases Wl.1 hx with hx|hx
      ·exact this.2 x hx hl
      ·simp only[Wk] at hx
       have hik:i=k:=WX hk
       subst hik
       rw[hx]; exact hd'
     ·rw[if_neg hk] at hx this
      exact this.2 x hx hl
end Go.Pm.Gr
end
namespace Go.Pm
section
open Gr
def ixI:List ByteArray->ByteArray->Int
 |[],_ => -1
 |x::l,s=>if x=s then 0 else if ixI l s<0 then -1 else ixI l s+1
def fieldNs:List ByteArray:=[⟨#[120]⟩,⟨#[121]⟩,⟨#[118,120]⟩,⟨#[118,121]⟩,⟨#[97]⟩,⟨#[98]⟩,⟨#[104,105,116]⟩,⟨#[115,116,105,108,108]⟩]
def fieldI(s:ByteArray):Int:=ixI fieldNs s
def nameI(s:ByteArray):Int:=if s=⟨#[115,101,108,102]⟩ then 6 else if s=⟨#[111,116,104,101,114]⟩ then 7 else 8
def opI:Bop->Int
 |.add=>9 | .sub=>10 | .mul=>11 | .div=>12
 |.lt=>14 | .gt=>14 | .le=>15 | .ge=>15
 |_=>16
def sq(a b:Int->Cd)(at_:Int):Cd:=a at_++b (at_+(a at_).length)
def brC(c a b:Int->Cd)(at_:Int):Cd:=
 c at_++((19,at_+(c at_).length+1+(a (at_+(c at_).length+1)).length+1)::(a (at_+(c at_).length+1) ++
  ((18,at_+(c at_).length+1+(a (at_+(c at_).length+1)).length+1+(b (at_+(c at_).length+1+(a (at_+(c at_).length+1)).length+1)).length) ::
    b (at_+(c at_).length+1+(a (at_+(c at_).length+1)).length+1))))
def whC(c a:Int->Cd)(at_:Int):Cd:=
 c at_++((19,at_+(c at_).length+1+(a (at_+(c at_).length+1)).length+1)::(a (at_+(c at_).length+1)++[(18,at_)]))
def snC(c:Int->Cd)(i:Int × Int)(at_:Int):Cd:=c at_++[i]
def binC(o:Bop)(a b:Int->Cd):Int->Cd:=
 match o with
 |.and=>brC a b (fun _=>[(1,0)])
 |.or=>brC a (fun _=>[(1,1)]) b
 |.gt=>snC (sq b a) (14,0)
 |.ge=>snC (sq b a) (15,0)
 |.ne=>snC (snC (sq a b) (16,0)) (17,0)
 |o=>snC (sq a b) (opI o,0)
def qat(vs:List ByteArray):E->Int->Cd
 |.int n=>fun _=>[(1,n)]
 |.bool n=>fun _=>[(1,n)]
 |.var s=>fun _=>[(2,ixI vs s)]
 |.name s=>fun _=>[(nameI s,0)]
 |.field _ s e=>snC (qat vs e) (4,fieldI s)
 |.un _ neg e=>snC (qat vs e) (if neg then 13 else 17,0)
 |.bin _ o a b=>binC o (qat vs a) (qat vs b)
def codeS(vs:List ByteArray):Ss->Int->Cd
 |.nil=>fun _=>[]
 |.assign _ s e r=>sq (snC (qat vs e) (3,ixI vs s)) (codeS vs r)
 |.store _ s a b r=>sq (snC (sq (qat vs a) (qat vs b)) (5,fieldI s)) (codeS vs r)
 |.effect _ a b r=>sq (snC (sq (qat vs a) (qat vs b)) (20,0)) (codeS vs r)
 |.stop r=>sq (fun _=>[(21,0)]) (codeS vs r)
 |.cond false _ c (.block _ x (.block _ y .nil)) r=>sq (brC (qat vs c) (codeS vs x) (codeS vs y)) (codeS vs r)
 |.cond true _ c (.block _ x .nil) r=>sq (whC (qat vs c) (codeS vs x)) (codeS vs r)
 |_=>fun _=>[]
def Ln(C:Int->Cd)(n:Nat):Prop := ∀ p,(C p).length=n
theorem qa2{a b:Int->Cd}{n m:Nat}(ha:Ln a n)(hb:Ln b m):Ln (sq a b) (n+m):=fun p=>by simp[sq,ha p,hb _]
theorem qbv{c:Int->Cd}{i:Int × Int}{n:Nat}(h:Ln c n):Ln (snC c i) (n+1):=fun p=>by simp[snC,h p]
theorem qin{c a b:Int->Cd}{n m k:Nat}(hc:Ln c n)(ha:Ln a m)(hb:Ln b k):Ln (brC c a b) (n+m+k+2):=fun p=>by simp[brC,hc p,ha _,hb _]; omega
theorem qrn{c a:Int->Cd}{n m:Nat}(hc:Ln c n)(ha:Ln a m):Ln (whC c a) (n+m+2):=fun p=>by simp[whC,hc p,ha _]; omega
theorem qwS{o:Bop}{a b:Int->Cd}{n m:Nat}(ha:Ln a n)(hb:Ln b m) : ∃ k,Ln (binC o a b) k/\n+m+1<=k/\k<=n+m+3/\0<k:=by
 cases o
 case and=>
  have h1:Ln (fun _=>[((1:Int),(0:Int))]) 1:=fun _=>rfl
  exact⟨_,qin ha hb h1,by omega,by omega,by omega⟩
 case or=>
  have h1:Ln (fun _=>[((1:Int),(1:Int))]) 1:=fun _=>rfl
  exact⟨_,qin ha h1 hb,by omega,by omega,by omega⟩
 case gt=>exact⟨_,qbv (qa2 hb ha),by omega,by omega,by omega⟩
 case ge=>exact⟨_,qbv (qa2 hb ha),by omega,by omega,by omega⟩
 case ne=>exact⟨_,qbv (qbv (qa2 ha hb)),by omega,by omega,by omega⟩
 all_goals exact⟨_,qbv (qa2 ha hb),by omega,by omega,by omega⟩
theorem qpf(vs:List ByteArray) : ∀ e:E,∃ n,Ln (qat vs e) n/\0<n/\n<=4*e.size
 |.int _=>⟨1,fun _=>rfl,by omega,by simp⟩
 |.bool _=>⟨1,fun _=>rfl,by omega,by simp⟩
 |.var _=>⟨1,fun _=>rfl,by omega,by simp⟩
 |.name _=>⟨1,fun _=>rfl,by omega,by simp⟩
 |.field _ s e=>by
  obtain⟨n,h,h0,h1⟩:=qpf vs e
  exact⟨n+1,qbv h,by omega,by simp; omega⟩
 |.un _ neg e=>by
  obtain⟨n,h,h0,h1⟩:=qpf vs e
  exact⟨n+1,qbv h,by omega,by simp; omega⟩
 |.bin _ o a b=>by
  obtain⟨n,h,h0,h1⟩:=qpf vs a
  obtain⟨m,g,g0,g1⟩:=qpf vs b
  obtain⟨k,k1,k2,k3,k4⟩:=qwS (o:=o) h g
  exact⟨k,k1,k4,by simp; omega⟩
theorem qy7(vs:List ByteArray)(b:Ss) : ∃ n,Ln (codeS vs b) n/\n<=4*b.fo.size:=by
 fun_induction codeS vs b with
 |case1=>exact⟨0,fun _=>rfl,by omega⟩
 |case2 _ s e r ih=>
  obtain⟨n,h,h0,h1⟩:=qpf vs e
  obtain⟨m,g,g1⟩:=ih
  exact⟨_,qa2 (qbv h) g,by simp only[Ss.fo,qaE,qej,qcj]; omega⟩
 |case3 _ s a b r ih=>
  obtain⟨n,h,h0,h1⟩:=qpf vs a
  obtain⟨n',h',h0',h1'⟩:=qpf vs b
  obtain⟨m,g,g1⟩:=ih
  exact⟨_,qa2 (qbv (qa2 h h')) g,by simp only[Ss.fo,qaE,qej,qcj]; omega⟩
 |case4 _ a b r ih=>
  obtain⟨n,h,h0,h1⟩:=qpf vs a
  obtain⟨n',h',h0',h1'⟩:=qpf vs b
  obtain⟨m,g,g1⟩:=ih
  exact⟨_,qa2 (qbv (qa2 h h')) g,by simp only[Ss.fo,qaE,qej,qcj]; omega⟩
 |case5 r ih=>
  obtain⟨m,g,g1⟩:=ih
  exact⟨_,qa2 (n:=1) (fun _=>rfl) g,by simp only[Ss.fo,qaE,qcj]; omega⟩
 |case6 _ c _ x _ y r ih1 ih2 ih3=>
  obtain⟨n,h,h0,h1⟩:=qpf vs c
  obtain⟨m1,g1,k1⟩:=ih1
  obtain⟨m2,g2,k2⟩:=ih2
  obtain⟨m3,g3,k3⟩:=ih3
  exact⟨_,qa2 (qin h g1 g2) g3,by simp only[Ss.fo,qaE,qej,qcj]; omega⟩
 |case7 _ c _ x r ih1 ih2=>
  obtain⟨n,h,h0,h1⟩:=qpf vs c
  obtain⟨m1,g1,k1⟩:=ih1
  obtain⟨m2,g2,k2⟩:=ih2
  exact⟨_,qa2 (qrn h g1) g2,by simp only[Ss.fo,qaE,qej,qcj]; omega⟩
 |case8=>exact⟨0,fun _=>rfl,by omega⟩
end
section
open Gr
def vOp(op n lo hi:Int):Prop:=(1<=op/\op<=21) /\
 if op=1 then -2147483647<=n/\n<=2147483647
 else if op=2\/op=3 then 0<=n/\n<=15
 else if op=4 then 0<=n/\n<=7
 else if op=5 then 0<=n/\n<=5
 else if op=18\/op=19 then lo<=n/\n<=hi
 else n=0
theorem qcr{op n lo hi lo' hi':Int}(h:vOp op n lo hi)(h1:lo'<=lo)(h2:hi<=hi'):vOp op n lo' hi':=by
 obtain⟨h0,h⟩:=h
 refine⟨h0,?_⟩
 split at h
 ·rw[if_pos (by assumption)]; exact h
 rw[if_neg (by assumption)]
 split at h
 ·rw[if_pos (by assumption)]; exact h
 rw[if_neg (by assumption)]
 split at h
 ·rw[if_pos (by assumption)]; exact h
 rw[if_neg (by assumption)]
 split at h
 ·rw[if_pos (by assumption)]; exact h
 rw[if_neg (by assumption)]
 split at h
 ·rw[if_pos (by assumption)]; omega
 rw[if_neg (by assumption)]; exact h
def qnL(op n q:Int):List Int:=if op=21 then [] else if op=18 then [n] else if op=19 then [q+1,n] else [q+1]
theorem qus(c:Cd)(i:Nat):qgg c i=qnL (opA c i) (nA c i) i:=rfl
structure Sg(C:Int->Cd)(n:Nat)(k:Int)(st:Bool)(h:Int)(D:Int->Nat->Int):Prop where
 ln:Ln C n
 beg : ∀ d,D d 0=d
 fin : ∀ d,D d n=d+k
 ok : ∀ p i,i<n->vOp (opA (C p) i) (nA (C p) i) p (p+n)
 pop : ∀ p d i,i<n->qeC (opA (C p) i)<=D d i-d
 flow : ∀ p d i,i<n -> ∀ j∈qnL (opA (C p) i) (nA (C p) i) (p+i),p<=j/\j<=p+n/\D d (j-p).toNat=D d i+(qdp (opA (C p) i)-qeC (opA (C p) i))
 stp : ∀ p d i,i<n->opA (C p) i=21->st=true/\D d i=d
 hi : ∀ d i,i<=n->D d i<=d+h
def SgE(C:Int->Cd)(n:Nat)(k:Int)(st:Bool)(h:Int):Prop := ∃ D,Sg C n k st h D
theorem SgE.mono{C:Int->Cd}{n:Nat}{k h h':Int}{st:Bool}(g:SgE C n k st h)(e:h<=h'):SgE C n k st h':=by
 obtain⟨D,g⟩:=g
 exact⟨D,{ g with hi:=fun d i hi=>by have:=g.hi d i hi; omega }⟩
theorem qdI{a b:Cd}{i:Nat}(h:i<a.length):opA (a++b) i=opA a i/\nA (a++b) i=nA a i:=by
 simp[opA,nA,Wn,List.getElem?_append,h]
theorem qb5{a b:Cd}{i:Nat}(h : ¬ i<a.length):opA (a++b) i=opA b (i-a.length)/\nA (a++b) i=nA b (i-a.length):=by
 simp[opA,nA,Wn,List.getElem?_append,h]
theorem qiY{op n:Int}(ho:op≠18/\op≠19/\op≠21)(hv:vOp op n 0 0)(hp:qeC op=0)(hk:1=qdp op):SgE (fun _=>[(op,n)]) 1 1 false 1:=by
 have hv' : ∀ p,vOp op n p (p+(1:Nat)):=fun p=>by
  obtain⟨h0,h⟩:=hv
  refine⟨h0,?_⟩
  have hj : ¬ (op=18\/op=19):=by omega
  rw[if_neg hj] at h ⊢
  exact h
 refine⟨fun d i=>if i=0 then d else d+1,⟨fun _=>rfl,fun d=>rfl,fun d=>rfl,?_,?_,?_,?_,fun d i _=>?_⟩⟩
 ·intro p i hi
  obtain rfl:i=0:=by omega
  exact hv' p
 ·intro p d i hi
  obtain rfl:i=0:=by omega
  show qeC op<=_
  simp[hp]
 ·intro p d i hi j hj
  obtain rfl:i=0:=by omega
  have e:qnL (opA [(op,n)] 0) (nA [(op,n)] 0) (p+(0:Nat))=[p+1]:=by
   show qnL op n _=_
   simp[qnL,ho]
  rw[e] at hj
  simp only[Wk] at hj
  subst hj
  refine⟨by omega,by omega,?_⟩
  have:(p+1-p).toNat=1:=by omega
  rw[this]
  show d+1=d+(qdp op-qeC op)
  omega
 ·intro p d i hi h
  obtain rfl:i=0:=by omega
  exact absurd h ho.2.2
 ·show (if i=0 then d else d+1)<=d+1
  split<;>omega
theorem qut{h:Int}(h0:0<=h):SgE (fun _=>[(21,0)]) 1 0 true h:=by
 refine⟨fun d i=>d,⟨fun _=>rfl,fun d=>rfl,fun d=>by omega,?_,?_,?_,?_,fun d i _=>by omega⟩⟩
 ·intro p i hi
  obtain rfl:i=0:=by omega
  exact⟨⟨by show (1:Int)<=21; omega,by show (21:Int)<=21; omega⟩,rfl⟩
 ·intro p d i hi
  obtain rfl:i=0:=by omega
  show (0:Int)<=_
  omega
 ·intro p d i hi j hj
  obtain rfl:i=0:=by omega
  have e:qnL (opA [((21:Int),(0:Int))] 0) (nA [((21:Int),(0:Int))] 0) (p+(0:Nat))=[]:=rfl
  rw[e] at hj; cases hj
 ·intro p d i hi h; exact⟨rfl,rfl⟩
theorem qsD{h:Int}(h0:0<=h):SgE (fun _=>[]) 0 0 false h:=
 ⟨fun d i=>d,⟨fun _=>rfl,fun d=>rfl,fun d=>by omega,fun p i h=>by omega,fun p d i h=>by omega,fun p d i h=>by omega,fun p d i h=>by omega,fun d i _=>by omega⟩⟩
theorem qjX{A B:Int->Cd}{n m:Nat}{k l:Int}{s t:Bool}{h1 h2 h:Int}(ha:SgE A n k s h1)(hb:SgE B m l t h2)(hk:0<=k)(ht:t=true->k=0)(e1:h1<=h)(e2:k+h2<=h):SgE (sq A B) (n+m) (k+l) (s||t) h:=by
 obtain⟨DA,a⟩:=ha
 obtain⟨DB,b⟩:=hb
 have dat : ∀ d i,n<=i->(if i<n then DA d i else DB (d+k) (i-n))=DB (d+k) (i-n):=fun d i h=>if_neg (by omega)
 have dle : ∀ d i,i<=n->(if i<n then DA d i else DB (d+k) (i-n))=DA d i:=fun d i h=>by
  by_cases h':i<n
  ·rw[if_pos h']
  ·obtain rfl:i=n:=by omega
   rw[if_neg h',Nat.sub_self,b.beg,a.fin]
 have opl : ∀ p i,i<n->opA (sq A B p) i=opA (A p) i/\nA (sq A B p) i=nA (A p) i:=fun p i h=>qdI (by rw[a.ln p]; exact h)
 have opr : ∀ p i,n<=i->opA (sq A B p) i=opA (B (p+n)) (i-n)/\nA (sq A B p) i=nA (B (p+n)) (i-n):=fun p i h=>by
  have:=qb5 (a:=A p) (b:=B (p+(A p).length)) (i:=i) (by rw[a.ln p]; omega)
  rw[a.ln p] at this
  exact⟨by rw[sq,a.ln p]; exact this.1,by rw[sq,a.ln p]; exact this.2⟩
 refine⟨fun d i=>if i<n then DA d i else DB (d+k) (i-n),⟨qa2 a.ln b.ln,fun d=>?_,fun d=>?_,?_,?_,?_,?_,fun d i hi=>?_⟩⟩
 ·rw[dle d 0 (by omega),a.beg]
 ·rw[dat d _ (by omega),show n+m-n=m by omega,b.fin]; omega
 ·intro p i hi
  by_cases h:i<n
  ·rw[(opl p i h).1,(opl p i h).2]
   exact qcr (a.ok p i h) (by omega) (by omega)
  ·rw[(opr p i (by omega)).1,(opr p i (by omega)).2]
   exact qcr (b.ok (p+n) (i-n) (by omega)) (by omega) (by omega)
 ·intro p d i hi
  by_cases h:i<n
  ·rw[(opl p i h).1]
   show _<=(if i<n then DA d i else DB (d+k) (i-n))-d
   rw[dle d i (by omega)]; exact a.pop p d i h
  ·rw[(opr p i (by omega)).1]
   show _<=(if i<n then DA d i else DB (d+k) (i-n))-d
   rw[dat d i (by omega)]
   have:=b.pop (p+n) (d+k) (i-n) (by omega)
   omega
 ·intro p d i hi j hj
  show _/\_/\(if (j-p).toNat<n then DA d (j-p).toNat else DB (d+k) ((j-p).toNat-n))=(if i<n then DA d i else DB (d+k) (i-n))+_
  by_cases h:i<n
  ·rw[(opl p i h).1,(opl p i h).2] at hj
   rw[(opl p i h).1]
   obtain⟨q1,q2,q3⟩:=a.flow p d i h j hj
   rw[dle d i (by omega),dle d _ (by omega)]
   exact⟨q1,by omega,q3⟩
  ·rw[(opr p i (by omega)).1,(opr p i (by omega)).2,show p+(i:Int)=(p+n)+((i-n:Nat):Int) by omega] at hj
   rw[(opr p i (by omega)).1]
   obtain⟨q1,q2,q3⟩:=b.flow (p+n) (d+k) (i-n) (by omega) j hj
   rw[dat d i (by omega),dat d _ (by omega),show (j-p).toNat-n=(j-(p+n)).toNat by omega]
   exact⟨by omega,by omega,q3⟩
 ·intro p d i hi h
  show _/\(if i<n then DA d i else DB (d+k) (i-n))=d
  by_cases h':i<n
  ·rw[(opl p i h').1] at h
   obtain⟨q1,q2⟩:=a.stp p d i h' h
   rw[dle d i (by omega)]; exact⟨by rw[q1]; rfl,q2⟩
  ·rw[(opr p i (by omega)).1] at h
   obtain⟨q1,q2⟩:=b.stp (p+n) (d+k) (i-n) (by omega) h
   rw[dat d i (by omega),q2,ht q1]
   exact⟨by rw[q1]; simp,by omega⟩
 ·show (if i<n then DA d i else DB (d+k) (i-n))<=d+h
  by_cases h':i<n
  ·rw[if_pos h']; have:=a.hi d i (by omega); omega
  ·rw[if_neg h']; have:=b.hi (d+k) (i-n) (by omega); omega
theorem qlO{A:Int->Cd}{n:Nat}{k l op x h0 h:Int}{s:Bool}(ha:SgE A n k s h0)(hs:s=false)(hk:0<=k)(ho:op≠18/\op≠19/\op≠21)(hv:vOp op x 0 0)(hp:qeC op<=k)(hl:l=k+qdp op-qeC op)(e1:h0<=h)(e2:l<=h):SgE (snC A (op,x)) (n+1) l false h:=by
 obtain⟨D,a⟩:=ha
 have hv' : ∀ p q,vOp op x p q:=fun p q=>by
  obtain⟨h0,h⟩:=hv
  refine⟨h0,?_⟩
  have hj : ¬ (op=18\/op=19):=by omega
  rw[if_neg hj] at h ⊢
  exact h
 have opl : ∀ p i,i<n->opA (snC A (op,x) p) i=opA (A p) i/\nA (snC A (op,x) p) i=nA (A p) i:=fun p i h=>qdI (by rw[a.ln p]; exact h)
 have opr : ∀ p,opA (snC A (op,x) p) n=op/\nA (snC A (op,x) p) n=x:=fun p=>by
  have:=qb5 (a:=A p) (b:=[(op,x)]) (i:=n) (by rw[a.ln p]; omega)
  rw[a.ln p,Nat.sub_self] at this
  exact this
 have dle : ∀ d i,i<=n->(if i<=n then D d i else d+l)=D d i:=fun d i h=>if_pos h
 refine⟨fun d i=>if i<=n then D d i else d+l,⟨qbv a.ln,fun d=>?_,fun d=>if_neg (by omega),?_,?_,?_,?_,fun d i hi=>?_⟩⟩
 ·rw[dle d 0 (by omega),a.beg]
 ·intro p i hi
  by_cases h:i<n
  ·rw[(opl p i h).1,(opl p i h).2]
   exact qcr (a.ok p i h) (by omega) (by omega)
  ·obtain rfl:i=n:=by omega
   rw[(opr p).1,(opr p).2]; exact hv' _ _
 ·intro p d i hi
  show _<=(if i<=n then D d i else d+l)-d
  rw[dle d i (by omega)]
  by_cases h:i<n
  ·rw[(opl p i h).1]; exact a.pop p d i h
  ·obtain rfl:i=n:=by omega
   rw[(opr p).1,a.fin]; omega
 ·intro p d i hi j hj
  show _/\_/\(if (j-p).toNat<=n then D d (j-p).toNat else d+l)=(if i<=n then D d i else d+l)+_
  rw[dle d i (by omega)]
  by_cases h:i<n
  ·rw[(opl p i h).1,(opl p i h).2] at hj
   rw[(opl p i h).1]
   obtain⟨q1,q2,q3⟩:=a.flow p d i h j hj
   rw[dle d _ (by omega)]
   exact⟨q1,by omega,q3⟩
  ·obtain rfl:i=n:=by omega
   rw[(opr p).1,(opr p).2] at hj
   rw[(opr p).1]
   have e:qnL op x (p+i)=[p+i+1]:=by simp[qnL,ho]
   rw[e] at hj
   simp only[Wk] at hj
   subst hj
   rw[if_neg (by omega),a.fin]
   exact⟨by omega,by omega,by omega⟩
 ·intro p d i hi h
  by_cases h':i<n
  ·rw[(opl p i h').1] at h
   have:=(a.stp p d i h' h).1
   rw[hs] at this; cases this
  ·obtain rfl:i=n:=by omega
   rw[(opr p).1] at h
   exact absurd h ho.2.2
 ·show (if i<=n then D d i else d+l)<=d+h
  by_cases h':i<=n
  ·rw[if_pos h']; have:=a.hi d i h'; omega
  ·rw[if_neg h']; omega
end
section
open Gr
theorem pop19:qeC 19=1/\qdp 19=0/\qeC 18=0/\qdp 18=0:=by decide
theorem qtK{C A B:Int->Cd}{n m q:Nat}{k h:Int}{s t:Bool}(hC:SgE C n 1 false h)(hA:SgE A m k s h)(hB:SgE B q k t h)(hk:0<=k):SgE (brC C A B) (n+m+q+2) k (s||t) h:=by
 obtain⟨DC,c⟩:=hC
 obtain⟨DA,a⟩:=hA
 obtain⟨DB,b⟩:=hB
 have eq : ∀ p,brC C A B p=C p++((19,p+n+1+m+1)::(A (p+n+1)++((18,p+n+1+m+1+q)::B (p+n+1+m+1)))):=fun p=>by
  simp only[brC,c.ln p,a.ln _,b.ln _]
 have o1 : ∀ p i,i<n->opA (brC C A B p) i=opA (C p) i/\nA (brC C A B p) i=nA (C p) i:=fun p i h=>by
  rw[eq]; exact qdI (by rw[c.ln p]; exact h)
 have o2 : ∀ p,opA (brC C A B p) n=19/\nA (brC C A B p) n=p+n+1+m+1:=fun p=>by
  rw[eq]
  have:=qb5 (a:=C p) (b:=(19,p+n+1+m+1)::(A (p+n+1)++((18,p+n+1+m+1+q)::B (p+n+1+m+1)))) (i:=n) (by rw[c.ln p]; omega)
  rw[c.ln p,Nat.sub_self] at this
  exact this
 have o3 : ∀ p i,i<m->opA (brC C A B p) (n+1+i)=opA (A (p+n+1)) i/\nA (brC C A B p) (n+1+i)=nA (A (p+n+1)) i:=fun p i h=>by
  rw[eq]
  have:=qb5 (a:=C p++[(19,p+n+1+m+1)]) (b:=A (p+n+1)++((18,p+n+1+m+1+q)::B (p+n+1+m+1))) (i:=n+1+i) (by simp[c.ln p]<;>omega)
  simp only[Wo,Wh,Wg,Wb,c.ln p,Wd,Wj] at this
  rw[show n+1+i-(n+(0+1))=i by omega] at this
  have l:=qdI (a:=A (p+n+1)) (b:=(18,p+n+1+m+1+q)::B (p+n+1+m+1)) (i:=i) (by rw[a.ln _]; exact h)
  exact⟨this.1.trans l.1,this.2.trans l.2⟩
 have o4 : ∀ p,opA (brC C A B p) (n+1+m)=18/\nA (brC C A B p) (n+1+m)=p+n+1+m+1+q:=fun p=>by
  rw[eq]
  have:=qb5 (a:=C p++((19,p+n+1+m+1)::A (p+n+1))) (b:=(18,p+n+1+m+1+q)::B (p+n+1+m+1)) (i:=n+1+m) (by simp[c.ln p,a.ln _]<;>omega)
  simp only[Wo,Wh,Wb,c.ln p,a.ln _,Wd] at this
  rw[show n+1+m-(n+(m+1))=0 by omega] at this
  exact this
 have o5 : ∀ p i,i<q->opA (brC C A B p) (n+1+m+1+i)=opA (B (p+n+1+m+1)) i/\nA (brC C A B p) (n+1+m+1+i)=nA (B (p+n+1+m+1)) i:=fun p i h=>by
  rw[eq]
  have:=qb5 (a:=C p++((19,p+n+1+m+1)::(A (p+n+1)++[(18,p+n+1+m+1+q)]))) (b:=B (p+n+1+m+1)) (i:=n+1+m+1+i) (by simp[c.ln p,a.ln _]<;>omega)
  simp only[Wo,Wh,Wg,Wb,c.ln p,a.ln _,Wd,Wj] at this
  rw[show n+1+m+1+i-(n+(m+(0+1)+1))=i by omega] at this
  exact this
 let D:Int->Nat->Int:=fun d i=>if i<=n then DC d i else if i<=n+1+m then DA d (i-n-1) else DB d (i-n-m-2)
 have d1 : ∀ d i,i<=n->D d i=DC d i:=fun d i h=>if_pos h
 have d3 : ∀ d i,i<=m->D d (n+1+i)=DA d i:=fun d i h=>by
  show (if _ then _ else if _ then _ else _)=_
  rw[if_neg (by omega),if_pos (by omega)]; congr 1; omega
 have d5 : ∀ d i,D d (n+1+m+1+i)=DB d i:=fun d i=>by
  show (if _ then _ else if _ then _ else _)=_
  rw[if_neg (by omega),if_neg (by omega)]; congr 1; omega
 have pos : ∀ i,i<n+m+q+2->i<n\/i=n\/(∃ j,j<m/\i=n+1+j)\/i=n+1+m \/ ∃ j,j<q/\i=n+1+m+1+j:=fun i hi=>by
  by_cases h1:i<n
  ·exact .inl h1
  by_cases h2:i=n
  ·exact .inr (.inl h2)
  by_cases h3:i<n+1+m
  ·exact .inr (.inr (.inl ⟨i-n-1,by omega,by omega⟩))
  by_cases h4:i=n+1+m
  ·exact .inr (.inr (.inr (.inl h4)))
  ·exact .inr (.inr (.inr (.inr ⟨i-n-m-2,by omega,by omega⟩)))
 refine⟨D,⟨qin c.ln a.ln b.ln,fun d=>?_,fun d=>?_,?_,?_,?_,?_,fun d i hi=>?_⟩⟩
 ·rw[d1 d 0 (by omega),c.beg]
 ·rw[show n+m+q+2=n+1+m+1+q by omega,d5,b.fin]
 ·intro p i hi
  rcases pos i hi with h|rfl|⟨j,hj,rfl⟩|rfl|⟨j,hj,rfl⟩
  ·rw[(o1 p i h).1,(o1 p i h).2]; exact qcr (c.ok p i h) (by omega) (by omega)
  ·rw[(o2 p).1,(o2 p).2]; exact⟨by omega,by rw[if_neg (by omega),if_neg (by omega),if_neg (by omega),if_neg (by omega),if_pos (by omega)]; omega⟩
  ·rw[(o3 p j hj).1,(o3 p j hj).2]; exact qcr (a.ok _ j hj) (by omega) (by omega)
  ·rw[(o4 p).1,(o4 p).2]; exact⟨by omega,by rw[if_neg (by omega),if_neg (by omega),if_neg (by omega),if_neg (by omega),if_pos (by omega)]; omega⟩
  ·rw[(o5 p j hj).1,(o5 p j hj).2]; exact qcr (b.ok _ j hj) (by omega) (by omega)
 ·intro p d i hi
  rcases pos i hi with h|rfl|⟨j,hj,rfl⟩|rfl|⟨j,hj,rfl⟩
  ·rw[(o1 p i h).1,d1 d i (by omega)]; exact c.pop p d i h
  ·rw[(o2 p).1,d1 d i (by omega),c.fin,pop19.1]; omega
  ·rw[(o3 p j hj).1,d3 d j (by omega)]; exact a.pop _ d j hj
  ·rw[(o4 p).1,d3 d m (by omega),a.fin,pop19.2.2.1]; omega
  ·rw[(o5 p j hj).1,d5]; exact b.pop _ d j hj
 ·intro p d i hi j hj
  rcases pos i hi with h|rfl|⟨r,hr,rfl⟩|rfl|⟨r,hr,rfl⟩
  ·rw[(o1 p i h).1,(o1 p i h).2] at hj
   rw[(o1 p i h).1,d1 d i (by omega)]
   obtain⟨q1,q2,q3⟩:=c.flow p d i h j hj
   rw[d1 d _ (by omega)]
   exact⟨q1,by omega,q3⟩
  ·rw[(o2 p).1,(o2 p).2] at hj
   have e:qnL 19 (p+i+1+m+1) (p+i)=[p+i+1,p+i+1+m+1]:=rfl
   rw[e] at hj
   rw[(o2 p).1,d1 d i (by omega),c.fin,pop19.1,pop19.2.1]
   simp only[Wp,Ws,or_false] at hj
   rcases hj with rfl|rfl
   ·rw[show (p+i+1-p).toNat=i+1+0 by omega,d3 d 0 (by omega),a.beg]
    exact⟨by omega,by omega,by omega⟩
   ·rw[show (p+i+1+m+1-p).toNat=i+1+m+1+0 by omega,d5,b.beg]
    exact⟨by omega,by omega,by omega⟩
  ·rw[(o3 p r hr).1,(o3 p r hr).2,show p+((n+1+r:Nat):Int)=(p+n+1)+r by omega] at hj
   rw[(o3 p r hr).1,d3 d r (by omega)]
   obtain⟨q1,q2,q3⟩:=a.flow (p+n+1) d r hr j hj
   rw[show (j-p).toNat=n+1+(j-(p+n+1)).toNat by omega,d3 d _ (by omega)]
   exact⟨by omega,by omega,q3⟩
  ·rw[(o4 p).1,(o4 p).2] at hj
   have e : ∀ x y,qnL 18 x y=[x]:=fun _ _=>rfl
   rw[e] at hj
   rw[(o4 p).1,d3 d m (by omega),a.fin,pop19.2.2.1,pop19.2.2.2]
   simp only[Wk] at hj
   subst hj
   rw[show (p+n+1+m+1+q-p).toNat=n+1+m+1+q by omega,d5,b.fin]
   exact⟨by omega,by omega,by omega⟩
  ·rw[(o5 p r hr).1,(o5 p r hr).2,show p+((n+1+m+1+r:Nat):Int)=(p+n+1+m+1)+r by omega] at hj
   rw[(o5 p r hr).1,d5]
   obtain⟨q1,q2,q3⟩:=b.flow (p+n+1+m+1) d r hr j hj
   rw[show (j-p).toNat=n+1+m+1+(j-(p+n+1+m+1)).toNat by omega,d5]
   exact⟨by omega,by omega,q3⟩
 ·intro p d i hi h
  rcases pos i hi with h'|rfl|⟨j,hj,rfl⟩|rfl|⟨j,hj,rfl⟩
  ·rw[(o1 p i h').1] at h
   have:=(c.stp p d i h' h).1
   cases this
  ·rw[(o2 p).1] at h; omega
  ·rw[(o3 p j hj).1] at h
   obtain⟨q1,q2⟩:=a.stp _ d j hj h
   rw[d3 d j (by omega)]
   exact⟨by rw[q1]; rfl,q2⟩
  ·rw[(o4 p).1] at h; omega
  ·rw[(o5 p j hj).1] at h
   obtain⟨q1,q2⟩:=b.stp _ d j hj h
   rw[d5]
   exact⟨by rw[q1]; simp,q2⟩
 ·show (if i<=n then DC d i else if i<=n+1+m then DA d (i-n-1) else DB d (i-n-m-2))<=d+h
  split
  ·exact c.hi d i (by omega)
  ·split
   ·exact a.hi d _ (by omega)
   ·exact b.hi d _ (by omega)
theorem qyN{C A:Int->Cd}{n m:Nat}{h:Int}{s:Bool}(hC:SgE C n 1 false h)(hA:SgE A m 0 s h):SgE (whC C A) (n+m+2) 0 s h:=by
 obtain⟨DC,c⟩:=hC
 obtain⟨DA,a⟩:=hA
 have eq : ∀ p,whC C A p=C p++((19,p+n+1+m+1)::(A (p+n+1)++[(18,p)])):=fun p=>by
  simp only[whC,c.ln p,a.ln _]
 have o1 : ∀ p i,i<n->opA (whC C A p) i=opA (C p) i/\nA (whC C A p) i=nA (C p) i:=fun p i h=>by
  rw[eq]; exact qdI (by rw[c.ln p]; exact h)
 have o2 : ∀ p,opA (whC C A p) n=19/\nA (whC C A p) n=p+n+1+m+1:=fun p=>by
  rw[eq]
  have:=qb5 (a:=C p) (b:=(19,p+n+1+m+1)::(A (p+n+1)++[(18,p)])) (i:=n) (by rw[c.ln p]; omega)
  rw[c.ln p,Nat.sub_self] at this
  exact this
 have o3 : ∀ p i,i<m->opA (whC C A p) (n+1+i)=opA (A (p+n+1)) i/\nA (whC C A p) (n+1+i)=nA (A (p+n+1)) i:=fun p i h=>by
  rw[eq]
  have:=qb5 (a:=C p++[(19,p+n+1+m+1)]) (b:=A (p+n+1)++[(18,p)]) (i:=n+1+i) (by simp[c.ln p]<;>omega)
  simp only[Wo,Wh,Wg,Wb,c.ln p,Wd,Wj] at this
  rw[show n+1+i-(n+(0+1))=i by omega] at this
  have l:=qdI (a:=A (p+n+1)) (b:=[(18,p)]) (i:=i) (by rw[a.ln _]; exact h)
  exact⟨this.1.trans l.1,this.2.trans l.2⟩
 have o4 : ∀ p,opA (whC C A p) (n+1+m)=18/\nA (whC C A p) (n+1+m)=p:=fun p=>by
  rw[eq]
  have:=qb5 (a:=C p++((19,p+n+1+m+1)::A (p+n+1))) (b:=[(18,p)]) (i:=n+1+m) (by simp[c.ln p,a.ln _]<;>omega)
  simp only[Wo,Wh,Wb,c.ln p,a.ln _,Wd] at this
  rw[show n+1+m-(n+(m+1))=0 by omega] at this
  exact this
 let D:Int->Nat->Int:=fun d i=>if i<=n then DC d i else if i<=n+1+m then DA d (i-n-1) else d
 have d1 : ∀ d i,i<=n->D d i=DC d i:=fun d i h=>if_pos h
 have d3 : ∀ d i,i<=m->D d (n+1+i)=DA d i:=fun d i h=>by
  show (if _ then _ else if _ then _ else _)=_
  rw[if_neg (by omega),if_pos (by omega)]; congr 1; omega
 have d5 : ∀ d,D d (n+1+m+1)=d:=fun d=>by
  show (if _ then _ else if _ then _ else _)=_
  rw[if_neg (by omega),if_neg (by omega)]
 have pos : ∀ i,i<n+m+2->i<n\/i=n\/(∃ j,j<m/\i=n+1+j)\/i=n+1+m:=fun i hi=>by
  by_cases h1:i<n
  ·exact .inl h1
  by_cases h2:i=n
  ·exact .inr (.inl h2)
  by_cases h3:i<n+1+m
  ·exact .inr (.inr (.inl ⟨i-n-1,by omega,by omega⟩))
  ·exact .inr (.inr (.inr (by omega)))
 refine⟨D,⟨qrn c.ln a.ln,fun d=>?_,fun d=>?_,?_,?_,?_,?_,fun d i hi=>?_⟩⟩
 ·rw[d1 d 0 (by omega),c.beg]
 ·rw[show n+m+2=n+1+m+1 by omega,d5]; omega
 ·intro p i hi
  rcases pos i hi with h|rfl|⟨j,hj,rfl⟩|rfl
  ·rw[(o1 p i h).1,(o1 p i h).2]; exact qcr (c.ok p i h) (by omega) (by omega)
  ·rw[(o2 p).1,(o2 p).2]; exact⟨by omega,by rw[if_neg (by omega),if_neg (by omega),if_neg (by omega),if_neg (by omega),if_pos (by omega)]; omega⟩
  ·rw[(o3 p j hj).1,(o3 p j hj).2]; exact qcr (a.ok _ j hj) (by omega) (by omega)
  ·rw[(o4 p).1,(o4 p).2]; exact⟨by omega,by rw[if_neg (by omega),if_neg (by omega),if_neg (by omega),if_neg (by omega),if_pos (by omega)]; omega⟩
 ·intro p d i hi
  rcases pos i hi with h|rfl|⟨j,hj,rfl⟩|rfl
  ·rw[(o1 p i h).1,d1 d i (by omega)]; exact c.pop p d i h
  ·rw[(o2 p).1,d1 d i (by omega),c.fin,pop19.1]; omega
  ·rw[(o3 p j hj).1,d3 d j (by omega)]; exact a.pop _ d j hj
  ·rw[(o4 p).1,d3 d m (by omega),a.fin,pop19.2.2.1]; omega
 ·intro p d i hi j hj
  rcases pos i hi with h|rfl|⟨r,hr,rfl⟩|rfl
  ·rw[(o1 p i h).1,(o1 p i h).2] at hj
   rw[(o1 p i h).1,d1 d i (by omega)]
   obtain⟨q1,q2,q3⟩:=c.flow p d i h j hj
   rw[d1 d _ (by omega)]
   exact⟨q1,by omega,q3⟩
  ·rw[(o2 p).1,(o2 p).2] at hj
   have e:qnL 19 (p+i+1+m+1) (p+i)=[p+i+1,p+i+1+m+1]:=rfl
   rw[e] at hj
   rw[(o2 p).1,d1 d i (by omega),c.fin,pop19.1,pop19.2.1]
   simp only[Wp,Ws,or_false] at hj
   rcases hj with rfl|rfl
   ·rw[show (p+i+1-p).toNat=i+1+0 by omega,d3 d 0 (by omega),a.beg]
    exact⟨by omega,by omega,by omega⟩
   ·rw[show (p+i+1+m+1-p).toNat=i+1+m+1 by omega,d5]
    exact⟨by omega,by omega,by omega⟩
  ·rw[(o3 p r hr).1,(o3 p r hr).2,show p+((n+1+r:Nat):Int)=(p+n+1)+r by omega] at hj
   rw[(o3 p r hr).1,d3 d r (by omega)]
   obtain⟨q1,q2,q3⟩:=a.flow (p+n+1) d r hr j hj
   rw[show (j-p).toNat=n+1+(j-(p+n+1)).toNat by omega,d3 d _ (by omega)]
   exact⟨by omega,by omega,q3⟩
  ·rw[(o4 p).1,(o4 p).2] at hj
   have e : ∀ x y,qnL 18 x y=[x]:=fun _ _=>rfl
   rw[e] at hj
   rw[(o4 p).1,d3 d m (by omega),a.fin,pop19.2.2.1,pop19.2.2.2]
   simp only[Wk] at hj
   subst hj
   rw[show (j-j).toNat=0 by omega,d1 d 0 (by omega),c.beg]
   exact⟨by omega,by omega,by omega⟩
 ·intro p d i hi h
  rcases pos i hi with h'|rfl|⟨j,hj,rfl⟩|rfl
  ·rw[(o1 p i h').1] at h
   have:=(c.stp p d i h' h).1
   cases this
  ·rw[(o2 p).1] at h; omega
  ·rw[(o3 p j hj).1] at h
   obtain⟨q1,q2⟩:=a.stp _ d j hj h
   rw[d3 d j (by omega)]
   exact⟨q1,q2⟩
  ·rw[(o4 p).1] at h; omega
 ·have h0:=c.hi d 0 (by omega)
  rw[c.beg] at h0
  show (if i<=n then DC d i else if i<=n+1+m then DA d (i-n-1) else d)<=d+h
  split
  ·exact c.hi d i (by omega)
  ·split
   ·exact a.hi d _ (by omega)
   ·exact h0
def E.inV(vs:List ByteArray):E->Prop
 |.var s=>s∈vs
 |.field _ _ e=>e.inV vs
 |.un _ _ e=>e.inV vs
 |.bin _ _ a b=>a.inV vs/\b.inV vs
 |_=>True
def Ss.inV(vs:List ByteArray):Ss->Prop
 |.nil=>True
 |.assign _ s e r=>(s∈vs/\e.inV vs)/\r.inV vs
 |.store _ _ a b r=>(a.inV vs/\b.inV vs)/\r.inV vs
 |.effect _ a b r=>(a.inV vs/\b.inV vs)/\r.inV vs
 |.stop r=>r.inV vs
 |.cond _ _ c b r=>c.inV vs/\b.inV vs/\r.inV vs
 |.block _ b r=>b.inV vs/\r.inV vs
theorem qjK{vs:List ByteArray}{s:ByteArray}(h:s∈vs):0<=ixI vs s/\ixI vs s<vs.length:=by
 induction vs with
 |nil=>cases h
 |cons x l ih=>
  simp only[ixI,Wd]
  split
  ·omega
  ·rename_i hx
   have:=ih ((Wp.1 h).resolve_left fun e=>hx e.symm)
   rw[if_neg (by omega)]
   omega
theorem qkJ{s:ByteArray}(h:s∈qir):0<=fieldI s/\fieldI s<=5:=by
 simp only[qir,Wp,Ws,or_false] at h
 rcases h with rfl|rfl|rfl|rfl|rfl|rfl<;>decide
theorem qeF{s:ByteArray}(h:s∈qdB):0<=fieldI s/\fieldI s<=7:=by
 simp only[qdB,qir,Wh,Wg,Wp,Ws,or_false] at h
 rcases h with rfl|rfl|rfl|rfl|rfl|rfl|rfl|rfl<;>decide
theorem qhR(s:ByteArray):nameI s=6\/nameI s=7\/nameI s=8:=by unfold nameI; split<;>(try split)<;>simp
def E.hh:E->Int
 |.field _ _ e=>e.hh
 |.un _ _ e=>e.hh
 |.bin _ _ a b=>max a.hh b.hh+1
 |_=>1
theorem E.hh_pos(e:E):1<=e.hh:=by induction e<;>simp only[E.hh]<;>omega
def Ss.hh:Ss->Int
 |.nil=>0
 |.assign _ _ e r=>max e.hh r.hh
 |.store _ _ a b r=>max (max a.hh (b.hh+1)) r.hh
 |.effect _ a b r=>max (max a.hh (b.hh+1)) r.hh
 |.stop r=>r.hh
 |.cond _ _ c b r=>max (max c.hh b.hh) r.hh
 |.block _ b r=>max b.hh r.hh
section
variable{vs:List ByteArray}(hv:vs.length<=16)
theorem qny{op:Int}(h:6<=op/\op<=21/\op≠18/\op≠19)(lo hi:Int):vOp op 0 lo hi:=
 ⟨by omega,by rw[if_neg (by omega),if_neg (by omega),if_neg (by omega),if_neg (by omega),if_neg (by omega)]⟩
theorem qqY{A B:Int->Cd}{n m:Nat}{op h:Int}(hA:SgE A n 1 false h)(hB:SgE B m 1 false h)(ho:6<=op/\op<=21/\op≠18/\op≠19/\op≠21)(h2:qeC op=2)(h1:qdp op=1)(h0:0<=h):SgE (snC (sq A B) (op,0)) (n+m+1) 1 false (h+1):=
 qlO (qjX (h:=h+1) hA hB (by omega) (fun h=>by cases h) (by omega) (by omega)) rfl (by omega) ⟨by omega,by omega,by omega⟩ (qny ⟨by omega,by omega,by omega,by omega⟩ 0 0) (by omega) (by omega) (by omega) (by omega)
theorem qwq{o:Bop}{A B:Int->Cd}{n m:Nat}{h:Int}(h0:0<=h)(hA:SgE A n 1 false h)(hB:SgE B m 1 false h) : ∃ k,SgE (binC o A B) k 1 false (h+1):=by
 cases o
 case and=>exact⟨_,qtK (hA.mono (by omega)) (hB.mono (by omega)) ((qiY (by omega) ⟨by omega,by decide⟩ (by decide) (by decide)).mono (by omega)) (by omega)⟩
 case or=>exact⟨_,qtK (hA.mono (by omega)) ((qiY (by omega) ⟨by omega,by decide⟩ (by decide) (by decide)).mono (by omega)) (hB.mono (by omega)) (by omega)⟩
 case gt=>exact⟨_,qqY hB hA (by omega) (by decide) (by decide) h0⟩
 case ge=>exact⟨_,qqY hB hA (by omega) (by decide) (by decide) h0⟩
 case ne=>exact⟨_,qlO (qqY hA hB (op:=16) (by omega) (by decide) (by decide) h0) rfl (by omega) (by omega) (qny (by omega) 0 0) (by decide) (by decide) (by omega) (by omega)⟩
 all_goals exact⟨_,qqY hA hB (by decide) (by decide) (by decide) h0⟩
theorem qwr{A:Int->Cd}{n:Nat}{op x h:Int}(hA:SgE A n 2 false h)(hv:vOp op x 0 0)(ho:op≠18/\op≠19/\op≠21)(h2:qeC op=2)(h1:qdp op=0)(h0:0<=h):SgE (snC A (op,x)) (n+1) 0 false h:=
 qlO hA rfl (by omega) ho hv (by omega) (by omega) (by omega) h0
include hv
theorem qn6 : ∀ e:E,e.fine->e.inV vs -> ∃ n,SgE (qat vs e) n 1 false e.hh
 |.int n,h,_=>⟨1,qiY (by omega) ⟨by omega,by rw[if_pos rfl]; have:=h; simp only[E.fine] at this; omega⟩ (by decide) (by decide)⟩
 |.bool n,h,_=>⟨1,qiY (by omega) ⟨by omega,by rw[if_pos rfl]; have:=h; simp only[E.fine] at this; omega⟩ (by decide) (by decide)⟩
 |.var s,_,h=>⟨1,qiY (by omega) ⟨by omega,by rw[if_neg (by omega),if_pos (by omega)]; have:=qjK h; omega⟩ (by decide) (by decide)⟩
 |.name s,_,_=>by
  rcases qhR s with e|e|e<;>exact⟨1,by rw[qat,e]; exact qiY (by omega) (qny (by omega) 0 0) (by decide) (by decide)⟩
 |.field _ s e,h,g=>let ⟨_,k⟩:=qn6 e h.2.1 g; ⟨_,qlO k rfl (by omega) (by omega) ⟨by omega,by rw[if_neg (by omega),if_neg (by omega),if_pos rfl]; exact qeF h.1⟩ (by decide) (by decide) (Int.le_refl _) e.hh_pos⟩
 |.un _ true e,h,g=>let ⟨_,k⟩:=qn6 e h.1 g; ⟨_,qlO k rfl (by omega) (by decide) (qny (by decide) 0 0) (by decide) (by decide) (Int.le_refl _) e.hh_pos⟩
 |.un _ false e,h,g=>let ⟨_,k⟩:=qn6 e h.1 g; ⟨_,qlO k rfl (by omega) (by decide) (qny (by decide) 0 0) (by decide) (by decide) (Int.le_refl _) e.hh_pos⟩
 |.bin _ o a b,h,g=>let ⟨_,k⟩:=qn6 a h.1 g.1; let ⟨_,k'⟩:=qn6 b h.2.1 g.2; qwq (by have:=a.hh_pos; omega) (k.mono (Int.le_max_left ..)) (k'.mono (Int.le_max_right ..))
theorem qAA{q:Int}(q0:0<=q)(b:Ss)(hf:b.fine)(hi:b.inV vs)(he:b.hh<=q) : ∃ n s,SgE (codeS vs b) n 0 s q:=by
 fun_induction codeS vs b with
 |case1=>exact⟨_,_,qsD q0⟩
 |case2 _ s e r ih=>
  simp only[Ss.hh] at he
  obtain⟨n,h⟩:=qn6 hv e hf.1.2.1 hi.1.2
  obtain⟨m,t,g⟩:=ih hf.2 hi.2 (by omega)
  exact⟨_,_,qjX (k:=0) (qlO h rfl (by omega) (by omega) ⟨by omega,by rw[if_neg (by omega),if_pos (by omega)]; have:=qjK hi.1.1; omega⟩ (by decide) (by decide) (show _<=q by omega) q0) g (by omega) (fun _=>rfl) (Int.le_refl _) (by omega)⟩
 |case3 _ s a b r ih=>
  simp only[Ss.hh] at he
  obtain⟨n,h⟩:=qn6 hv a hf.1.2.1 hi.1.1
  obtain⟨n',h'⟩:=qn6 hv b hf.1.2.2.2.1 hi.1.2
  obtain⟨m,t,g⟩:=ih hf.2 hi.2 (by omega)
  exact⟨_,_,qjX (k:=0) (qwr (qjX (h:=q) h h' (by omega) (fun h=>by cases h) (by omega) (by omega)) ⟨by omega,by rw[if_neg (by omega),if_neg (by omega),if_neg (by omega),if_pos rfl]; exact qkJ hf.1.1⟩ (by omega) (by decide) (by decide) q0) g (by omega) (fun _=>rfl) (Int.le_refl _) (by omega)⟩
 |case4 _ a b r ih=>
  simp only[Ss.hh] at he
  obtain⟨n,h⟩:=qn6 hv a hf.1.1 hi.1.1
  obtain⟨n',h'⟩:=qn6 hv b hf.1.2.2.1 hi.1.2
  obtain⟨m,t,g⟩:=ih hf.2 hi.2 (by omega)
  exact⟨_,_,qjX (k:=0) (qwr (qjX (h:=q) h h' (by omega) (fun h=>by cases h) (by omega) (by omega)) (qny (by omega) 0 0) (by omega) (by decide) (by decide) q0) g (by omega) (fun _=>rfl) (Int.le_refl _) (by omega)⟩
 |case5 r ih=>
  simp only[Ss.hh] at he
  obtain⟨m,t,g⟩:=ih hf hi he
  exact⟨_,_,qjX (qut q0) g (by omega) (fun _=>rfl) (Int.le_refl _) (by omega)⟩
 |case6 _ c _ x _ y r ih1 ih2 ih3=>
  simp only[Ss.hh] at he
  obtain⟨n,h⟩:=qn6 hv c hf.1.1 hi.1
  obtain⟨m1,t1,g1⟩:=ih1 hf.2.1 hi.2.1.1 (by omega)
  obtain⟨m2,t2,g2⟩:=ih2 hf.2.2.1 hi.2.1.2.1 (by omega)
  obtain⟨m3,t3,g3⟩:=ih3 hf.2.2.2 hi.2.2 (by omega)
  exact⟨_,_,qjX (qtK (h.mono (by omega)) g1 g2 (by omega)) g3 (by omega) (fun _=>rfl) (Int.le_refl _) (by omega)⟩
 |case7 _ c _ x r ih1 ih2=>
  simp only[Ss.hh] at he
  obtain⟨n,h⟩:=qn6 hv c hf.1.1 hi.1
  obtain⟨m1,t1,g1⟩:=ih1 hf.2.1 hi.2.1.1 (by omega)
  obtain⟨m2,t2,g2⟩:=ih2 hf.2.2 hi.2.2 (by omega)
  exact⟨_,_,qjX (qyN (h.mono (by omega)) g1) g2 (by omega) (fun _=>rfl) (Int.le_refl _) (by omega)⟩
 |case8=>exact⟨_,_,qsD q0⟩
end
end
section
open F Gr
set_option maxHeartbeats 2000000
structure St(w:List Int)(pc:Nat)(fu:Int)(stk cs:List Int):Prop where
 len:cs.length=w.length
 pc:getN cs 6=pc
 sp:getN cs 7=stk.length
 fu:getN cs 8=fu
 keep : ∀ j,j≠6->j≠7->j≠8->(j<16\/32<=j)->getN cs j=getN w j
 top : ∀ k (h:k<stk.length),getN cs (16+k)=stk[k]
structure Pre(w:List Int)(pc:Nat)(fu:Int)(rest:List Int)(q:Nat)(cs P:List Int):Prop where
 len:P.length=w.length
 pc:getN P 6=(pc+1:Nat)
 sp:getN P 7=(rest.length+q:Nat)
 fu:getN P 8=fu-1
 keep : ∀ j,j≠6->j≠7->j≠8->getN P j=getN cs j
section
variable{s:Su}{c:List (Nat × Int)}{w cs rest args:List Int}{pc op:Nat}{fu n a b:Int}
theorem qmd (h48:48<=w.length) (S:St w pc fu (rest++args) cs) (hc:c.getD pc (0,0)=(op,n)) (hl:pc<c.length) (hb:c.length<2 ^ 30) (hf:1<=fu/\fu<=2000) (hp:popsN op=args.length)
  (hab:(args=[]/\a=0/\b=0)\/(args=[a]/\b=0)\/args=[a,b]) (hr:rest.length+args.length<=16/\rest.length+pushN op<=16) (ho:operN op=0\/(0<=n/\n<operN op)) :
  qbY s c cs=⟨qcD s cs op n,decide ((op:Int)=21),exE (qcq cs op) op a b,exB (qcq cs op) op⟩/\qiS cs op=a/\qiT cs op=b/\Pre w pc fu rest (pushN op) cs (qcq cs op):=by
 have g6:getI cs 6=pc:=S.pc
 have g7:getI cs 7=(rest++args).length:=S.sp
 have g8:getI cs 8=fu:=S.fu
 have hlen:=S.len
 rw[Wb] at g7
 have hi:insAt c (getI cs 6)=(op,n):=by rw[g6]; exact hc
 have hcan:qeg c cs=true:=by
  unfold qeg
  rw[hi,g6,g7,g8]
  simp only[quQ,hp]
  simp
  omega
 have hA:qiS cs op=a:=by
  unfold qiS
  rcases hab with ⟨rfl,rfl,rfl⟩|⟨rfl,rfl⟩|rfl
  ·rw[if_pos (by simpa using hp)]
  ·rw[if_neg (by rw[hp]; simp),g7,hp]
   have:=S.top rest.length (by simp)
   simp at this
   show getN cs _=a
   rw[<- this]; congr 1; simp; omega
  ·rw[if_neg (by rw[hp]; simp),g7,hp]
   have:=S.top rest.length (by simp)
   simp at this
   show getN cs _=a
   rw[<- this]; congr 1; simp; omega
 have hB:qiT cs op=b:=by
  unfold qiT
  rcases hab with ⟨rfl,rfl,rfl⟩|⟨rfl,rfl⟩|rfl
  ·rw[if_neg (by rw[hp]; simp)]
  ·rw[if_neg (by rw[hp]; simp)]
  ·rw[if_pos (by simpa using hp),g7,hp]
   have:=S.top (rest.length+1) (by simp)
   simp at this
   show getN cs _=b
   rw[<- this]; congr 1; simp; omega
 refine⟨?_,hA,hB,?_⟩
 ·unfold qbY
  rw[if_pos hcan]
  simp only[hi,hA,hB]
 ·have w6:wr (getI cs 6+1)=(pc+1:Nat):=by rw[g6]; rw[show wr ((pc:Int)+1)=(pc:Int)+1 from qaf _ (by omega)]; omega
  have w8:wr (getI cs 8-1)=fu-1:=by rw[g8]; exact qaf _ (by omega)
  refine⟨by simp[hlen],?_,?_,?_,fun j h6 h7 h8=>qp5 h6 h7 h8⟩
  ·unfold qcq
   split
   ·rw[qax (by decide) (by simp; omega),w6]
   ·rw[qam (by decide),qax (by decide) (by simp; omega),w6]
  ·unfold qcq
   split
   ·rename_i h
    rw[qam (by decide),qam (by decide)]
    show getI cs 7=_
    rw[g7,<- h,hp]
   ·rw[qax (by decide) (by simp; omega),g7,hp]
    omega
  ·rw[qxw (by omega),w8]
theorem qvJ (h48:48<=w.length) (S:St w pc fu (rest++args) cs) (hc:c.getD pc (0,0)=(op,n)) (hl:pc<c.length) (hb:c.length<2 ^ 30) (hf:1<=fu/\fu<=2000) (hp:popsN op=args.length)
  (hab:(args=[]/\a=0/\b=0)\/(args=[a]/\b=0)\/args=[a,b]) (hr:rest.length+args.length<=16/\rest.length+1<=16) (ho:operN op=0\/(0<=n/\n<operN op)) (hq:pushN op=1) (h21:op≠21)
  (hx : ∀ P:List Int,exC s P op n a b=P) (hv : ∀ P:List Int,(∀ j,j≠6->j≠7->j≠8->(j<16\/32<=j)->getN P j=getN w j)->exV s P op n a b=exV s w op n a b) :
  (qbY s c cs).ended=false/\St w (pc+1) (fu-1) (rest++[exV s w op n a b]) (qbY s c cs).cs:=by
 obtain⟨h1,hA,hB,P⟩:=qmd (s:=s) h48 S hc hl hb hf hp hab (by rw[hq]; exact hr) ho
 have g7:getI cs 7=(rest++args).length:=S.sp
 rw[Wb] at g7
 rw[h1]
 refine⟨decide_eq_false (by omega),?_⟩
 have e:qcD s cs op n=qaK (qcq cs op) (16+rest.length:Nat) (exV s w op n a b):=by
  unfold qcD
  rw[if_neg (by omega),hA,hB,hx,hv _ fun j h6 h7 h8 hj=>(P.keep j h6 h7 h8).trans (S.keep j h6 h7 h8 hj),g7,hp]
  congr 1
  omega
 show St w (pc+1) (fu-1) _ (qcD s cs op n)
 rw[e]
 have hl':=P.len
 refine⟨by simp[P.len],?_,?_,?_,fun j h6 h7 h8 hj=>?_,fun k hk=>?_⟩
 ·rw[qam (by simp; omega),P.pc]
 ·rw[qam (by simp; omega),P.sp,hq]; simp
 ·rw[qam (by simp; omega),P.fu]
 ·rw[qam (by simp; omega),P.keep j h6 h7 h8]; exact S.keep j h6 h7 h8 hj
 ·simp only[Wb,Wd,Wj] at hk
  by_cases hk':k<rest.length
  ·rw[qam (by simp; omega),P.keep _ (by omega) (by omega) (by omega),S.top k (by simp; omega)]
   simp[List.getElem_append,hk']
  ·obtain rfl:k=rest.length:=by omega
   rw[qax (by omega) (by omega)]
   simp
theorem qju (h48:48<=w.length) (S:St w pc fu (rest++args) cs) (hc:c.getD pc (0,0)=(op,n)) (hl:pc<c.length) (hb:c.length<2 ^ 30) (hf:1<=fu/\fu<=2000) (hr:rest.length+1<=16)
  (hop:(op=18/\args=[]/\a=0)\/(op=19/\args=[a])) {t:Nat} (ht:n=t) :
  (qbY s c cs).ended=false/\St w (if a=0 then t else pc+1) (fu-1) rest (qbY s c cs).cs:=by
 have hp:popsN op=args.length/\pushN op=0/\operN op=0:=by rcases hop with ⟨rfl,rfl,_⟩|⟨rfl,rfl⟩<;>exact⟨rfl,rfl,rfl⟩
 have hlen:args.length<=1:=by rcases hop with ⟨rfl,rfl,_⟩|⟨rfl,rfl⟩<;>simp
 obtain⟨h1,hA,hB,P⟩:=qmd (s:=s) (a:=a) (b:=0) h48 S hc hl hb hf hp.1 (by rcases hop with ⟨_,rfl,rfl⟩|⟨_,rfl⟩; exact .inl ⟨rfl,rfl,rfl⟩; exact .inr (.inl ⟨rfl,rfl⟩)) (by rw[hp.2.1]; omega) (.inl hp.2.2)
 rw[h1]
 refine⟨decide_eq_false (by rcases hop with ⟨rfl,_⟩|⟨rfl,_⟩<;>decide),?_⟩
 have e:qcD s cs op n=if a=0 then qaK (qcq cs op) 6 (t:Nat) else qcq cs op:=by
  unfold qcD
  rw[if_pos hp.2.1,hA,ht]
  rcases hop with ⟨rfl,_,rfl⟩|⟨rfl,_⟩<;>simp[exC]
 show St w _ (fu-1) _ (qcD s cs op n)
 rw[e]
 have hl':=P.len
 have hs:=P.sp
 rw[hp.2.1] at hs
 have top : ∀ k (h:k<rest.length),getN (qcq cs op) (16+k)=rest[k]:=fun k hk=>by
  rw[P.keep _ (by omega) (by omega) (by omega),S.top k (by simp; omega)]
  simp[List.getElem_append,hk]
 split
 ·refine⟨by simp[P.len],?_,?_,?_,fun j h6 h7 h8 hj=>?_,fun k hk=>?_⟩
  ·rw[qax (by decide) (by omega)]
  ·rw[qam (by decide),hs]; simp
  ·rw[qam (by decide),P.fu]
  ·rw[qam (by simp; omega),P.keep j h6 h7 h8]; exact S.keep j h6 h7 h8 hj
  ·rw[qam (by simp; omega)]; exact top k hk
 ·exact⟨P.len,P.pc,by rw[hs]; simp,P.fu,fun j h6 h7 h8 hj=>(P.keep j h6 h7 h8).trans (S.keep j h6 h7 h8 hj),top⟩
end
def Run(s:Su)(c:List (Nat × Int)):Nat->List Int->List Int->Prop
 |0,a,b=>a=b
 |k+1,a,b=>(qbY s c a).ended=false/\Run s c k (qbY s c a).cs b
theorem Run.trans{s:Su}{c:List (Nat × Int)} : ∀ {k l:Nat} {a b d:List Int},Run s c k a b->Run s c l b d->Run s c (k+l) a d
 |0,l,a,b,d,h,g=>by cases h; rw[WJ]; exact g
 |k+1,l,a,b,d,h,g=>by rw[show k+1+l=k+l+1 by omega]; exact⟨h.1,h.2.trans g⟩
theorem Run.one{s:Su}{c:List (Nat × Int)}{a:List Int}(h:(qbY s c a).ended=false):Run s c 1 a (qbY s c a).cs:=⟨h,rfl⟩
def CAt(c:List (Nat × Int))(p:Nat)(K:Cd):Prop := ∀ i,i<K.length->p+i<c.length/\c.getD (p+i) (0,0)=((K.getD i (0,0)).1.toNat,(K.getD i (0,0)).2)
theorem CAt.left{c:List (Nat × Int)}{p:Nat}{A B:Cd}(h:CAt c p (A++B)):CAt c p A:=fun i hi=>by
 have:=h i (by simp; omega)
 simpa [Wn,List.getElem?_append,hi] using this
theorem CAt.right{c:List (Nat × Int)}{p:Nat}{A B:Cd}(h:CAt c p (A++B)):CAt c (p+A.length) B:=fun i hi=>by
 have:=h (A.length+i) (by simp; omega)
 rw[<- Nat.add_assoc] at this
 have e:(A++B).getD (A.length+i) (0,0)=B.getD i (0,0):=by simp[Wn,WO]
 rw[e] at this
 exact this
theorem CAt.head{c:List (Nat × Int)}{p:Nat}{x:Int × Int}{B:Cd}(h:CAt c p (x::B)):p<c.length/\c.getD p (0,0)=(x.1.toNat,x.2):=by simpa using h 0 (by simp)
theorem CAt.tail{c:List (Nat × Int)}{p:Nat}{x:Int × Int}{B:Cd}(h:CAt c p (x::B)):CAt c (p+1) B:=CAt.right (A:=[x]) h
def ev(s:Su)(w:List Int)(v:Int):E->Int
 |.int n=>n
 |.bool n=>n
 |.var _=>v
 |.name x=>exV s w (nameI x).toNat 0 0 0
 |.field _ f e=>exV s w 4 (fieldI f) (ev s w v e) 0
 |.un _ neg e=>appI (if neg then 13 else 17) (ev s w v e) 0
 |.bin _ o a b=>match o with
  |.and=>if ev s w v a=0 then 0 else ev s w v b
  |.or=>if ev s w v a=0 then ev s w v b else 1
  |.gt=>appI 14 (ev s w v b) (ev s w v a)
  |.ge=>appI 15 (ev s w v b) (ev s w v a)
  |.ne=>appI 17 (appI 16 (ev s w v a) (ev s w v b)) 0
  |o=>appI (opI o).toNat (ev s w v a) (ev s w v b)
end
end Go.Pm
