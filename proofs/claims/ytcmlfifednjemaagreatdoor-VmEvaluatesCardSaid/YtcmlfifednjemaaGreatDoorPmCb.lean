/- Chapter 15: the reference's small functions: index, name, operator, field. -/
import Derived.Test.YtcmlfifednjemaaGreatDoorPmAL
import Derived.Test.YtcmlfifednjemaaGreatDoorPmKf
import Derived.Test.YtcmlfifednjemaaGreatDoorPmE7
import Derived.Test.YtcmlfifednjemaaGreatDoorPmVp21
import Derived.Test.YtcmlfifednjemaaGreatDoorPmR
import Derived.KernelRfl
set_option linter.unusedSimpArgs false
set_option linter.unusedVariables false
namespace Go.Pm
section
open F Gr
theorem qu9(l:List ByteArray)(i:Nat)(h:i<l.length):qag 1 (.dat (qlW l)) (i:Int)=some (.dat (.imm (qbJ l) i)):=by
 cases l with
 |nil=>simp at h
 |cons s l=>simp only[Wd] at h; simp[qlW,qag]; omega
def ixR:List ByteArray->ByteArray->Nat->Int
 |[],_,_ => -1
 |x::l,s,i=>if x=s then (i:Int) else ixR l s (i+1)
theorem qxt(l:List ByteArray)(s:ByteArray)(i:Nat):ixR l s i=if ixI l s<0 then -1 else ixI l s+i:=by
 induction l generalizing i with
 |nil=>simp[ixR,ixI]
 |cons x l ih=>
  simp only[ixR,ixI]
  by_cases h:x=s
  ·simp[h]
  ·simp only[if_neg h,ih]
   by_cases h2:ixI l s<0
   ·simp[h2]
   ·simp only[if_neg h2]
    rw[if_neg (by omega)]
    omega
theorem qva(l:List ByteArray)(s:ByteArray) : -1<=ixI l s/\ixI l s<l.length:=by
 induction l with
 |nil=>simp[ixI]
 |cons x l ih=>
  simp only[ixI,Wd]
  split
  ·omega
  ·split<;>omega
theorem qp1 (s:ByteArray) : ∀ (n i:Nat),i+n=8 ->
  Z qae (.loop 0 F161l0 [(0,.str s),(3,.dat (.sl (qbJ fieldNs) 8 true)),(4,.int i)] [])=some (if ixR (fieldNs.drop i) s i<0 then .out (.exit 0) [(0,.str s),(3,.dat (.sl (qbJ fieldNs) 8 true)),(4,.int 8),(7,.bool false)] [] else .out .ret [(2,.int (ixR (fieldNs.drop i) s i))] [])
 |0,i,hn=>by
  obtain rfl:i=8:=by omega
  rw[qac,show fieldNs.drop 8=[] from rfl]
  simp[qad,qgw,ixR]
 |n+1,i,hn=>by
  have ih:=qp1 s n (i+1) (by omega)
  have hl:fieldNs.length=8:=rfl
  have hi:i<fieldNs.length:=by omega
  have hc:=qge fieldNs i hi
  have ha:=qcG (qbJ fieldNs) 8 true i (by omega) (by omega)
  rw[show ((i:Int)).toNat=i by omega] at ha
  have w1:=qaf ((i:Int)+1) (by omega)
  have hi':(i:Int)<8:=by omega
  rw[WC hi,ixR,qac]
  by_cases he:fieldNs[i]=s
  ·have he':=(qaF fieldNs[i] s).trans (decide_eq_true he)
   rw[if_pos he]
   have hn0 : ¬ (i:Int)<0:=by omega
   simp[qad,qgw,hi',hc,ha,he',hn0]
  ·have he':=(qaF fieldNs[i] s).trans (decide_eq_false he)
   rw[if_neg he,<- ih]
   simp[qad,qgw,hi',hc,ha,he',w1]
theorem qvb(s:ByteArray):Z qae (.call 161 [.str s] [])=some (.ret (.int (fieldI s)) []):=by
 have h:=qp1 s 8 0 (by omega)
 have r:=qva fieldNs s
 rw[WT,qxt] at h
 have e:(if ixI fieldNs s<0 then -1 else ixI fieldNs s+((0:Nat):Int))=fieldI s:=by unfold fieldI; split<;>omega
 rw[e] at h
 refine qaa (pf:=F161) rfl rfl ?_
 simp only[fieldNs,qbJ,List.map,show ((0:Nat):Int)=0 from rfl] at h
 by_cases hs:fieldI s<0
 ·have h1:fieldI s = -1:=by unfold fieldI at *; omega
  simp[hs] at h
  simp[F161,h,h1]
 ·simp[hs] at h
  simp[F161,h]
end
section
open F Gr
set_option maxHeartbeats 4000000
theorem qoK(b:Bool):qf8 b=0\/qf8 b=1:=by cases b<;>simp[qf8]
theorem qjH(s:Su)(w:List Int)(v:Int) : ∀ e:E,e.fine->e.ty=2->ev s w v e=0\/ev s w v e=1
 |.int _,_,h=>by simp[E.ty] at h
 |.bool _,h,_=>h
 |.var _,_,h=>by simp[E.ty] at h
 |.name _,_,h=>by simp[E.ty] at h
 |.field _ _ e,_,h=>by simp only[E.ty] at h; split at h<;>omega
 |.un _ true e,_,h=>by simp only[E.ty,if_true] at h; split at h<;>omega
 |.un _ false e,_,_=>qoK _
 |.bin _ o a b,h,ht=>by
  have hx:o.res=2:=by simpa only [E.ty,h.2.2.1,h.2.2.2,and_self,if_true] using ht
  cases o
  case and=>
   have:=qjH s w v b h.2.1 h.2.2.2
   simp only[ev]; split<;>omega
  case or=>
   have:=qjH s w v b h.2.1 h.2.2.2
   simp only[ev]; split<;>omega
  case add=>cases hx
  case sub=>cases hx
  case mul=>cases hx
  case div=>cases hx
  all_goals exact qoK _
section
variable{prog:Nat->Option PFun}(hb:Sub qae prog)(sv:Sub qab prog)(h350:prog 350=some F350){s:Su}{w:List Int}{N:Nat}{v:Int}(hs:s.ok)(hw:w.length=N)(hN:N=s.n)
theorem qtC (hs:s.ok) (hN:w.length=N) (h:N=s.n) {a n:Int} (n0:0<=n) (n8:n<8) :
  Z qab (.call 1000 [.dat (.sl (qan w) N false),s.d,.int a,.int n] [])=some (.ret (.int (if bodyI s a<0 then 0 else getI w (bodyI s a+n))) []):=by
 have zb:=qpK s hs a
 refine qaa (pf:=F1000) rfl rfl ?_
 by_cases h0:bodyI s a<0
 ·rw[if_pos h0]
  generalize bodyI s a=B at *
  simp only[Su.d,Su.c] at *
  simp[F1000,zb,h0,Wa]
 ·rw[if_neg h0]
  have hB:=qgf (s:=s) (a:=a) (by omega)
  have hp:=hs.p3; have hq:=hs.b5
  have h1000:s.n<1000:=by unfold Su.n; omega
  have hle:bodyI s a+n<N:=by rw[h]; unfold Su.n bodyI at *; split at h0<;>split<;>omega
  generalize bodyI s a=B at *
  have w1:=qaf (B+n) (by omega)
  have p:=qcG (qan w) N false (B+n) (by omega) (by omega)
  have q:=qaB w (B+n).toNat (by omega)
  rw[show getI w (B+n)=getN w (B+n).toNat from rfl]
  simp only[Su.d,Su.c] at *
  simp[F1000,zb,h0,Wa,w1,p,q]
include hb sv h350 hs hw hN
def EvK(prog:Nat->Option PFun)(s:Su)(w:List Int)(N:Nat)(v:Int)(e:E):Prop:=Z prog (.call 350 [e.node,.dat (.sl (qan w) N false),s.d,.int v] [])=some (.ret (.int (ev s w v e)) [])
omit hb sv in
theorem qjI{e:E}(h:(∃ n,e = .int n)\/(∃ n,e = .bool n)\/(∃ x,e = .var x) \/ ∃ x,e = .name x/\x∈qiq):EvK prog s w N v e:=by
 have hp:=hs.p3; have hq:=hs.b5
 have h48:48<=N/\N<1000:=by rw[hN]; unfold Su.n; omega
 have p9:qag 1 (.dat (.sl (qan w) N false)) 9=some (.dat (.imm (qan w) 9)):=qpi _ N 9 (by omega)
 have p10:qag 1 (.dat (.sl (qan w) N false)) 10=some (.dat (.imm (qan w) 10)):=qpi _ N 10 (by omega)
 have p0:qag 1 (.dat (.sl (qan w) N false)) 0=some (.dat (.imm (qan w) 0)):=qpi _ N 0 (by omega)
 have c9:=qaB w 9 (by omega)
 have c10:=qaB w 10 (by omega)
 have c0:=qaB w 0 (by omega)
 unfold EvK
 refine qaa h350 rfl ?_
 rcases h with ⟨n,rfl⟩|⟨n,rfl⟩|⟨x,rfl⟩|⟨x,rfl,hx⟩
 ·simp[F350,Su.d,Su.c,ev,Wa]
 ·simp[F350,Su.d,Su.c,ev,Wa]
 ·simp[F350,Su.d,Su.c,ev,Wa]
 ·simp only[qiq,Wp,Ws,or_false] at hx
  rcases hx with rfl|rfl|rfl
  ·have e:ev s w v (.name ⟨#[115,101,108,102]⟩)=getN w 9:=rfl
   rw[e]
   simp[F350,Su.d,Su.c,p9,c9,qaF,Wa]
  ·have e:ev s w v (.name ⟨#[111,116,104,101,114]⟩)=getN w 10:=rfl
   rw[e]
   simp[F350,Su.d,Su.c,p10,c10,qaF,Wa]
  ·have e:ev s w v (.name ⟨#[116,105,99,107]⟩)=getN w 0:=rfl
   rw[e]
   simp[F350,Su.d,Su.c,p0,c0,qaF,Wa]
theorem qqV{g:Bool}{f:ByteArray}{e:E}(hf:f∈qdB)(h:EvK prog s w N v e):EvK prog s w N v (.field g f e):=by
 have hfl:=qeF hf
 have z1:=qcy hb (qvb f)
 have z2:=qcy sv (qtC (n:=fieldI f) (a:=ev s w v e) hs hw hN hfl.1 (by omega))
 unfold EvK at *
 simp only[ev,exV]
 generalize (if bodyI s (ev s w v e)<0 then 0 else getI w (bodyI s (ev s w v e)+fieldI f))=R at *
 generalize ev s w v e=A at *
 generalize fieldI f=n at *
 refine qaa h350 rfl ?_
 simp only[Su.d,Su.c] at *
 simp[F350,qag,h,z1,z2,Wa]
omit hb hs hw hN in
theorem qyM{g neg:Bool}{e:E}(h:EvK prog s w N v e):EvK prog s w N v (.un g neg e):=by
 have z1 : ∀ x,Z prog (.call 71 [.int 13,.int x,.int 0] [])=some (.ret (.int (appI 13 x 0)) []):=fun x=>qcy sv (qgE x 0 13 (by omega) (by omega))
 have z2 : ∀ x,Z prog (.call 71 [.int 17,.int x,.int 0] [])=some (.ret (.int (appI 17 x 0)) []):=fun x=>qcy sv (qgE x 0 17 (by omega) (by omega))
 unfold EvK at *
 cases neg
 all_goals
  simp only[ev,if_true,Wm,if_false]
  generalize ev s w v e=A at *
  have z1:=z1 A
  have z2:=z2 A
  generalize appI 13 A 0=X at *
  generalize appI 17 A 0=Y at *
  refine qaa h350 rfl ?_
  simp only[Su.d,Su.c] at *
  simp[F350,qag,ustr,qaF,h,z1,z2,Wa]
omit hb hs hw hN in
theorem qwn{g:Bool}{o:Bop}{a b:E}(h2:o.opd=2->(ev s w v b=0\/ev s w v b=1))(ha:EvK prog s w N v a)(hb':EvK prog s w N v b):EvK prog s w N v (.bin g o a b):=by
 have z9 : ∀ x y,Z prog (.call 71 [.int 9,.int x,.int y] [])=some (.ret (.int (appI 9 x y)) []):=fun x y=>qcy sv (qgE x y 9 (by omega) (by omega))
 have z10 : ∀ x y,Z prog (.call 71 [.int 10,.int x,.int y] [])=some (.ret (.int (appI 10 x y)) []):=fun x y=>qcy sv (qgE x y 10 (by omega) (by omega))
 have z11 : ∀ x y,Z prog (.call 71 [.int 11,.int x,.int y] [])=some (.ret (.int (appI 11 x y)) []):=fun x y=>qcy sv (qgE x y 11 (by omega) (by omega))
 have z12 : ∀ x y,Z prog (.call 71 [.int 12,.int x,.int y] [])=some (.ret (.int (appI 12 x y)) []):=fun x y=>qcy sv (qgE x y 12 (by omega) (by omega))
 have zf:=fun x=>qcy sv (qh7 x)
 unfold EvK at *
 obtain⟨R,hR⟩ : ∃ R,R=ev s w v (.bin g o a b):=⟨_,rfl⟩
 rw[<- hR]
 simp only[ev] at hR
 generalize ev s w v a=A at *
 generalize ev s w v b=B at *
 have z9:=z9 A B
 have z10:=z10 A B
 have z11:=z11 A B
 have z12:=z12 A B
 refine qaa h350 rfl ?_
 simp only[Su.d,Su.c] at *
 cases o
 case and=>
  have h2:=h2 rfl
  by_cases hA:A=0<;>by_cases hB:B=0<;>simp[F350,qag,Bop.str,qaF,ha,hb',zf,hA,hB,Wa]<;>simp[hA,hB] at hR h2<;>simp[qf8,hR,h2]
 case or=>
  have h2:=h2 rfl
  by_cases hA:A=0<;>by_cases hB:B=0<;>simp[F350,qag,Bop.str,qaF,ha,hb',zf,hA,hB,Wa]<;>simp[hA,hB] at hR h2<;>simp[qf8,hR,h2]
 case ne=>
  simp[F350,qag,Bop.str,qaF,ha,hb',zf,Wa]
  rw[hR]
  by_cases hA:A=B<;>simp[hA,appI,qf8]
 all_goals
  simp[F350,qag,Bop.str,qaF,ha,hb',z9,z10,z11,z12,zf,Wa]
  rw[hR]
  rfl
theorem qkI : ∀ e:E,e.fine->EvK prog s w N v e
 |.int n,_=>qjI h350 hs hw hN (.inl ⟨n,rfl⟩)
 |.bool n,_=>qjI h350 hs hw hN (.inr (.inl ⟨n,rfl⟩))
 |.var x,_=>qjI h350 hs hw hN (.inr (.inr (.inl ⟨x,rfl⟩)))
 |.name x,h=>qjI h350 hs hw hN (.inr (.inr (.inr ⟨x,rfl,h⟩)))
 |.field _ f e,h=>qqV hb sv h350 hs hw hN h.1 (qkI e h.2.1)
 |.un _ _ e,h=>qyM sv h350 (qkI e h.1)
 |.bin _ o a b,h=>qwn sv h350 (fun ho=>qjH s w v b h.2.1 (h.2.2.2.trans ho)) (qkI a h.1) (qkI b h.2.1)
end
end
section
open F Gr
set_option maxHeartbeats 8000000
abbrev veF(N:Nat)(v:Int)(i:Int):Fr:=[(11,.ptr 0 0),(12,.own 1 N 1),(13,.int v),(16,.ptr 2 0),(21,.ptr 3 0),(23,.ptr 4 0),(24,.int i)]
def qh3(e:E):Ob := .cells [.int e.kind,.int e.num,.str e.str,.dat e.kids]
def veS(s:Su)(w:List Int)(e:E)(c:List (Nat × Int))(e0 e1 e2:Int)(cs:List Int)(N:Nat)(lg:List D)(k:Nat):S:=[qhk s,.froz (qan w),qh3 e,.cells [.dat (codeDV false c),.int e0,.int e1,.int e2],.cells [.msl 5 0 N N 1,.gsl lg k 2 6,.int 0],.cells (qbz cs),.tip (k*2)]
section
variable{prog:Nat->Option PFun}{s:Su}{c:List (Nat × Int)}{e0 e1 e2 v:Int}{w cs cs':List Int}{e:E}{N:Nat}{lg lg':List D}{k k' i:Nat}{x1 x2 x3 x4:Int}{em:Bool}
variable(sv:Sub qab prog)
theorem qzd (hi:i<1000)
  (hst:Z prog (.call 52 [.iface 0 (.ptr 0 0),s.d,qbZ false c e0 e1 e2] (qak cs N lg k (k*2)))=some (.ret (.tup [.bool false,.dat (.agg (qan [x1,x2,x3,x4])),.bool em]) (qak cs' N lg' k' (k'*2)))) :
  Z prog (.loop 0 F360l1 (veF N v i) (veS s w e c e0 e1 e2 cs N lg k))=Z prog (.loop 0 F360l1 (veF N v (i+1:Nat)) (veS s w e c e0 e1 e2 cs' N lg' k')):=by
 have w1:=qaf ((i:Int)+1) (by omega)
 have hi':(i:Int)<=1000:=by omega
 have k0:=qgd e
 have k1:=qd3 e
 simp only[veF,veS,qh3,qhk,qak,qbZ,Su.d,Su.c,List.map,qk2,qiV] at *
 generalize e.kids=ks at *
 conv=>lhs; rw[qac]
 simp[qad,qje,Wa,hst,hi',w1,k0,k1]
 exact qal (by simp[Wa,k0,k1])
include sv in
theorem quu (hs:s.ok) (hn:N=s.n) (hwl:w.length=N) (hw:cs'.length=N) (hi:i<1000) (hv:getN cs' (bodyI s 0+4).toNat=ev s w v e) (hev:EvK prog s w N v e)
  (hst:Z prog (.call 52 [.iface 0 (.ptr 0 0),s.d,qbZ false c e0 e1 e2] (qak cs N lg k (k*2)))=some (.ret (.tup [.bool true,.dat (.agg (qan [x1,x2,x3,x4])),.bool em]) (qak cs' N lg' k' (k'*2)))) :
  ∃ fr σ,Z prog (.loop 0 F360l1 (veF N v i) (veS s w e c e0 e1 e2 cs N lg k))=some (.out (.exit 2) fr σ) /\ ∃ σ2,run (Z prog) 0 veR fr σ = some (.ret,[(10,.bool true)],σ2):=by
 have hi':(i:Int)<=1000:=by omega
 have k0:=qgd e
 have k1:=qd3 e
 have zb:=qcy sv (qj5 s hs 0)
 have zl:=qcy sv qoq
 have hB:0<=bodyI s 0:=by have:=hs.p1; have:=hs.b1; unfold bodyI; split<;>omega
 have hB2:=qgf hB
 have hp:=hs.p3; have hq:=hs.b5
 have h1000:s.n<1000:=by unfold Su.n; omega
 have w1:=qaf (bodyI s 0+4) (by omega)
 have zg:=qcy sv (qaS (cs:=cs') (n:=N) (lg:=lg') (k:=k') (t:=k'*2) (i:=bodyI s 0+4) hw (by omega) (by omega))
 rw[show getI cs' (bodyI s 0+4)=ev s w v e from hv] at zg
 clear hv hB hB2
 unfold EvK at hev
 generalize bodyI s 0=B at *
 generalize ev s w v e=R at *
 simp only[veF,veS,qh3,qhk,qak,qbZ,E.node,Su.d,Su.c,List.map,qk2,qiV] at *
 generalize e.kids=ks at *
 rw[qac]
 simp[qad,qje,Wa,hst,hi',k0,k1]
 refine⟨_,_,⟨rfl,rfl⟩,?_⟩
 simp[veR,Wa,k0,k1,zb,zl,w1,zg,hev,hwl]
end
end
section
open F Gr
set_option maxHeartbeats 2000000
section
variable{s:Su}{c:List (Nat × Int)}{w:List Int}(h48:48<=w.length)(hb:c.length<2 ^ 30)
include h48 hb
theorem qlg {q k op:Nat} {x n fu a b:Int} {rest args cs0 cs:List Int} (R:Run s c k cs0 cs) (S:St w q fu (rest++args) cs) (hc:CAt c q [(x,n)]) (hxo:x.toNat=op) (hf:1<=fu/\fu<=2000) (hp:popsN op=args.length)
  (hab:(args=[]/\a=0/\b=0)\/(args=[a]/\b=0)\/args=[a,b]) (hr:rest.length+args.length<=16/\rest.length+1<=16) (ho:operN op=0\/(0<=n/\n<operN op)) (hq:pushN op=1) (h21:op≠21)
  (hx : ∀ P:List Int,exC s P op n a b=P) (hv : ∀ P:List Int,(∀ j,j≠6->j≠7->j≠8->(j<16\/32<=j)->getN P j=getN w j)->exV s P op n a b=exV s w op n a b) :
  ∃ cs',Run s c (k+1) cs0 cs'/\St w (q+1) (fu-1) (rest++[exV s w op n a b]) cs':=by
 obtain⟨h1,h2⟩:=hc.head
 rw[hxo] at h2
 have:=qvJ (s:=s) h48 S h2 h1 hb hf hp hab hr ho hq h21 hx hv
 exact⟨_,R.trans (Run.one this.1),this.2⟩
theorem qu6 {vs:List ByteArray} {v:Int} (hv:vs.length<=16) (hvar : ∀ k:Nat,k<16->getN w (32+k)=v) : ∀ e:E,e.fine->e.inV vs -> ∀ (p:Nat) (rest cs:List Int) (fu:Int),CAt c p (qat vs e p)->St w p fu rest cs->rest.length+e.hh<=16->((qat vs e p).length:Int)<=fu->fu<=2000 ->
  ∃ (k:Nat) (cs':List Int),Run s c k cs cs'/\k<=(qat vs e p).length/\St w (p+(qat vs e p).length) (fu-k) (rest++[ev s w v e]) cs':=by
 have leaf : ∀ (op:Nat) (n:Int) (p:Nat) (rest cs:List Int) (fu:Int),CAt c p [((op:Int),n)]->St w p fu rest cs->rest.length+1<=16->1<=fu->fu<=2000->popsN op=0->(operN op=0\/(0<=n/\n<operN op))->pushN op=1->op≠21 ->
   (∀ P:List Int,exC s P op n 0 0=P)->(∀ P:List Int,(∀ j,j≠6->j≠7->j≠8->(j<16\/32<=j)->getN P j=getN w j)->exV s P op n 0 0=exV s w op n 0 0) ->
   ∃ (k:Nat) (cs':List Int),Run s c k cs cs'/\k<=1/\St w (p+1) (fu-k) (rest++[exV s w op n 0 0]) cs':=fun op n p rest cs fu hc S hr hf hf2 hp ho hq h21 hx hval=>by
  obtain⟨cs',R,S'⟩:=qlg (s:=s) h48 hb (k:=0) (cs0:=cs) (args:=[]) (a:=0) (b:=0) rfl (by simpa using S) hc (by omega) ⟨hf,hf2⟩ hp (.inl ⟨rfl,rfl,rfl⟩) ⟨by simp; omega,by omega⟩ ho hq h21 hx hval
  exact⟨1,cs',R,by omega,S'⟩
 have app : ∀ {op:Nat} (o1:9<=op/\op<=17) (P:List Int) (n a b:Int),exC s P op n a b=P/\exV s P op n a b=appI op a b:=fun {op} o1 P n a b=>by
  obtain rfl|rfl|rfl|rfl|rfl|rfl|rfl|rfl|rfl:op=9\/op=10\/op=11\/op=12\/op=13\/op=14\/op=15\/op=16\/op=17:=by omega
  all_goals exact⟨rfl,rfl⟩
 intro e
 induction e with
 |int n=>exact fun _ _ p rest cs fu hc S hr hf hf2=>leaf 1 n p rest cs fu hc S (by simp only[E.hh] at hr; omega) (by simp[qat] at hf; omega) hf2 rfl (.inl rfl) rfl (by decide) (fun _=>rfl) (fun _ _=>rfl)
 |bool n=>exact fun _ _ p rest cs fu hc S hr hf hf2=>leaf 1 n p rest cs fu hc S (by simp only[E.hh] at hr; omega) (by simp[qat] at hf; omega) hf2 rfl (.inl rfl) rfl (by decide) (fun _=>rfl) (fun _ _=>rfl)
 |var x=>
  intro _ hi p rest cs fu hc S hr hf hf2
  have hm:=qjK hi
  obtain⟨k,cs',R,hk,S'⟩:=leaf 2 (ixI vs x) p rest cs fu hc S (by simp only[E.hh] at hr; omega) (by simp[qat] at hf; omega) hf2 rfl (.inr ⟨hm.1,by show _<((16:Nat):Int); omega⟩) rfl (by decide) (fun _=>rfl) (fun P hP=>by
   show getN P _=getN w _
   exact hP _ (by omega) (by omega) (by omega) (.inr (by omega)))
  refine⟨k,cs',R,hk,?_⟩
  have e:exV s w 2 (ixI vs x) 0 0=v:=by
   show getN w (32+ixI vs x).toNat=v
   rw[show (32+ixI vs x).toNat=32+(ixI vs x).toNat by omega]
   exact hvar _ (by omega)
  rw[e] at S'
  exact S'
 |name x=>
  intro _ hi p rest cs fu hc S hr hf hf2
  have h1:rest.length+1<=16:=by simp only[E.hh] at hr; omega
  have h2:1<=fu:=by simp[qat] at hf; omega
  have h3:CAt c p [((nameI x).toNat,0)]:=by
   have:(((nameI x).toNat:Nat):Int)=nameI x:=by have:=qhR x; omega
   rw[this]; exact hc
  have h4:(nameI x).toNat=6\/(nameI x).toNat=7\/(nameI x).toNat=8:=by have:=qhR x; omega
  refine leaf (nameI x).toNat 0 p rest cs fu h3 S h1 h2 hf2 ?_ ?_ ?_ ?_ ?_ ?_
  all_goals
   rcases h4 with h|h|h<;>rw[h]
  all_goals first
   |rfl
   |exact .inl rfl
   |decide
   |exact fun _=>rfl
   |exact fun P hP=>hP _ (by decide) (by decide) (by decide) (.inl (by decide))
 |field g f e ih=>
  intro h hi p rest cs fu hc S hr hf hf2
  have hfl:=qeF h.1
  simp only[qat,snC,E.hh,Wb,Wd,Wj] at hc hr hf ⊢
  obtain⟨k,cs1,R,hk,S1⟩:=ih h.2.1 hi p rest cs fu hc.left S hr (by omega) hf2
  obtain⟨cs',R',S'⟩:=qlg (s:=s) h48 hb (a:=ev s w v e) (b:=0) R S1 hc.right rfl ⟨by omega,by omega⟩ rfl (.inr (.inl ⟨rfl,rfl⟩)) ⟨by simp; have:=e.hh_pos; omega,by have:=e.hh_pos; omega⟩ (.inr ⟨hfl.1,by show _<((8:Nat):Int); omega⟩) rfl (by decide) (fun _=>rfl) (fun P hP=>by
   show (if bodyI s _<0 then 0 else getN P _)=(if bodyI s _<0 then 0 else getN w _)
   by_cases hb0:bodyI s (ev s w v e)<0
   ·rw[if_pos hb0,if_pos hb0]
   ·rw[if_neg hb0,if_neg hb0]
    have:=qgf (s:=s) (a:=ev s w v e) (by omega)
    exact hP _ (by omega) (by omega) (by omega) (.inr (by omega)))
  exact⟨k+1,cs',R',by omega,by rw[show fu-((k+1:Nat):Int)=fu-k-1 by omega]; exact S'⟩
 |un g neg e ih=>
  intro h hi p rest cs fu hc S hr hf hf2
  simp only[qat,snC,E.hh,Wb,Wd,Wj] at hc hr hf ⊢
  obtain⟨k,cs1,R,hk,S1⟩:=ih h.1 hi p rest cs fu hc.left S hr (by omega) hf2
  obtain⟨op,hop,o1⟩ : ∃ op:Nat,((if neg then (13:Int) else 17)=op)/\(op=if neg then 13 else 17):=by cases neg<;>exact⟨_,rfl,rfl⟩
  have o2:9<=op/\op<=17:=by rw[o1]; cases neg<;>decide
  have hcr:=hc.right
  rw[hop] at hcr
  obtain⟨cs',R',S'⟩:=qlg (s:=s) h48 hb (op:=op) (a:=ev s w v e) (b:=0) R S1 hcr (by omega) ⟨by omega,by omega⟩ (by rw[o1]; cases neg<;>rfl) (.inr (.inl ⟨rfl,rfl⟩)) ⟨by simp; have:=e.hh_pos; omega,by have:=e.hh_pos; omega⟩ (.inl (by rw[o1]; cases neg<;>rfl)) (by rw[o1]; cases neg<;>rfl) (by omega) (fun P=>(app o2 P _ _ _).1) (fun P _=>by rw[(app o2 P _ _ _).2,(app o2 w _ _ _).2])
  rw[(app o2 w _ _ _).2,o1] at S'
  exact⟨k+1,cs',R',by omega,by rw[show fu-((k+1:Nat):Int)=fu-k-1 by omega]; exact S'⟩
 |bin g o a b iha ihb=>
  intro h hi p rest cs fu hc S hr hf hf2
  have ha1:=a.hh_pos
  have hb1:=b.hh_pos
  simp only[E.hh] at hr
  have two : ∀ (x y:E) (op:Nat) (fu:Int) (cs:List Int),(∀ (p:Nat) (rest cs:List Int) (fu:Int),CAt c p (qat vs x p)->St w p fu rest cs->rest.length+x.hh<=16->((qat vs x p).length:Int)<=fu->fu<=2000 -> ∃ (k:Nat) (cs':List Int),Run s c k cs cs'/\k<=(qat vs x p).length/\St w (p+(qat vs x p).length) (fu-k) (rest++[ev s w v x]) cs') ->
    (∀ (p:Nat) (rest cs:List Int) (fu:Int),CAt c p (qat vs y p)->St w p fu rest cs->rest.length+y.hh<=16->((qat vs y p).length:Int)<=fu->fu<=2000 -> ∃ (k:Nat) (cs':List Int),Run s c k cs cs'/\k<=(qat vs y p).length/\St w (p+(qat vs y p).length) (fu-k) (rest++[ev s w v y]) cs') ->
    1<=x.hh->1<=y.hh->rest.length+(x.hh+1)<=16->rest.length+(y.hh+1)<=16->(9<=op/\op<=16/\op≠13)->CAt c p (snC (sq (qat vs x) (qat vs y)) ((op:Int),0) p)->St w p fu rest cs->((snC (sq (qat vs x) (qat vs y)) ((op:Int),0) p).length:Int)<=fu->fu<=2000 ->
    ∃ (k:Nat) (cs':List Int),Run s c k cs cs'/\k<=(snC (sq (qat vs x) (qat vs y)) ((op:Int),0) p).length/\St w (p+(snC (sq (qat vs x) (qat vs y)) ((op:Int),0) p).length) (fu-k) (rest++[appI op (ev s w v x) (ev s w v y)]) cs':=by
   intro x y op fu cs ihx ihy x1 y1 hx hy hop hc S hf hf2
   simp only[snC,sq,Wb,Wd,Wj] at hc hf ⊢
   rw[show (p:Int)+(qat vs x p).length=((p+(qat vs x p).length:Nat):Int) by omega] at hc hf ⊢
   obtain⟨k,c1,R1,hk1,S1⟩:=ihx p rest cs fu hc.left.left S (by omega) (by omega) hf2
   obtain⟨l,c2,R2,hk2,S2⟩:=ihy _ (rest++[ev s w v x]) c1 (fu-k) hc.left.right S1 (by simp; omega) (by omega) (by omega)
   rw[Wo] at S2
   have hcr:=hc.right
   rw[Wb,<- Nat.add_assoc] at hcr
   have hp:popsN op=2/\pushN op=1/\operN op=0:=by
    obtain rfl|rfl|rfl|rfl|rfl|rfl|rfl:op=9\/op=10\/op=11\/op=12\/op=14\/op=15\/op=16:=by omega
    all_goals exact⟨rfl,rfl,rfl⟩
   obtain⟨cs',R',S'⟩:=qlg (s:=s) h48 hb (op:=op) (a:=ev s w v x) (b:=ev s w v y) (R1.trans R2) S2 hcr (by omega) ⟨by omega,by omega⟩ hp.1 (.inr (.inr rfl)) ⟨by simp; omega,by omega⟩ (.inl hp.2.2) hp.2.1 (by omega) (fun P=>(app (by omega) P _ _ _).1) (fun P _=>by rw[(app (by omega) P _ _ _).2,(app (by omega) w _ _ _).2])
   rw[(app (by omega) w _ _ _).2] at S'
   refine⟨k+l+1,cs',R',by omega,?_⟩
   rw[show fu-((k+l+1:Nat):Int)=fu-k-l-1 by omega]
   have e : ∀ m n:Nat,p+(m+n+(0+1))=p+m+n+1:=fun m n=>by omega
   rw[e]
   exact S'
  have iha':=iha h.1 hi.1
  have ihb':=ihb h.2.1 hi.2
  have br : ∀ (B1 B2:Int->Cd) (r:Int),CAt c p (brC (qat vs a) B1 B2 p)->((brC (qat vs a) B1 B2 p).length:Int)<=fu ->
    (∀ (q:Nat) (cs:List Int) (fu:Int),ev s w v a≠0->CAt c q (B1 q)->St w q fu rest cs->((B1 q).length:Int)<=fu->fu<=2000 -> ∃ (k:Nat) (cs':List Int),Run s c k cs cs'/\k<=(B1 q).length/\St w (q+(B1 q).length) (fu-k) (rest++[r]) cs') ->
    (∀ (q:Nat) (cs:List Int) (fu:Int),ev s w v a=0->CAt c q (B2 q)->St w q fu rest cs->((B2 q).length:Int)<=fu->fu<=2000 -> ∃ (k:Nat) (cs':List Int),Run s c k cs cs'/\k<=(B2 q).length/\St w (q+(B2 q).length) (fu-k) (rest++[r]) cs') ->
    ∃ (k:Nat) (cs':List Int),Run s c k cs cs'/\k<=(brC (qat vs a) B1 B2 p).length/\St w (p+(brC (qat vs a) B1 B2 p).length) (fu-k) (rest++[r]) cs':=by
   intro B1 B2 r hc hf h1 h2
   simp only[brC] at hc hf ⊢
   obtain⟨n,hn⟩ : ∃ n,n=(qat vs a p).length:=⟨_,rfl⟩
   rw[<- hn] at hc hf ⊢
   rw[show (p:Int)+n+1=((p+n+1:Nat):Int) by omega] at hc hf ⊢
   obtain⟨m,hm⟩ : ∃ m,m=(B1 (p+n+1:Nat)).length:=⟨_,rfl⟩
   rw[<- hm] at hc hf ⊢
   rw[show ((p+n+1:Nat):Int)+m+1=((p+n+1+m+1:Nat):Int) by omega] at hc hf ⊢
   obtain⟨l,hl⟩ : ∃ l,l=(B2 (p+n+1+m+1:Nat)).length:=⟨_,rfl⟩
   rw[<- hl] at hc hf ⊢
   simp only[Wb,Wd,<- hn,<- hm,<- hl] at hf ⊢
   obtain⟨k,c1,R1,hk1,S1⟩:=iha' p rest cs fu hc.left S (by omega) (by omega) hf2
   rw[<- hn] at hk1 S1
   have hr1:=hc.right
   rw[<- hn] at hr1
   obtain⟨g1,g2⟩:=hr1.head
   obtain⟨j1,S2⟩:=qju (s:=s) h48 S1 g2 g1 hb ⟨by omega,by omega⟩ (by omega) (.inr ⟨rfl,rfl⟩) rfl
   by_cases h0:ev s w v a=0
   ·rw[if_pos h0] at S2
    have hB2:=hr1.tail.right.tail
    rw[<- hm] at hB2
    obtain⟨k2,c3,R3,hk3,S3⟩:=h2 _ _ _ h0 hB2 S2 (by omega) (by omega)
    rw[<- hl] at hk3 S3
    refine⟨k+(1+k2),c3,R1.trans ((Run.one j1).trans R3),by omega,?_⟩
    rw[show fu-((k+(1+k2):Nat):Int)=fu-k-1-k2 by omega,show p+(n+(m+(l+1)+1))=p+n+1+m+1+l by omega]
    exact S3
   ·rw[if_neg h0] at S2
    obtain⟨k2,c3,R3,hk3,S3⟩:=h1 _ _ _ h0 hr1.tail.left S2 (by omega) (by omega)
    rw[<- hm] at hk3 S3
    have hr2:=hr1.tail.right
    rw[<- hm] at hr2
    obtain⟨g3,g4⟩:=hr2.head
    obtain⟨j2,S4⟩:=qju (s:=s) (args:=[]) (a:=0) (t:=p+n+1+m+1+l) h48 (by simpa using S3) g4 g3 hb ⟨by omega,by omega⟩ (by simp; omega) (.inl ⟨rfl,rfl,rfl⟩) (by omega)
    rw[if_pos rfl] at S4
    refine⟨k+(1+(k2+1)),_,R1.trans ((Run.one j1).trans (R3.trans (Run.one j2))),by omega,?_⟩
    rw[show fu-((k+(1+(k2+1)):Nat):Int)=fu-k-1-k2-1 by omega,show p+(n+(m+(l+1)+1))=p+n+1+m+1+l by omega]
    exact S4
  have one : ∀ (x:Int) (q:Nat) (cs:List Int) (fu:Int),CAt c q [(1,x)]->St w q fu rest cs->(([((1:Int),x)]:Cd).length:Int)<=fu->fu<=2000 -> ∃ (k:Nat) (cs':List Int),Run s c k cs cs'/\k<=([((1:Int),x)]:Cd).length/\St w (q+([((1:Int),x)]:Cd).length) (fu-k) (rest++[x]) cs':=fun x q cs fu hc S hf hf2=>
   leaf 1 x q rest cs fu hc S (by omega) (by simp at hf; omega) hf2 rfl (.inl rfl) rfl (by decide) (fun _=>rfl) (fun _ _=>rfl)
  cases o
  case and=>exact br (qat vs b) (fun _=>[(1,0)]) (if ev s w v a=0 then 0 else ev s w v b) hc hf (fun q cs fu h0 hc S hf hf2=>by rw[if_neg h0]; exact ihb' q rest cs fu hc S (by omega) hf hf2) (fun q cs fu h0 hc S hf hf2=>by rw[if_pos h0]; exact one 0 q cs fu hc S hf hf2)
  case or=>exact br (fun _=>[(1,1)]) (qat vs b) (if ev s w v a=0 then ev s w v b else 1) hc hf (fun q cs fu h0 hc S hf hf2=>by rw[if_neg h0]; exact one 1 q cs fu hc S hf hf2) (fun q cs fu h0 hc S hf hf2=>by rw[if_pos h0]; exact ihb' q rest cs fu hc S (by omega) hf hf2)
  case gt=>exact two b a 14 fu cs ihb' iha' hb1 ha1 (by omega) (by omega) (by omega) hc S hf hf2
  case ge=>exact two b a 15 fu cs ihb' iha' hb1 ha1 (by omega) (by omega) (by omega) hc S hf hf2
  case ne=>
   simp only[qat,binC] at hc hf ⊢
   have e : ∀ (K:Int->Cd) (x:Int × Int) (q:Int),snC K x q=K q++[x]:=fun _ _ _=>rfl
   rw[e] at hc hf ⊢
   simp only[Wb,Wd,Wj] at hf ⊢
   obtain⟨k,c1,R1,hk1,S1⟩:=two a b 16 fu cs iha' ihb' ha1 hb1 (by omega) (by omega) (by omega) hc.left S (by have:((16:Nat):Int)=16:=rfl; rw[this]; omega) hf2
   have hc2:=hc.right
   have e16:((16:Nat):Int)=16:=rfl
   rw[e16] at S1 hk1
   obtain⟨cs',R',S'⟩:=qlg (s:=s) h48 hb (op:=17) (a:=appI 16 (ev s w v a) (ev s w v b)) (b:=0) R1 S1 hc2 rfl ⟨by omega,by omega⟩ rfl (.inr (.inl ⟨rfl,rfl⟩)) ⟨by simp; omega,by omega⟩ (.inl rfl) rfl (by decide) (fun _=>rfl) (fun _ _=>rfl)
   exact⟨k+1,cs',R',by omega,by rw[show fu-((k+1:Nat):Int)=fu-k-1 by omega,<- Nat.add_assoc]; exact S'⟩
  case add=>exact two a b 9 fu cs iha' ihb' ha1 hb1 (by omega) (by omega) (by omega) hc S hf hf2
  case sub=>exact two a b 10 fu cs iha' ihb' ha1 hb1 (by omega) (by omega) (by omega) hc S hf hf2
  case mul=>exact two a b 11 fu cs iha' ihb' ha1 hb1 (by omega) (by omega) (by omega) hc S hf hf2
  case div=>exact two a b 12 fu cs iha' ihb' ha1 hb1 (by omega) (by omega) (by omega) hc S hf hf2
  case lt=>exact two a b 14 fu cs iha' ihb' ha1 hb1 (by omega) (by omega) (by omega) hc S hf hf2
  case le=>exact two a b 15 fu cs iha' ihb' ha1 hb1 (by omega) (by omega) (by omega) hc S hf hf2
  case eq=>exact two a b 16 fu cs iha' ihb' ha1 hb1 (by omega) (by omega) (by omega) hc S hf hf2
end
end
section
theorem qvK : ∀ (ts:List ByteArray) (p:Bool),Ok2 ts -> ∃ l:List (List UInt8 × ByteArray),OkG l/\l.map (·.2)=ts/\qdL l=qaI p ts/\(∀ q,l.head?=some q -> ∃ t,ts.head?=some t/\q=(gap p t,t)):=by
 intro ts
 induction ts with
 |nil=>intro p _; exact⟨[],trivial,rfl,rfl,fun q h=>by cases h⟩
 |cons t ts ih=>
  intro p ho
  obtain⟨l,l1,l2,l3,l4⟩:=ih (qb3 p t) ho.2.2
  have hwg:qlp (gap p t):=by
   unfold gap
   split
   ·exact qhz (.inl rfl)
   ·exact qex
  refine⟨(gap p t,t)::l,⟨hwg,ho.1,fun q hq=>?_,l1⟩,by simp[l2],by simp[qdL,qaI,l3],fun q hq=>⟨t,rfl,by cases hq; rfl⟩⟩
  obtain⟨u,hu,rfl⟩:=l4 q hq
  have hadj:=ho.2.1 u hu
  simp only
  by_cases hgap:(qb3 p t&&qaJ qay u)=true
  ·left
   exact⟨32,[],by simp[gap,hgap],.inl rfl⟩
  ·right
   have hgap':(qb3 p t&&qaJ qay u)=false:=by simpa using hgap
   refine⟨by simp[gap,hgap'],?_,hadj⟩
   rw[qmb ho.1 false p]
   exact hgap'
end
section
def stS(e:E):Ss := .store false (bs [97]) (.int 0) e .nil
def qqa(e:E):Ss := .cond false false e (.block false (stS (.int 1)) (.block false (stS (.int 0)) .nil)) .nil
def evS(b:Bool)(e:E):Ss:=if b then qqa e else stS e
def evO(b:Bool)(e:E):Nat->Option Ss:=Hd.opts .none (.some false (evS b e)) .none
def s1L:List UInt8:=[111,110,32,116,105,99,107,123,97,91,48,93,61]
def s2L:List UInt8:=[59,125]
def i1L:List UInt8:=[111,110,32,116,105,99,107,123,105,102,32]
def i2L:List UInt8:=[123,97,91,48,93,61,49,59,125,101,108,115,101,123,97,91,48,93,61,48,59,125,125]
def evT(b:Bool)(T:List UInt8):List UInt8:=if b then i1L++(T++i2L) else s1L++(T++s2L)
theorem qmG{b:Bool}{e:E}(hg:e.good)(hn:e.nest false 1<=15) : ∀ k,qkP (evO b e k)
 |0=>fun b h=>by cases h
 |1=>fun x h=>by
  cases h
  have m:bs [97]∈fieldNames:=by decide
  cases b
  ·exact⟨⟨rfl,m,⟨by omega,by omega⟩,hg,.inl rfl⟩,by simp[evS,stS,Ss.nest,E.nest]; omega⟩
  ·exact⟨⟨rfl,hg,⟨1,rfl,⟨rfl,m,⟨by omega,by omega⟩,⟨by omega,by omega⟩,.inl rfl⟩,⟨0,rfl,⟨rfl,m,⟨by omega,by omega⟩,⟨by omega,by omega⟩,.inl rfl⟩,.inr rfl⟩⟩,.inl rfl⟩,by simp[evS,qqa,stS,Ss.nest,E.nest]; omega⟩
 |_+2=>fun b h=>by cases h
theorem qwz(e:E):qaI false (qf1 (evO false e))=s1L++(qaI false (e.tx false 1)++s2L):=by
 have e0:qf1 (evO false e)=[onS,qhc,bs [123],bs [97],bs [91],bs (qhZ 0),bs [93],bs [61]]++(e.tx false 1++[bs [59],bs [125]]):=by
  simp[qf1,evO,Hd.opts,Hd.opt,qq3,evS,stS,Ss.tx,E.tx,qkO]
 have g2 : ∀ q,gap q (bs [59])=[]:=fun q=>by cases q<;>decide
 have g3 : ∀ q,gap q (bs [125])=[]:=fun q=>by cases q<;>decide
 rw[e0,qee,show qaI false [onS,qhc,bs [123],bs [97],bs [91],bs (qhZ 0),bs [93],bs [61]]=s1L by decide,show qq4 false [onS,qhc,bs [123],bs [97],bs [91],bs (qhZ 0),bs [93],bs [61]]=false by decide,qee,qaI,qaI,qaI,g2,g3]
 simp[qbg,s2L]
def i2T:List ByteArray:=[bs [123],bs [97],bs [91],bs (qhZ 0),bs [93],bs [61],bs (qhZ 1),bs [59],bs [125],qjR,bs [123],bs [97],bs [91],bs (qhZ 0),bs [93],bs [61],bs (qhZ 0),bs [59],bs [125],bs [125]]
theorem qwA(e:E):qf1 (evO true e)=onS::qhc::bs [123]::ifS::(e.tx false 1++i2T):=by
 simp[qf1,evO,Hd.opts,Hd.opt,qq3,evS,qqa,stS,Ss.tx,E.tx,qkO,qlH,i2T]
theorem qq7{b:Bool}{e:E}(hg:e.good)(hn:e.nest false 1<=15) : ∃ e0,Hx (qf1 (evO b e)) (toks (bs (evT b (qaI false (e.tx false 1))))) [⟨e0,⟨#[]⟩,0⟩]:=by
 have ok:=(qtR (qmG (b:=b) hg hn)).ok
 cases b
 ·have:=qpY ok
  rw[qwz] at this
  exact this
 ·rw[qwA] at ok ⊢
  obtain⟨t,r,htr⟩ : ∃ t r,e.tx false 1=t::r:=by
   cases h:e.tx false 1 with
   |nil=>exact absurd h (qoY false hg 1)
   |cons t r=>exact⟨t,r,rfl⟩
  have ok':Ok2 (e.tx false 1++i2T):=ok.2.2.2.2.2.2.2.2
  obtain⟨l,l1,l2,l3,l4⟩:=qvK (e.tx false 1++i2T) false ok'
  cases l with
  |nil=>rw[htr] at l2; cases l2
  |cons q l=>
   obtain⟨t',ht',rfl⟩:=l4 q rfl
   rw[htr] at ht'
   obtain rfl:t=t':=by simpa using ht'
   have g0:gap false t=[]:=rfl
   rw[g0] at l1 l2 l3
   have wn:=qex
   have wb:qlp [32]:=qhz (.inl rfl)
   have hok:OkG (([],onS)::([32],qhc)::([],bs [123])::([],ifS)::([32],t)::l):=
    ⟨wn,ok.1,fun p hp=>by cases hp; exact .inl ⟨32,[],rfl,.inl rfl⟩,wb,ok.2.2.1,fun p hp=>by cases hp; exact .inr ⟨rfl,by decide,ok.2.2.2.1 _ rfl⟩,
     wn,ok.2.2.2.2.1,fun p hp=>by cases hp; exact .inr ⟨rfl,by decide,ok.2.2.2.2.2.1 _ rfl⟩,wn,ok.2.2.2.2.2.2.1,fun p hp=>by cases hp; exact .inl ⟨32,[],rfl,.inl rfl⟩,wb,l1.2.1,l1.2.2.1,l1.2.2.2⟩
   have hm:(([],onS)::([32],qhc)::([],bs [123])::([],ifS)::([32],t)::l).map (fun p:List UInt8 × ByteArray=>p.2)=onS::qhc::bs [123]::ifS::(e.tx false 1++i2T):=by
    rw[<- l2]; rfl
   have ht : ∀ q,qaI q i2T=i2L:=fun q=>by cases q<;>decide
   have he:qdL (([],onS)::([32],qhc)::([],bs [123])::([],ifS)::([32],t)::l)=evT true (qaI false (e.tx false 1)):=by
    have l3':byl t++qdL l=qaI false (e.tx false 1)++i2L:=by
     rw[<- ht,<- qee,<- l3]; rfl
    show []++(byl onS++([32]++(byl qhc++([]++(byl (bs [123])++([]++(byl ifS++([32]++(byl t++qdL l)))))))))=_
    rw[l3']
    rfl
   have:=qiv 12 2 6 hok qex (.inl rfl) (s:=bs (evT true (qaI false (e.tx false 1)))) (by rw[qbg,he,WD])
   rw[hm] at this
   exact this
end
end Go.Pm
section
namespace Go.Pm.Gr
theorem qmu {c:Cd} {e i:Nat} : ∀ (l pre:List Int) (a:An) (d:Int),Inv c e (some i) pre a->d=aft c i (gD a.ds i-1)->(∀ j∈l,j∈qgg c i/\0<=j/\j<=c.length) ->
  Inv c e (some i) (pre++l) (l.foldl (one c.length d) a)/\gD (l.foldl (one c.length d) a).ds i=gD a.ds i
 |[],pre,a,d,h,_,_=>by simpa using h
 |j::l,pre,a,d,h,hd,hl=>by
  obtain⟨h1,h2⟩:=qto h (hl j (by simp)).1 (hl j (by simp)).2
  rw[<- hd] at h1 h2
  have:=qmu l (pre++[j]) (one c.length d a j) d h1 (by rw[h2]; exact hd) (fun x hx=>hl x (by simp[hx]))
  rw[h2] at this
  simpa using this
theorem qtH{c:Cd}{e i:Nat}{r:List Nat}{a:An}(hf:qvp c)(h:Inv c e none [] a)(ho:a.op=r++[i]):Inv c e none [] (stp c a i r):=by
 have hnd:=h.nodup
 rw[ho,List.nodup_append] at hnd
 have hir:i∉r:=fun hh=>hnd.2.2 i hh i (by simp) rfl
 have hio:i∈a.op:=by rw[ho]; simp
 obtain⟨hil,hi0⟩:=h.opn i hio
 obtain⟨hp1,hp2⟩:=h.pos i hil hi0
 have back : ∀ k,k∉r->k=i\/k∉a.op:=fun k hk=>by
  by_cases hki:k=i
  ·exact .inl hki
  ·right; rw[ho]; simp[hk,hki]
 have h0:Inv c e (some i) [] { a with breaks:=a.breaks||decide (gD a.ds i-1<qeC (opA c i)),depth:=max a.depth (aft c i (gD a.ds i-1)),op:=r }:=by
  refine⟨h.len,hnd.1,fun k hk=>h.opn k (by rw[ho]; simp[hk]),h.pos,h.ent,fun k hk=>?_,fun k k1 k2 k3 x hx=>?_,h.fal,fun hb k k1 k2 k3=>?_,fun D hD=>?_,⟨?_,fun k k1 k2 k3=>?_⟩,?_⟩
  ·have:i=k:=WX hk
   subst this
   exact⟨hil,hi0,hir⟩
  ·simp only at k2 k3 ⊢
   by_cases hk:some i=some k
   ·rw[if_pos hk] at hx; simp at hx
   ·rw[if_neg hk] at hx
    rcases back k k3 with hki|hko
    ·exact absurd (by rw[hki]) hk
    ·have:=h.done k k1 k2 hko
     simp only[reduceCtorEq,if_false] at this
     exact this x hx
  ·simp only[Yy,decide_eq_false_iff_not] at hb
   simp only at k2 k3 ⊢
   by_cases hk:some i=some k
   ·have:i=k:=WX hk
    subst this
    exact⟨by omega,fun x hx=>by rw[if_pos hk] at hx; simp at hx⟩
   ·rw[if_neg hk]
    rcases back k k3 with hki|hko
    ·exact absurd (by rw[hki]) hk
    ·have:=h.brk hb.1 k k1 k2 hko
     simp only[reduceCtorEq,if_false] at this
     exact this
  ·obtain⟨c1,c2⟩:=h.cf D hD
   refine⟨?_,c2⟩
   have:=hD.pops i hp2
   have:=c2 i hil hi0
   simp only[c1,YH,decide_eq_false_iff_not]
   omega
  ·have:=h.dle.1
   simp only
   omega
  ·simp only at k2 k3 ⊢
   rcases back k k3 with hki|hko
   ·rw[hki]; omega
   ·have:=h.dle.2 k k1 k2 hko; omega
  ·simp only
   by_cases hm:aft c i (gD a.ds i-1)<=a.depth
   ·rcases h.dat with hd|⟨k,k1,k2,k3,k4⟩
    ·exact .inl (by omega)
    ·exact .inr ⟨k,k1,k2,fun hh=>k3 (by rw[ho]; simp[hh]),by omega⟩
   ·exact .inr ⟨i,hil,hi0,hir,by omega⟩
 have h1:=(qmu (qgg c i) [] _ (aft c i (gD a.ds i-1)) h0 rfl (fun j hj=>⟨hj,hf i hil j hj⟩)).1
 rw[Wg] at h1
 unfold stp
 refine⟨h1.len,h1.nodup,h1.opn,h1.pos,h1.ent,fun k hk=>(by cases hk),fun k k1 k2 k3 x hx=>?_,h1.fal,fun hb k k1 k2 k3=>?_,h1.cf,h1.dle,h1.dat⟩
 ·have:=h1.done k k1 k2 k3
  simp only[reduceCtorEq,if_false] at hx
  by_cases hk:some i=some k
  ·rw[if_pos hk] at this
   exact this x (by rw[WX hk]; exact hx)
  ·rw[if_neg hk] at this
   exact this x hx
 ·have:=h1.brk hb k k1 k2 k3
  simp only[reduceCtorEq,if_false]
  by_cases hk:some i=some k
  ·have hik:i=k:=WX hk
   subst hik
   rw[if_pos rfl] at this
   exact this
  ·rw[if_neg hk] at this
   exact this
def an0(c:Cd)(e:Nat):An:=⟨false,false,0,(List.replicate c.length 0).set e 1,[e]⟩
theorem qoN(n i:Nat):gD (List.replicate n 0) i=0:=by
 simp only[gD,Wn,List.getElem?_replicate]
 split<;>rfl
theorem qtI{c:Cd}{e:Nat}(he:e<c.length):Inv c e none [] (an0 c e):=by
 have hse:gD ((List.replicate c.length 0).set e 1) e=1:=qfS (by simpa using he)
 have hne : ∀ i,gD ((List.replicate c.length 0).set e 1) i≠0->i=e:=fun i hi=>by
  by_cases h:e=i
  ·exact h.symm
  ·rw[qfT h,qoN] at hi; exact absurd rfl hi
 unfold an0
 refine⟨by simp,by simp,fun i hi=>?_,fun i _ hi=>?_,hse,fun i hi=>(by cases hi),fun i _ h2 h3=>?_,fun h=>(by simp at h),fun _ i _ h2 h3=>?_,fun D hD=>⟨rfl,fun i _ h2=>?_⟩,⟨by simp,fun i _ h2 h3=>?_⟩,.inl rfl⟩
 ·simp only[Wk] at hi
  rw[hi]; exact⟨he,by rw[hse]; omega⟩
 ·rw[hne i hi,hse]; exact⟨by omega,Reach.here⟩
 ·exact absurd (by simp[hne i h2]) h3
 ·exact absurd (by simp[hne i h2]) h3
 ·rw[hne i h2,hse,hD.zero]; rfl
 ·exact absurd (by simp[hne i h2]) h3
theorem qtJ {c:Cd} {e:Nat} {a:An} (he:e<c.length) (h:Inv c e none [] a) (ho:a.op=[]) :
  (a.falls=true↔qtn c e)/\(a.breaks=false ↔ ∃ D,CF c e D) /\ ∀ D,CF c e D->Most c e D a.depth:=by
 have hno : ∀ i,i∉a.op:=fun i=>by rw[ho]; simp
 have hall : ∀ i,Reach c e i->gD a.ds i≠0:=fun i hi=>by
  induction hi with
  |here=>rw[h.ent]; omega
  |go hi hl hj hjl ih=>
   have:=h.done _ hl ih (hno _)
   simp only[reduceCtorEq,if_false] at this
   have:=(this _ hj).2 (by omega)
   simpa using this
 refine⟨⟨h.fal,fun ⟨i,hi,hj⟩=>?_⟩,⟨fun hb=>⟨fun i=>gD a.ds i-1,?_,fun i hi=>?_,fun i hi j hj hjl=>?_⟩,fun ⟨D,hD⟩=>(h.cf D hD).1⟩,fun D hD=>⟨h.dle.1,fun i hi=>?_,?_⟩⟩
 ·have:=h.done i (hi.lt he) (hall i hi) (hno i)
  simp only[reduceCtorEq,if_false] at this
  exact (this _ hj).1 rfl
 ·rw[h.ent]; rfl
 ·exact (h.brk hb i (hi.lt he) (hall i hi) (hno i)).1
 ·have:=(h.brk hb i (hi.lt he) (hall i hi) (hno i)).2
  simp only[reduceCtorEq,if_false] at this
  have:=this _ hj (by omega)
  simp only[Int.toNat_natCast] at this
  omega
 ·have h2:=(h.cf D hD).2 i (hi.lt he) (hall i hi)
  have:=h.dle.2 i (hi.lt he) (hall i hi) (hno i)
  rw[h2,show D i+1-1=D i by omega] at this
  exact this
 ·rcases h.dat with h0|⟨i,h1,h2,_,h4⟩
  ·exact .inl h0
  ·refine .inr ⟨i,(h.pos i h1 h2).2,?_⟩
   rw[h4,(h.cf D hD).2 i h1 h2,show D i+1-1=D i by omega]
def mu(a:An):Nat:=2*a.ds.count 0+a.op.length
theorem count_set{l:List Int}{i:Nat}{v:Int}(hi:i<l.length)(h0:gD l i=0)(hv:v≠0):(l.set i v).count 0+1=l.count 0:=by
 have hx:l[i]=0:=by simpa [gD,Wn,hi] using h0
 rw[List.count_set hi]
 have hp:0<l.count 0:=List.count_pos_iff.2 (by rw[<- hx]; exact Ya hi)
 simp[hx,hv]
 omega
theorem qwo{n:Nat}{d:Int}{a:An}{j:Int}(hl:a.ds.length=n)(hj:0<=j/\j<=n):mu (one n d a j)<=mu a/\(one n d a j).ds.length=n:=by
 unfold one
 by_cases hn:j=n
 ·rw[if_pos hn]; exact⟨Wi _,hl⟩
 ·rw[if_neg hn]
  by_cases h0:gD a.ds j.toNat=0
  ·rw[if_pos h0]
   refine⟨?_,by simp[hl]⟩
   have:=count_set (v:=max d 0+1) (by omega) h0 (by omega)
   unfold mu
   simp only[Wb,Wr]
   omega
  ·rw[if_neg h0]
   split<;>exact⟨Wi _,hl⟩
theorem qoO{n:Nat}{d:Int} : ∀ (l:List Int) (a:An),a.ds.length=n->(∀ j∈l,0<=j/\j<=n)->mu (l.foldl (one n d) a)<=mu a
 |[],a,_,_=>Wi _
 |j::l,a,hl,hj=>by
  obtain⟨h1,h2⟩:=qwo (d:=d) hl (hj j (by simp))
  exact Yb (qoO l _ h2 (fun x hx=>hj x (by simp[hx]))) h1
theorem qwp{c:Cd}{i:Nat}{r:List Nat}{a:An}(hf:qvp c)(hl:a.ds.length=c.length)(hi:i<c.length)(ho:a.op=r++[i]):mu (stp c a i r)<mu a:=by
 unfold stp
 refine WI (qoO _ _ (by simpa using hl) (hf i hi)) ?_
 simp only[mu,ho,Wb,Wr]
 omega
end Go.Pm.Gr
end
section
namespace Go.Pm.Gr
structure Rs where
 out:List Int
 ok:Bool
 ch:Bool
structure RI(c:Cd)(e:Nat)(s:Rs):Prop where
 len:s.out.length=c.length
 ent:gD s.out e=0
 rch : ∀ i,i<c.length->0<=gD s.out i->Reach c e i
 cf : ∀ D,CF c e D->s.ok=true /\ ∀ i,i<c.length->0<=gD s.out i->gD s.out i=D i
end Go.Pm.Gr
end
section
namespace Go.Pm.Gr
structure AnaRes(c:Cd)(e:Nat)(fl br:Bool)(dp:Int):Prop where
 fal:fl=true↔qtn c e
 brk:br=false ↔ ∃ D,CF c e D
 most : ∀ D,CF c e D->Most c e D dp
structure RefRes(c:Cd)(e:Nat)(out:List Int)(ok:Bool):Prop where
 len:out.length=c.length
 rch : ∀ i,i<c.length->(0<=gD out i↔Reach c e i)
 ok_:ok=true ↔ ∃ D,CF c e D
 val : ∀ D,CF c e D -> ∀ i,Reach c e i->gD out i=D i
end Go.Pm.Gr
end
namespace Go.Pm
section
open F Gr
def icC(c:Cd):List D:=c.flatMap fun x=>[.lit (.int .i64 x.1),.lit (.int .i64 x.2)]
@[simp] theorem qfc(c:Cd):(icC c).length=c.length*2:=by
 induction c with
 |nil=>rfl
 |cons x c ih=>simp only[icC,List.flatMap_cons,Wb,Wd,Wj] at ih ⊢; omega
theorem qiU(a b:Cd):icC (a++b)=icC a++icC b:=by simp[icC]
theorem qmK(c:Cd)(i:Nat):(icC c).drop (i*2)=icC (c.drop i):=by
 induction i generalizing c with
 |zero=>simp
 |succ i ih=>
  cases c with
  |nil=>simp[icC]
  |cons x c=>
   rw[show (i+1)*2=i*2+2 by omega]
   simp only[icC,List.flatMap_cons,Wh,Wg,YB] at ih ⊢
   exact ih c
theorem qrh(c:Cd)(i:Nat)(h:i<c.length):qaj (icC c) (i*2) 2=some [.lit (.int .i64 (opA c i)),.lit (.int .i64 (nA c i))]:=by
 unfold qaj
 rw[qmK,WC h]
 have e:icC (c[i]::c.drop (i+1)) = .lit (.int .i64 c[i].1) :: .lit (.int .i64 c[i].2)::icC (c.drop (i+1)):=rfl
 have e1:opA c i=c[i].1:=by simp[opA,Wn,h]
 have e2:nA c i=c[i].2:=by simp[nA,Wn,h]
 rw[e,e1,e2]
 rfl
theorem qri(c:Cd)(i:Nat)(h:i<c.length):qaj (icC c) (i*2) 1=some [.lit (.int .i64 (opA c i))]:=by
 unfold qaj
 rw[qmK,WC h]
 have e:icC (c[i]::c.drop (i+1)) = .lit (.int .i64 c[i].1) :: .lit (.int .i64 c[i].2)::icC (c.drop (i+1)):=rfl
 have e1:opA c i=c[i].1:=by simp[opA,Wn,h]
 rw[e,e1]
 rfl
structure IsCode(d:D)(c:Cd):Prop where
 len : ∀ σ,V.len σ .sl (.dat d)=some c.length
 at_ : ∀ i:Int,0<=i->i<c.length->qag 2 (.dat d) i=some (.dat (.imm (icC c) (i.toNat*2)))
 one:V.one (.dat d)=true
 cells:V.cells (.dat d)=[.dat d]
theorem qkV(c:Cd)(f:Bool):IsCode (.sl (icC c) c.length f) c where
 len:=fun _=>rfl
 at_:=fun i h0 h1=>by simp[qag,h0,h1]
 one:=rfl
 cells:=rfl
theorem qnI:IsCode (.lit (.slice none 0 0)) [] where
 len:=fun _=>rfl
 at_:=fun i h0 h1=>by simp at h1; omega
 one:=rfl
 cells:=rfl
def pgD(d:D)(e0 e1 e2:Int):V := .dat (.agg [d,.lit (.int .i64 e0),.lit (.int .i64 e1),.lit (.int .i64 e2)])
def qt7(c:Cd)(i:Nat):D:=if opA c i=21 then .lit (.slice none 0 0) else .sl (qan (qgg c i)) (qgg c i).length true
theorem qrj(c:Cd)(i:Nat):IsRow (qt7 c i) (qgg c i):=by
 unfold qt7
 by_cases h:opA c i=21
 ·rw[if_pos h]
  have:qgg c i=[]:=by unfold qgg; rw[if_pos h]
  rw[this]
  exact qkZ none
 ·rw[if_neg h]; exact qmL _ true
section
variable{d:D}{c:Cd}{e0 e1 e2:Int}{i:Nat}
theorem qwQ(hd:IsCode d c)(hi:i<c.length)(hi2:i<2^40):Z qae (.call 164 [pgD d e0 e1 e2,.int i] [])=some (.ret (.dat (qt7 c i)) []):=by
 have h1:=hd.at_ i (by omega) (by omega)
 rw[show ((i:Int)).toNat=i by omega] at h1
 have h2:=qrh c i hi
 have w1:=qaf ((i:Int)+1) (by omega)
 have ho:=hd.one
 have hc:=hd.cells
 refine qaa (pf:=F164) rfl rfl ?_
 unfold qt7 qgg
 generalize opA c i=op at *
 generalize nA c i=n at *
 by_cases k1:op=21
 ·simp[F164,pgD,Wa,h1,h2,k1,ho,hc]
 ·by_cases k2:op=18
  ·simp[F164,pgD,Wa,h1,h2,k1,k2,ho,hc,qan]
  ·by_cases k3:op=19
   ·simp[F164,pgD,Wa,h1,h2,k1,k2,k3,w1,ho,hc,qan]
   ·simp[F164,pgD,Wa,h1,h2,k1,k2,k3,w1,ho,hc,qan]
end
def aS(d:D)(e0 e1 e2:Int)(a:An):S:=
 [.cells [.dat d,.int e0,.int e1,.int e2],.cells [.bool false,.bool false,.int 0],.cells [.bool a.falls,.bool a.breaks,.int a.depth],.cells (qbz a.ds),.vec (qbz (a.op.map fun (i:Nat)=>(i:Int)))]
def bFr(n m:Nat)(dp:Int)(r:D)(len k:Nat):Fr:=[(2,.ptr 0 0),(4,.ptr 1 0),(5,.ptr 2 0),(6,.msl 3 0 n n 1),(7,.own 4 m 1),(10,.int dp),(68,.dat r),(69,.int len),(70,.int k)]
def aFr(n m:Nat):Fr:=[(2,.ptr 0 0),(4,.ptr 1 0),(5,.ptr 2 0),(6,.msl 3 0 n n 1),(7,.own 4 m 1)]
section
variable{d:D}{c:Cd}{e0 e1 e2:Int}{a:An}{r:D}{l:List Int}{k:Nat}{dp:Int}
theorem qt8 (hd:IsCode d c) (hr:IsRow r l) (hk:k<l.length) (hk2:k<100) (hl:a.ds.length=c.length) (hcl:c.length<2^30) (hol:a.op.length<2^30) (hj:0<=l[k]/\l[k]<=c.length) (hdp : -10<=dp/\dp<2^40):
  Z qae (.loop 0 F139l1 (bFr c.length a.op.length dp r l.length k) (aS d e0 e1 e2 a))=Z qae (.loop 0 F139l1 (bFr c.length (Gr.one c.length dp a l[k]).op.length dp r l.length (k+1)) (aS d e0 e1 e2 (Gr.one c.length dp a l[k]))):=by
 have h1:=hr.at_ k (by omega) (by omega)
 rw[show ((k:Int)).toNat=k by omega] at h1
 have h2:=qaB l k hk
 have h2':getN l k=l[k]:=by simp[getN,Wn,hk]
 rw[h2'] at h2
 have hk':(k:Int)<l.length:=by omega
 have w1:=qaf ((k:Int)+1) (by omega)
 have w2:=qaf (dp+1) (by omega)
 have hlen:=hd.len
 have ho:=hd.one
 have hc:=hd.cells
 unfold Gr.one
 generalize l[k]=j at *
 obtain⟨fl,br,depth,ds,op⟩:=a
 simp only at hl hol ⊢
 have S1 : ∀ (x:D),x=x:=fun _=>rfl
 by_cases hn:j=c.length
 ·subst hn
  rw[qac]
  simp[qad,qdd,bFr,aS,Wa,hlen,h1,h2,hk',w1,ho,hc]
 ·rw[if_neg hn]
  have hm:qag 1 (.msl 3 0 c.length c.length 1) j=some (.ptr 3 j.toNat):=by
   have a1:0<=j:=hj.1
   have a2:j<c.length:=by omega
   simp[qag,a1,a2]
  have hu:=qul (cs:=ds) j (gD ds j.toNat) hj.1 (by omega) rfl
  have hjn:(j.toNat:Int)=j:=by omega
  have hse : ∀ v,(qbz ds).take j.toNat++(V.int v::(qbz ds).drop (j.toNat+1))=qbz (ds.set j.toNat v):=fun v=>qbH ds j.toNat v (by omega)
  have hjl:j.toNat+1<=ds.length:=by omega
  by_cases h0:gD ds j.toNat=0
  ·rw[if_pos h0]
   have hr8:qaC (op.length+1) 8=true:=by simp[qaC]; omega
   have hap:qbz (op.map fun (i:Nat)=>(i:Int))++[V.int j]=qbz ((op++[j.toNat]).map fun (i:Nat)=>(i:Int)):=by simp[qbz,hjn]
   have wone:IntKind.i64.wrap 1=1:=rfl
   have hmj:max j 0=j:=by omega
   have hap2 : ∀ X,qbz X++[V.int j]=qbz (X++[j]):=fun X=>by simp[qbz]
   by_cases hneg:dp<0
   ·have hmx:max dp 0+1=1:=by omega
    rw[hmx,qac]
    simp[qad,qdd,bFr,aS,Wa,hlen,h1,h2,hk',w1,ho,hc,hn,hm,hu,h0,hse,hjl,hr8,qkx,qn3,wone,hmj,hap2,hneg]
    refine qal ?_
    simp[Wa,ho,hc]
   ·have hmx:max dp 0=dp:=by omega
    rw[hmx,qac]
    simp[qad,qdd,bFr,aS,Wa,hlen,h1,h2,hk',w1,ho,hc,hn,hm,hu,h0,hse,hjl,hr8,qkx,qn3,wone,hmj,hap2,hneg,w2]
    refine qal ?_
    simp[Wa,ho,hc]
  ·rw[if_neg h0]
   by_cases h3:gD ds j.toNat=dp+1
   ·have h0' : ¬ dp+1=0:=by omega
    rw[if_neg (by omega),qac]
    simp[qad,qdd,bFr,aS,Wa,hlen,h1,h2,hk',w1,w2,ho,hc,hn,hm,hu,h0,h3,h0']
   ·rw[if_pos h3,qac]
    simp[qad,qdd,bFr,aS,Wa,hlen,h1,h2,hk',w1,w2,ho,hc,hn,hm,hu,h0,h3]
end
end
section
open F Gr
section
variable{d:D}{c:Cd}{e0 e1 e2:Int}{r:D}{l:List Int}{dp:Int}
theorem qvL(hd:IsCode d c)(a:An):Z qae (.loop 0 F139l1 (bFr c.length a.op.length dp r l.length l.length) (aS d e0 e1 e2 a))=some (.out (.exit 2) (bFr c.length a.op.length dp r l.length l.length++[(71,.bool false)]) (aS d e0 e1 e2 a)):=by
 have ho:=hd.one
 have hc:=hd.cells
 obtain⟨fl,br,depth,ds,op⟩:=a
 rw[qac]
 simp[qad,qdd,bFr,aS,Wa,ho,hc]
theorem qs5{n:Nat}{d:Int}{a:An}{j:Int}(hl:a.ds.length=n):(Gr.one n d a j).ds.length=n/\(Gr.one n d a j).op.length<=a.op.length+1:=by
 unfold Gr.one
 split
 ·exact⟨hl,Nat.le_succ _⟩
 ·split
  ·exact⟨by simp[hl],by simp⟩
  ·split<;>exact⟨hl,Nat.le_succ _⟩
theorem qs6 (hd:IsCode d c) (hr:IsRow r l) (hl2:l.length<50) (hcl:c.length<2^29) (hj : ∀ x∈l,0<=x/\x<=c.length) (hdp : -10<=dp/\dp<2^40) (m:Nat) : ∀ (k:Nat) (a:An),k+m=l.length->a.ds.length=c.length->a.op.length+m<2^30 ->
  Z qae (.loop 0 F139l1 (bFr c.length a.op.length dp r l.length k) (aS d e0 e1 e2 a))=some (.out (.exit 2) (bFr c.length ((l.drop k).foldl (Gr.one c.length dp) a).op.length dp r l.length l.length++[(71,.bool false)]) (aS d e0 e1 e2 ((l.drop k).foldl (Gr.one c.length dp) a))):=by
 induction m with
 |zero=>
  intro k a hk ha ho
  have:k=l.length:=by omega
  subst this
  rw[List.drop_length]
  exact qvL hd a
 |succ m ih=>
  intro k a hk ha ho
  have hkl:k<l.length:=by omega
  rw[WC hkl,W3]
  obtain⟨q1,q2⟩:=qs5 (n:=c.length) (d:=dp) (j:=l[k]) ha
  rw[qt8 hd hr hkl (by omega) ha (by omega) (by omega) (hj _ (Ya hkl)) hdp]
  exact ih (k+1) _ (by omega) q1 (by omega)
end
def F139a:PC:=match F139l0 with | .seq a _=>a|_ => .skip
def F139b:PC:=match F139l0 with | .seq _ b=>b|_ => .skip
theorem F139a_eq:F139a = .seq (.region none [⟨some 22,.mov (.t 7),none,[]⟩,⟨some 23,.len .sl (.t 22),none,[]⟩,⟨some 24,.bin .gtr (.t 23) (.c (.int .i64 0)),none,[]⟩] [2,4,5,6,7,24]) (.cond (.t 24) (.skip) (.exit 0)):=rfl
theorem qqh (d:D) (e0 e1 e2:Int) (a:An) (n m:Nat) (dp:Int) (r:D) (len k:Nat) (b:Bool) :
  Z qae (.loop 0 F139l0 (bFr n m dp r len k++[(71,.bool b)]) (aS d e0 e1 e2 a))=Z qae (.loop 0 F139l0 (aFr n m) (aS d e0 e1 e2 a)):=by
 have e:F139l0 = .seq F139a F139b:=rfl
 rw[qac,qac,e]
 simp[qad,F139a_eq,aFr,bFr,aS,Wa,qbS]
theorem qyg : ∀ op:Nat,1<=op->op<=21->qaj G_arenanet_compile_effects (op*2) 2=some [.lit (.int .i64 (qeC op)),.lit (.int .i64 (qdp op))]:=by
 intro op h1 h2
 have : ∀ k:_root_.Fin 22,1<=k.val->qaj effRows15.flatten (k.val*2) 2=some [qeC k.val,qdp k.val]:=by decide
 have h:=this ⟨op,by omega⟩ h1
 unfold G_arenanet_compile_effects
 unfold qaj at h ⊢
 simp only at h ⊢
 rw[<- List.map_drop,<- List.map_take]
 split at h
 ·rename_i hh
  simp only[We] at h
  rw[if_pos (by rw[Yd]; exact hh),h]
  rfl
 ·cases h
section
variable{d:D}{c:Cd}{e0 e1 e2:Int}
set_option maxHeartbeats 4000000 in
theorem qs7 (hd:IsCode d c) (hf:qvp c) (hops : ∀ i,i<c.length->1<=opA c i/\opA c i<=21) (hcl:c.length<2^29) {a:An} {i:Nat} {r:List Nat} (ho:a.op=r++[i]) (hi:i<c.length) (hl:a.ds.length=c.length) (hol:a.op.length<2^29) (hb:1<=gD a.ds i/\gD a.ds i<2^39) :
  Z qae (.loop 0 F139l0 (aFr c.length a.op.length) (aS d e0 e1 e2 a))=Z qae (.loop 0 F139l0 (aFr c.length (stp c a i r).op.length) (aS d e0 e1 e2 (stp c a i r))):=by
 have hlen:=hd.len
 have h1:=hd.one
 have h2:=hd.cells
 obtain⟨op,hop⟩ : ∃ op:Nat,(op:Int)=opA c i:=⟨(opA c i).toNat,by have:=hops i hi; omega⟩
 have hopr:1<=op/\op<=21:=by have:=hops i hi; omega
 have heff:=qyg op hopr.1 hopr.2
 have hat:=hd.at_ i (by omega) (by omega)
 rw[show ((i:Int)).toNat=i by omega] at hat
 have hcut:=qri c i hi
 rw[<- hop] at hcut
 have hsu:=qwQ (e0:=e0) (e1:=e1) (e2:=e2) hd hi (by omega)
 have hp:=qmn (opA c i)
 have hq:=qfR (opA c i)
 have hslen:(qgg c i).length<50:=by unfold qgg; split<;>(try split)<;>(try split)<;>simp
 have hdp : -10<=aft c i (gD a.ds i-1)/\aft c i (gD a.ds i-1)<2^40:=by unfold aft; omega
 have hrow:=qrj c i
 have hra:(aft c i (gD a.ds i-1))=gD a.ds i-1+(qdp (opA c i)-qeC (opA c i)):=rfl
 have hloop:=qs6 (e0:=e0) (e1:=e1) (e2:=e2) hd hrow hslen hcl (fun x hx=>hf i hi x hx) hdp (qgg c i).length 0 { a with breaks:=a.breaks||decide (gD a.ds i-1<qeC (opA c i)),depth:=max a.depth (aft c i (gD a.ds i-1)),op:=r } (by omega) hl (by rw[ho] at hol; simp at hol ⊢; omega)
 rw[WT] at hloop
 have hst:stp c a i r=(qgg c i).foldl (Gr.one c.length (aft c i (gD a.ds i-1))) { a with breaks:=a.breaks||decide (gD a.ds i-1<qeC (opA c i)),depth:=max a.depth (aft c i (gD a.ds i-1)),op:=r }:=rfl
 rw[<- hst] at hloop
 have hr2:=hrow.len
 obtain⟨R,hR⟩ : ∃ R,R=stp c a i r:=⟨_,rfl⟩
 rw[<- hR] at hloop ⊢
 clear hst
 obtain⟨dp,hdpe⟩ : ∃ dp,dp=aft c i (gD a.ds i-1):=⟨_,rfl⟩
 rw[<- hdpe] at hloop hra
 obtain⟨fl,br,depth,ds,aop⟩:=a
 simp only at ho hl hol hb hloop hdpe hra hdp
 subst ho
 have hm:qag 1 (.msl 3 0 c.length c.length 1) i=some (.ptr 3 i):=by
  have a2:(i:Int)<c.length:=by omega
  simp[qag,a2]
 have hu:=qmM (cs:=ds) i (gD ds i) (by omega) rfl
 have hown:qag 1 (.own 4 (r.length+1) 1) (r.length:Int)=some (.eptr 4 (r.length+1) r.length):=qwU 4 (r.length+1) r.length (by omega)
 have hou:qaj (qbz (r.map (fun (i:Nat)=>(i:Int))++[(i:Int)])) r.length 1=some [V.int i]:=qmM r.length _ (by simp) (by simp[getN,Wn])
 have w1:IntKind.i64.wrap (r.length:Int)=r.length:=qaf _ (by simp at hol; omega)
 have w2:IntKind.i64.wrap (gD ds i-1)=gD ds i-1:=qaf _ (by omega)
 have w3:IntKind.i64.wrap (qdp op-qeC op)=qdp op-qeC op:=by rw[hop]; exact qaf _ (by omega)
 have w4:IntKind.i64.wrap (gD ds i-1+(qdp op-qeC op))=dp:=by rw[hop,<- hra]; exact qaf _ (by omega)
 rw[<- hop] at hloop
 have bn1:bound (some (V.int r.length)) (r.length+1) (r.length+1)=some r.length:=by simp[bound]; omega
 have bn2 : ∀ h,bound none 0 h=some 0:=fun h=>by simp[bound]
 have tk:(qbz (r.map (fun (i:Nat)=>(i:Int))++[(i:Int)])).take r.length=qbz (r.map fun (i:Nat)=>(i:Int)):=by
  rw[qph]; congr 1; rw[List.take_append_of_le_length (by simp),Ww (by simp)]
 have gpos:0<(r.length:Int)+1:=by omega
 have hir:(i:Int)<c.length:=by omega
 have hop22:(op:Int)<22:=by omega
 have hol':r.length+1<2^29:=by simpa using hol
 simp only[pgD] at hsu
 have key : ∀ (BR:Bool) (DM:Int),BR=(br||decide (gD ds i-1<qeC op))->DM=max depth dp ->
   Z qae (.loop 0 F139l1 [(2,.ptr 0 0),(4,.ptr 1 0),(5,.ptr 2 0),(6,.msl 3 0 c.length c.length 1),(7,.own 5 r.length 1),(10,.int dp),(68,.dat (qt7 c i)),(69,.int (qgg c i).length),(70,.int 0)]
    [.cells [.dat d,.int e0,.int e1,.int e2],.cells [.bool false,.bool false,.int 0],.cells [.bool fl,.bool BR,.int DM],.cells (qbz ds),.dead,.vec (qbz (r.map fun (i:Nat)=>(i:Int))),.cells [.int (qeC op),.int (qdp op)]]) =
   some (.out (.exit 2) (bFr c.length R.op.length dp (qt7 c i) (qgg c i).length (qgg c i).length++[(71,.bool false)]) (aS d e0 e1 e2 R)):=fun BR DM e1' e2'=>by
  rw[<- hloop]
  refine qal ?_
  rw[<- e1',<- e2']
  simp[bFr,aS,Wa,h1,h2]
 have fin:=qqh d e0 e1 e2 R c.length R.op.length dp (qt7 c i) (qgg c i).length (qgg c i).length false
 by_cases hbr:gD ds i-1<qeC op
 ·by_cases hmx:depth<dp
  ·have hl3:=key true dp (by simp[hbr]) (by omega)
   rw[qac,<- fin]
   simp only[bFr] at hl3 ⊢
   simp[qad,qe2,aFr,aS,pgD,Wa,hlen,h1,h2,hat,hcut,heff,hsu,hm,hu,hown,hou,w1,w2,w3,w4,hbr,hmx,qkx,qn3,gpos,hop22,hr2,qbS,bn1,bn2,tk,hl3]
  ·have hl3:=key true depth (by simp[hbr]) (by omega)
   rw[qac,<- fin]
   simp only[bFr] at hl3 ⊢
   simp[qad,qe2,aFr,aS,pgD,Wa,hlen,h1,h2,hat,hcut,heff,hsu,hm,hu,hown,hou,w1,w2,w3,w4,hbr,hmx,qkx,qn3,gpos,hop22,hr2,qbS,bn1,bn2,tk,hl3]
 ·by_cases hmx:depth<dp
  ·have hl3:=key br dp (by simp[hbr]) (by omega)
   rw[qac,<- fin]
   simp only[bFr] at hl3 ⊢
   simp[qad,qe2,aFr,aS,pgD,Wa,hlen,h1,h2,hat,hcut,heff,hsu,hm,hu,hown,hou,w1,w2,w3,w4,hbr,hmx,qkx,qn3,gpos,hop22,hr2,qbS,bn1,bn2,tk,hl3]
  ·have hl3:=key br depth (by simp[hbr]) (by omega)
   rw[qac,<- fin]
   simp only[bFr] at hl3 ⊢
   simp[qad,qe2,aFr,aS,pgD,Wa,hlen,h1,h2,hat,hcut,heff,hsu,hm,hu,hown,hou,w1,w2,w3,w4,hbr,hmx,qkx,qn3,gpos,hop22,hr2,qbS,bn1,bn2,tk,hl3]
end
end
section
open F Gr
theorem quZ{n:Nat}{dd b:Int}{a:An}{j:Int}(hd:dd<=b)(hb:0<=b)(h : ∀ i,gD a.ds i<=b+1) : ∀ i,gD (Gr.one n dd a j).ds i<=b+1:=by
 intro i
 unfold Gr.one
 split
 ·exact h i
 ·split
  ·by_cases hij:j.toNat=i
   ·subst hij
    by_cases hl:j.toNat<a.ds.length
    ·simp only; rw[qfS hl]; omega
    ·simp only
     rw[List.set_eq_of_length_le (by omega)]; exact h _
   ·simp only; rw[qfT hij]; exact h i
  ·split<;>exact h i
theorem qm5{n:Nat}{dd b:Int}(hd:dd<=b)(hb:0<=b) : ∀ (l:List Int) (a:An),(∀ i,gD a.ds i<=b+1) -> ∀ i,gD (l.foldl (Gr.one n dd) a).ds i<=b+1
 |[],a,h=>h
 |j::l,a,h=>qm5 hd hb l _ (quZ hd hb h)
theorem qu0{c:Cd}{a:An}{i:Nat}{r:List Nat}{b:Int}(hb:0<=b)(h : ∀ i,gD a.ds i<=b) : ∀ k,gD (stp c a i r).ds k<=b+1:=by
 have hp:=qmn (opA c i)
 have hq:=qfR (opA c i)
 unfold stp
 refine qm5 (b:=b) ?_ hb _ _ (fun k=>?_)
 ·have:=h i
  unfold aft
  omega
 ·have:=h k
  simp only
  omega
section
variable{d:D}{c:Cd}{e0 e1 e2:Int}
theorem qsV(hd:IsCode d c){a:An}(ho:a.op=[]):Z qae (.loop 0 F139l0 (aFr c.length a.op.length) (aS d e0 e1 e2 a))=some (.out (.exit 0) (aFr c.length 0++[(24,.bool false)]) (aS d e0 e1 e2 a)):=by
 obtain⟨fl,br,depth,ds,op⟩:=a
 simp only at ho
 subst ho
 have e:F139l0 = .seq F139a F139b:=rfl
 rw[qac,e]
 simp[qad,F139a_eq,aFr,aS,Wa,qbS,hd.one,hd.cells]
theorem qu1 (hd:IsCode d c) (hf:qvp c) (hops : ∀ i,i<c.length->1<=opA c i/\opA c i<=21) (hcl:c.length<2^27) {e:Nat} (he:e<c.length) (m:Nat) : ∀ (a:An) (b:Int),mu a<=m->Inv c e none [] a->0<=b->b+m<2^38->m<2^29->(∀ i,gD a.ds i<=b) ->
  ∃ a',Inv c e none [] a'/\a'.op=[]/\Z qae (.loop 0 F139l0 (aFr c.length a.op.length) (aS d e0 e1 e2 a))=some (.out (.exit 0) (aFr c.length 0++[(24,.bool false)]) (aS d e0 e1 e2 a')):=by
 induction m with
 |zero=>
  intro a b hm hi hb hbm hm2 hall
  have ho:a.op=[]:=List.length_eq_zero_iff.1 (by unfold mu at hm; omega)
  exact⟨a,hi,ho,qsV hd ho⟩
 |succ m ih=>
  intro a b hm hi hb hbm hm2 hall
  by_cases ho:a.op=[]
  ·exact⟨a,hi,ho,qsV hd ho⟩
  ·obtain⟨r,i,hr⟩ : ∃ r i,a.op=r++[i]:=⟨a.op.dropLast,a.op.getLast ho,(List.dropLast_concat_getLast ho).symm⟩
   have hio:=hi.opn i (by rw[hr]; simp)
   have hpos:=hi.pos i hio.1 hio.2
   have hmu:=qwp hf hi.len hio.1 hr
   obtain⟨a',q1,q2,q3⟩:=ih (stp c a i r) (b+1) (by omega) (qtH hf hi hr) (by omega) (by omega) (by omega) (qu0 hb hall)
   refine⟨a',q1,q2,?_⟩
   rw[qs7 hd hf hops (by omega) hr hio.1 hi.len (by unfold mu at hm; omega) ⟨hpos.1,by have:=hall i; omega⟩]
   exact q3
theorem qzw (hd:IsCode d c) (hf:qvp c) (hops : ∀ i,i<c.length->1<=opA c i/\opA c i<=21) (hcl:c.length<2^27) {e:Nat} (he:e<c.length) :
  ∃ fl br dp,AnaRes c e fl br dp/\Z qae (.call 139 [pgD d e0 e1 e2,.int e] [])=some (.ret (.dat (.agg [.lit (.bool fl),.lit (.bool br),.lit (.int .i64 dp)])) []):=by
 have hmu:mu (an0 c e)<=2*c.length+1:=by
  have:((List.replicate c.length (0:Int)).set e 1).count 0<=((List.replicate c.length (0:Int)).set e 1).length:=List.count_le_length
  simp only[mu,an0,Wr]
  simp only[List.length_set,List.length_replicate] at this
  omega
 have hall : ∀ i,gD (an0 c e).ds i<=1:=fun i=>by
  unfold an0
  simp only
  by_cases h:e=i
  ·subst h; rw[qfS (by simpa using he)]; exact Int.le_refl _
  ·rw[qfT h,qoN]; omega
 obtain⟨a,h1,h2,h3⟩:=qu1 (e0:=e0) (e1:=e1) (e2:=e2) hd hf hops hcl he (2*c.length+1) (an0 c e) 1 hmu (qtI he) (by omega) (by omega) (by omega) hall
 obtain⟨f1,f2,f3⟩:=qtJ he h1 h2
 refine⟨a.falls,a.breaks,a.depth,⟨f1,f2,f3⟩,?_⟩
 have hlen:=hd.len
 have ho:=hd.one
 have hc:=hd.cells
 have k1:(c.length:Int)<=1099511627776/\8*(c.length:Int)<=281474976710656:=by omega
 have k2:8*c.length<=281474976710656:=by omega
 have hm:qag 1 (.msl 3 0 c.length c.length 1) e=some (.ptr 3 e):=by
  have a2:(e:Int)<c.length:=by omega
  simp[qag,a2]
 have hse:(qbz (List.replicate c.length 0)).take e++(V.int 1::(qbz (List.replicate c.length 0)).drop (e+1))=qbz ((List.replicate c.length 0).set e 1):=qbH _ e 1 (by simpa using he)
 have hel:e+1<=c.length:=he
 have hone:qbz (([e]:List Nat).map fun (i:Nat)=>(i:Int))=[V.int e]:=rfl
 refine qaa (pf:=F139) rfl rfl ?_
 simp only[aFr,aS,an0,Wr,hone] at h3
 simp[F139,pgD,qh2,k1,k2,hlen,ho,hc,hm,hse,hel,h3,Wa]
end
theorem qxr(fl br:Bool)(dp:Int):Z qae (.call 140 [.dat (.agg [.lit (.bool fl),.lit (.bool br),.lit (.int .i64 dp)])] [])=some (.ret (.bool (!br&&decide (dp<=16))) []):=by
 refine qaa (pf:=F140) rfl rfl ?_
 cases br
 ·simp[F140,Wa]
 ·simp[F140,Wa]
end
section
open F Gr
def qgx(op:Int):Bool:=decide (1<=op)&&decide (op<=21)
def qxS(op n len:Int):Bool:=
 if op=1 then decide (-2147483647<=n)&&decide (n<=2147483647)
 else if op=2\/op=3 then decide (0<=n)&&decide (n<=15)
 else if op=4 then decide (0<=n)&&decide (n<=7)
 else if op=5 then decide (0<=n)&&decide (n<=5)
 else if op=18\/op=19 then decide (0<=n)&&decide (n<=len-1)
 else qgx op&&decide (n=0)
end
section
open F Gr
open Classical in
open Classical in
def okI(c:Cd)(i:Nat):Bool:=qgx (opA c i)&&qxS (opA c i) (nA c i) c.length
def okC(c:Cd):Nat->Nat->Bool
 |0,_=>true
 |m+1,i=>okI c i&&okC c m (i+1)
theorem qlB{c:Cd} : ∀ (m i:Nat),okC c m i=true -> ∀ k,i<=k->k<i+m->okI c k=true
 |0,i,_,k,h1,h2=>by omega
 |m+1,i,h,k,h1,h2=>by
  simp only[okC,Wq] at h
  by_cases hk:k=i
  ·rw[hk]; exact h.1
  ·exact qlB m (i+1) h.2 k (by omega) (by omega)
theorem qso{c:Cd}{i:Nat}(h:okI c i=true):(1<=opA c i/\opA c i<=21)/\(opA c i=18\/opA c i=19->0<=nA c i/\nA c i<c.length):=by
 simp only[okI,Wq,qgx,decide_eq_true_eq] at h
 refine⟨h.1,fun hj=>?_⟩
 have h2:=h.2
 unfold qxS at h2
 rw[if_neg (by omega),if_neg (by omega),if_neg (by omega),if_neg (by omega),if_pos hj] at h2
 simp only[Wq,decide_eq_true_eq] at h2
 omega
theorem qqM{c:Cd}(h:okC c c.length 0=true):qvp c:=by
 intro i hi j hj
 have:=(qso (qlB _ _ h i (by omega) (by omega))).2
 unfold qgg at hj
 split at hj
 ·simp at hj
 ·split at hj
  ·simp only[Wk] at hj
   have:=this (.inl (by assumption))
   omega
  ·split at hj
   ·simp only[Wp,Ws,or_false] at hj
    have:=this (.inr (by assumption))
    omega
   ·simp only[Wk] at hj; omega
end
section
open F Gr
inductive CodeV:V->S->Cd->Prop
 |lit (c:Cd) (h:c≠[]):CodeV (.dat (.sl (icC c) c.length true)) [] c
 |gr (c:Cd) (h:c≠[]):CodeV (.gsl (icC c) c.length 2 0) [.tip (icC c).length] c
def NodeOK(vs:List ByteArray)(x:V)(C:Int->Cd)(L:Nat):Prop:=Ln C L/\0<L /\
 ∀ p:Int,0<=p->p+4*L<2^40 -> ∃ v σ,CodeV v σ (C p)/\Z qae (.call 135 [x,.dat (qlW vs),.int p] [])=some (.ret v σ)
inductive RowOK(vs:List ByteArray):List D->List (Int->Cd)->Nat->Prop
 |nil:RowOK vs [] [] 0
 |cons {a b c d:D} {C:Int->Cd} {L:Nat} {r:List D} {Cs:List (Int->Cd)} {M:Nat} (h:NodeOK vs (.dat (.agg [a,b,c,d])) C L) (hr:RowOK vs r Cs M):RowOK vs (a::b::c::d::r) (C::Cs) (L+M)
def seqC:List (Int->Cd)->Int->Cd
 |[],_=>[]
 |C::r,p=>C p++seqC r (p+(C p).length)
inductive OutV:V->S->Cd->Prop
 |nil:OutV (.dat (.lit (.slice none 0 0))) [] []
 |gr (c:Cd) (h:c≠[]):OutV (.gsl (icC c) c.length 2 0) [.tip (icC c).length] c
theorem qy2{f:Bool}{n:Nat}{cs:List D}{i:Int}(h0:0<=i)(h1:i<n):qag 4 (.dat (kd f n cs)) i=some (.dat (.imm cs (i.toNat*4))):=by
 cases n with
 |zero=>simp at h1; omega
 |succ n=>simp only[qn7]; simp[qag,h0]; omega
theorem qsw{n:Nat}(h:n<2^40):qaC n 16=true:=by simp only[qaC,decide_eq_true_eq]; omega
set_option maxHeartbeats 1000000
end
section
open F Gr
set_option maxHeartbeats 1000000
section
variable{vs:List ByteArray}{f:Bool}{N:Nat}{cs:List D}{p:Int}
inductive AnyV:V->S->Cd->Prop
 |lit (c:Cd) (h:c≠[]):AnyV (.dat (.sl (icC c) c.length true)) [] c
 |gr (c:Cd) (h:c≠[]):AnyV (.gsl (icC c) c.length 2 0) [.tip (icC c).length] c
 |nil:AnyV (.dat (.lit (.slice none 0 0))) [] []
theorem CodeV.any{v:V}{σ : S}{c:Cd}(h:CodeV v σ c):AnyV v σ c:=by cases h; exact .lit _ ‹_›; exact .gr _ ‹_›
theorem OutV.any{v:V}{σ : S}{c:Cd}(h:OutV v σ c):AnyV v σ c:=by cases h; exact .nil; exact .gr _ ‹_›
def qzf(vs:List ByteArray)(x:V)(C:Int->Cd)(L:Nat):Prop:=Ln C L /\
 ∀ p:Int,0<=p->p+4*L<2^40 -> ∃ v σ,AnyV v σ (C p)/\Z qae (.call 135 [x,.dat (qlW vs),.int p] [])=some (.ret v σ)
theorem NodeOK.blk{x:V}{C:Int->Cd}{L:Nat}(h:NodeOK vs x C L):qzf vs x C L:=
 ⟨h.1,fun p h0 h1=>let ⟨v,σ,a,b⟩:=h.2.2 p h0 h1; ⟨v,σ,a.any,b⟩⟩
end
end
section
open F Gr
set_option maxHeartbeats 1000000
def qh9:Bop->Bool | .and=>true|_=>false
def qpu:Bop->Bool | .or=>true|_=>false
def qrH:Bop->Bool | .gt=>true|_=>false
def quF:Bop->Bool | .ge=>true|_=>false
def qxb:Bop->Bool | .ne=>true|_=>false
theorem qfp(o:Bop):eqS o.str ⟨#[38,38]⟩=qh9 o:=by cases o<;>kernel_rfl
theorem qip(o:Bop):eqS o.str ⟨#[124,124]⟩=qpu o:=by cases o<;>kernel_rfl
theorem qnS(o:Bop):eqS o.str ⟨#[62]⟩=qrH o:=by cases o<;>kernel_rfl
theorem qnT(o:Bop):eqS o.str ⟨#[62,61]⟩=quF o:=by cases o<;>kernel_rfl
theorem qnU(o:Bop):eqS o.str ⟨#[33,61]⟩=qxb o:=by cases o<;>kernel_rfl
end
section
open F Gr
set_option maxHeartbeats 1000000
@[simp] theorem qy5:eqS ⟨#[33]⟩ ⟨#[45]⟩=false:=by kernel_rfl
@[simp] theorem qy6:eqS ⟨#[45]⟩ ⟨#[45]⟩=true:=by kernel_rfl
end
section
open F Gr
set_option maxHeartbeats 1000000
section
variable{vs:List ByteArray}
def qd5(vs:List ByteArray):Ss->List (Int->Cd)
 |.nil=>[]
 |.assign _ s e r=>snC (qat vs e) (3,ixI vs s)::qd5 vs r
 |.store _ s a b r=>snC (sq (qat vs a) (qat vs b)) (5,fieldI s)::qd5 vs r
 |.effect _ a b r=>snC (sq (qat vs a) (qat vs b)) (20,0)::qd5 vs r
 |.stop r=>(fun _=>[(21,0)])::qd5 vs r
 |.cond false _ c (.block _ x (.block _ y .nil)) r=>brC (qat vs c) (codeS vs x) (codeS vs y)::qd5 vs r
 |.cond true _ c (.block _ x .nil) r=>whC (qat vs c) (codeS vs x)::qd5 vs r
 |_=>[]
theorem qhs(b:Ss)(p:Int):seqC (qd5 vs b) p=codeS vs b p:=by
 fun_induction qd5 vs b generalizing p with
 |case1=>rfl
 |case2 _ _ _ _ ih=>simp only[seqC,codeS,sq,ih]
 |case3 _ _ _ _ _ ih=>simp only[seqC,codeS,sq,ih]
 |case4 _ _ _ _ ih=>simp only[seqC,codeS,sq,ih]
 |case5 _ ih=>simp only[seqC,codeS,sq,ih]
 |case6 _ _ _ _ _ _ _ ih=>simp only[seqC,codeS,sq,ih]
 |case7 _ _ _ _ _ ih=>simp only[seqC,codeS,sq,ih]
 |case8 b h1 h2 h3 h4 h5 h6 h7=>
  unfold codeS
  split<;>first|rfl | (exfalso; first|exact h1 rfl|exact h2 _ _ _ _ rfl|exact h3 _ _ _ _ _ rfl|exact h4 _ _ _ _ rfl|exact h5 _ rfl|exact h6 _ _ _ _ _ _ _ rfl|exact h7 _ _ _ _ _ rfl)
end
end
section
open F Gr
set_option maxHeartbeats 1000000
section
variable{vs:List ByteArray}
def hdC(vs:List ByteArray):Hd->Int->Cd
 |.none=>fun _=>[]
 |.some _ b=>snC (codeS vs b) (21,0)
def qkc:Hd->Int->Int
 |.none,_ => -1
 |.some _ _,p=>p
abbrev zP:Ob := .cells [.dat (.lit (.slice none 0 0)),.int 0,.int 0,.int 0]
inductive CSt(R:Ob)(e0 e1 e2:Int):S->Cd->Prop
 |nil:CSt R e0 e1 e2 [R,zP,.cells [.dat (.lit (.slice none 0 0)),.int e0,.int e1,.int e2]] []
 |gr (c:Cd) (h:c≠[]):CSt R e0 e1 e2 [R,zP,.cells [.gsl (icC c) c.length 2 3,.int e0,.int e1,.int e2],.tip (icC c).length] c
end
end
section
open Gr
def qct(vs:List ByteArray)(a b c:Hd):Cd:=sq (hdC vs a) (sq (hdC vs b) (hdC vs c)) 0
def qgh(a:Hd):Int:=qkc a 0
def qf2(vs:List ByteArray)(a b:Hd):Int:=qkc b (hdC vs a 0).length
def qgi(vs:List ByteArray)(a b c:Hd):Int:=qkc c (sq (hdC vs a) (hdC vs b) 0).length
structure Hg(C:Int->Cd)(n:Nat)(D:Nat->Int):Prop where
 ln:Ln C n
 ok : ∀ p i,i<n->vOp (opA (C p) i) (nA (C p) i) p (p+n-1)
 pop : ∀ p i,i<n->qeC (opA (C p) i)<=D i
 flow : ∀ p i,i<n -> ∀ j∈qnL (opA (C p) i) (nA (C p) i) (p+i),p<=j/\j<=p+n-1/\D (j-p).toNat=D i+(qdp (opA (C p) i)-qeC (opA (C p) i))
 stp : ∀ p i,i<n->opA (C p) i=21->D i=0
theorem qwy{A B:Int->Cd}{n m:Nat}{DA DB:Nat->Int}(a:Hg A n DA)(b:Hg B m DB):Hg (sq A B) (n+m) (fun i=>if i<n then DA i else DB (i-n)):=by
 have opl : ∀ p i,i<n->opA (sq A B p) i=opA (A p) i/\nA (sq A B p) i=nA (A p) i:=fun p i h=>qdI (by rw[a.ln p]; exact h)
 have opr : ∀ p i,n<=i->opA (sq A B p) i=opA (B (p+n)) (i-n)/\nA (sq A B p) i=nA (B (p+n)) (i-n):=fun p i h=>by
  have:=qb5 (a:=A p) (b:=B (p+(A p).length)) (i:=i) (by rw[a.ln p]; omega)
  rw[a.ln p] at this
  exact⟨by rw[sq,a.ln p]; exact this.1,by rw[sq,a.ln p]; exact this.2⟩
 refine⟨qa2 a.ln b.ln,?_,?_,?_,?_⟩
 ·intro p i hi
  by_cases h:i<n
  ·rw[(opl p i h).1,(opl p i h).2]; exact qcr (a.ok p i h) (by omega) (by omega)
  ·rw[(opr p i (by omega)).1,(opr p i (by omega)).2]; exact qcr (b.ok (p+n) (i-n) (by omega)) (by omega) (by omega)
 ·intro p i hi
  show _<=if i<n then DA i else DB (i-n)
  by_cases h:i<n
  ·rw[(opl p i h).1,if_pos h]; exact a.pop p i h
  ·rw[(opr p i (by omega)).1,if_neg h]; exact b.pop _ (i-n) (by omega)
 ·intro p i hi j hj
  show _/\_/\(if (j-p).toNat<n then DA (j-p).toNat else DB ((j-p).toNat-n))=(if i<n then DA i else DB (i-n))+_
  by_cases h:i<n
  ·rw[(opl p i h).1,(opl p i h).2] at hj
   rw[(opl p i h).1,if_pos h]
   obtain⟨q1,q2,q3⟩:=a.flow p i h j hj
   rw[if_pos (by omega)]
   exact⟨q1,by omega,q3⟩
  ·rw[(opr p i (by omega)).1,(opr p i (by omega)).2,show p+(i:Int)=(p+n)+((i-n:Nat):Int) by omega] at hj
   rw[(opr p i (by omega)).1,if_neg h]
   obtain⟨q1,q2,q3⟩:=b.flow (p+n) (i-n) (by omega) j hj
   rw[if_neg (by omega),show (j-p).toNat-n=(j-(p+n)).toNat by omega]
   exact⟨by omega,by omega,q3⟩
 ·intro p i hi h
  show (if i<n then DA i else DB (i-n))=0
  by_cases h':i<n
  ·rw[(opl p i h').1] at h; rw[if_pos h']; exact a.stp p i h' h
  ·rw[(opr p i (by omega)).1] at h; rw[if_neg h']; exact b.stp _ (i-n) (by omega) h
theorem qtT{vs:List ByteArray}(hv:vs.length<=16)(h:Hd)(hf:h.ss.fine)(hi:h.ss.inV vs) : ∃ n D,Hg (hdC vs h) n D/\(h ≠ .none->0<n/\D 0=0)/\(h = .none->n=0) /\ ∀ i,i<n->D i<=max 0 h.ss.hh:=by
 cases h with
 |none=>exact⟨0,fun _=>0,⟨fun _=>rfl,fun _ _ h=>by omega,fun _ _ h=>by omega,fun _ _ h=>by omega,fun _ _ h=>by omega⟩,fun h=>absurd rfl h,fun _=>rfl,fun i h=>by omega⟩
 |some f b=>
  obtain⟨n,s,D,g⟩:=qAA hv (q:=max 0 b.hh) (by omega) b hf hi (by omega)
  have opl : ∀ p i,i<n->opA (hdC vs (.some f b) p) i=opA (codeS vs b p) i/\nA (hdC vs (.some f b) p) i=nA (codeS vs b p) i:=fun p i h=>qdI (by rw[g.ln p]; exact h)
  have opr : ∀ p,opA (hdC vs (.some f b) p) n=21/\nA (hdC vs (.some f b) p) n=0:=fun p=>by
   have:=qb5 (a:=codeS vs b p) (b:=[(21,0)]) (i:=n) (by rw[g.ln p]; omega)
   rw[g.ln p,Nat.sub_self] at this
   exact this
  refine⟨n+1,D 0,⟨qbv g.ln,?_,?_,?_,?_⟩,fun _=>⟨by omega,g.beg 0⟩,fun h=>(by cases h),fun i hi=>by have:=g.hi 0 i (by omega); show _<=max 0 b.hh; omega⟩
  ·intro p i hi
   by_cases h:i<n
   ·rw[(opl p i h).1,(opl p i h).2]; exact qcr (g.ok p i h) (by omega) (by omega)
   ·obtain rfl:i=n:=by omega
    rw[(opr p).1,(opr p).2]; exact⟨by omega,by rw[if_neg (by omega),if_neg (by omega),if_neg (by omega),if_neg (by omega),if_neg (by omega)]⟩
  ·intro p i hi
   by_cases h:i<n
   ·rw[(opl p i h).1]; have:=g.pop p 0 i h; omega
   ·obtain rfl:i=n:=by omega
    rw[(opr p).1,g.fin]; decide
  ·intro p i hi j hj
   by_cases h:i<n
   ·rw[(opl p i h).1,(opl p i h).2] at hj
    rw[(opl p i h).1]
    obtain⟨q1,q2,q3⟩:=g.flow p 0 i h j hj
    exact⟨q1,by omega,q3⟩
   ·obtain rfl:i=n:=by omega
    rw[(opr p).1,(opr p).2] at hj
    cases hj
  ·intro p i hi h
   by_cases h':i<n
   ·rw[(opl p i h').1] at h; exact (g.stp p 0 i h' h).2
   ·obtain rfl:i=n:=by omega
    exact g.fin 0
theorem qmF {vs:List ByteArray} (hv:vs.length<=16) {a b c:Hd} (fa:a.ss.fine) (fb:b.ss.fine) (fc:c.ss.fine) (ia:a.ss.inV vs) (ib:b.ss.inV vs) (ic:c.ss.inV vs) :
  ∃ n D,Hg (sq (hdC vs a) (sq (hdC vs b) (hdC vs c))) n D/\(qgh a = -1\/(0<=qgh a/\qgh a<n/\D (qgh a).toNat=0))/\(qf2 vs a b = -1\/(0<=qf2 vs a b/\qf2 vs a b<n/\D (qf2 vs a b).toNat=0))/\(qgi vs a b c = -1\/(0<=qgi vs a b c/\qgi vs a b c<n/\D (qgi vs a b c).toNat=0)) /\ ∀ i,i<n->D i<=max 0 (max a.ss.hh (max b.ss.hh c.ss.hh)):=by
 obtain⟨na,Da,ga,pa,za,wa⟩:=qtT hv a fa ia
 obtain⟨nb,Db,gb,pb,zb,wb⟩:=qtT hv b fb ib
 obtain⟨nc,Dc,gc,pc,zc,wc⟩:=qtT hv c fc ic
 refine⟨_,_,qwy ga (qwy gb gc),?_,?_,?_,fun i hi=>?_⟩
 ·cases a with
  |none=>exact .inl rfl
  |some f x=>
   obtain⟨h1,h2⟩:=pa (by simp)
   refine .inr ⟨by simp[qgh,qkc],by simp only[qgh,qkc]; omega,?_⟩
   show (if 0<na then Da 0 else _)=0
   rw[if_pos h1,h2]
 ·have e:(hdC vs a 0).length=na:=ga.ln 0
  cases b with
  |none=>exact .inl rfl
  |some f x=>
   obtain⟨h1,h2⟩:=pb (by simp)
   refine .inr ⟨by simp only[qf2,qkc]; omega,by simp only[qf2,qkc,e]; omega,?_⟩
   show (if ((hdC vs a 0).length:Int).toNat<na then _ else if ((hdC vs a 0).length:Int).toNat-na<nb then _ else _)=0
   rw[e,if_neg (by omega),if_pos (by omega)]
   simp only[qf2,qkc,e]
   rw[show ((na:Nat):Int).toNat-na=0 by omega,h2]
 ·have e:(sq (hdC vs a) (hdC vs b) 0).length=na+nb:=qa2 ga.ln gb.ln 0
  cases c with
  |none=>exact .inl rfl
  |some f x=>
   obtain⟨h1,h2⟩:=pc (by simp)
   refine .inr ⟨by simp only[qgi,qkc]; omega,by simp only[qgi,qkc,e]; omega,?_⟩
   show (if ((sq (hdC vs a) (hdC vs b) 0).length:Int).toNat<na then _ else if ((sq (hdC vs a) (hdC vs b) 0).length:Int).toNat-na<nb then _ else _)=0
   rw[e,if_neg (by omega),if_neg (by omega)]
   simp only[qgi,qkc,e]
   rw[show ((na+nb:Nat):Int).toNat-na-nb=0 by omega,h2]
 ·show (if i<na then Da i else if i-na<nb then Db (i-na) else Dc (i-na-nb))<=_
  split
  ·have:=wa i (by omega); omega
  ·split
   ·have:=wb (i-na) (by omega); omega
   ·have:=wc (i-na-nb) (by omega); omega
theorem qo4 {vs:List ByteArray} (hv:vs.length<=16) {a b c:Hd} (fa:a.ss.fine) (fb:b.ss.fine) (fc:c.ss.fine) (ia:a.ss.inV vs) (ib:b.ss.inV vs) (ic:c.ss.inV vs) :
  ∃ n D,Hg (sq (hdC vs a) (sq (hdC vs b) (hdC vs c))) n D/\(qgh a = -1\/(0<=qgh a/\qgh a<n/\D (qgh a).toNat=0))/\(qf2 vs a b = -1\/(0<=qf2 vs a b/\qf2 vs a b<n/\D (qf2 vs a b).toNat=0))/\(qgi vs a b c = -1\/(0<=qgi vs a b c/\qgi vs a b c<n/\D (qgi vs a b c).toNat=0)):=by
 obtain⟨n,D,g,p0,p1,p2,_⟩:=qmF hv fa fb fc ia ib ic
 exact⟨n,D,g,p0,p1,p2⟩
section
variable{C:Int->Cd}{n:Nat}{D:Nat->Int}
theorem qq6{op x:Int}{n:Nat}(h:vOp op x 0 (0+n-1)):(qgx op&&qxS op x n)=true:=by
 obtain⟨h0,h⟩:=h
 have hk:qgx op=true:=by unfold qgx; simp; omega
 unfold qxS
 rw[hk,Bool.true_and]
 split at h
 ·rw[if_pos (by assumption)]; simp; omega
 rw[if_neg (by assumption)]
 split at h
 ·rw[if_pos (by assumption)]; simp; omega
 rw[if_neg (by assumption)]
 split at h
 ·rw[if_pos (by assumption)]; simp; omega
 rw[if_neg (by assumption)]
 split at h
 ·rw[if_pos (by assumption)]; simp; omega
 rw[if_neg (by assumption)]
 split at h
 ·rw[if_pos (by assumption)]; simp; omega
 rw[if_neg (by assumption)]; simp; exact h
theorem qss{c:Cd} : ∀ (m i:Nat),(∀ k,i<=k->k<i+m->okI c k=true)->okC c m i=true
 |0,_,_=>rfl
 |m+1,i,h=>by
  simp only[okC,Wq]
  exact⟨h i (by omega) (by omega),qss m (i+1) fun k h1 h2=>h k (by omega) (by omega)⟩
theorem Hg.okC(g:Hg C n D):okC (C 0) (C 0).length 0=true:=
 qss _ _ fun k _ h=>by
  have hl:=g.ln 0
  have:=qq6 (g.ok 0 k (by omega))
  unfold okI
  rw[hl]; exact this
theorem Hg.cf(g:Hg C n D){e:Nat}(he:e<n)(h0:D e=0):CF (C 0) e D where
 zero:=h0
 pops:=fun i hi=>g.pop 0 i (by have:=Reach.lt (by rw[g.ln 0]; exact he) hi; rw[g.ln 0] at this; exact this)
 step:=fun i hi j hj hl=>by
  have hin:i<n:=by have:=Reach.lt (by rw[g.ln 0]; exact he) hi; rw[g.ln 0] at this; exact this
  rw[qus] at hj
  have:=(g.flow 0 i hin j (by rw[show (0:Int)+i=i by omega]; exact hj)).2.2
  rw[show ((j:Int)-0).toNat=j by omega] at this
  exact this
theorem Hg.stop(g:Hg C n D){i:Nat}(hi:i<n)(h:opA (C 0) i=21):D i=0:=g.stp 0 i hi h
end
end
section
open Gr
theorem qqB(l:List ByteArray)(s x:ByteArray):x∈qpI l s↔x∈l\/x=s:=by
 unfold qpI
 split
 ·rename_i h
  constructor
  ·exact .inl
  ·rintro (h'|rfl); exact h'; exact h
 ·simp
theorem qiL(xs:List ByteArray) : ∀ (l:List ByteArray) (x:ByteArray),x∈addAll l xs↔x∈l\/x∈xs:=by
 induction xs with
 |nil=>intro l x; simp[addAll]
 |cons s xs ih=>
  intro l x
  have:=ih (qpI l s) x
  simp only[addAll,W3] at this ⊢
  rw[this,qqB]
  simp only[Wp,or_assoc]
theorem qgX(xs:List ByteArray) : ∀ l:List ByteArray,l.Nodup->(addAll l xs).Nodup:=by
 induction xs with
 |nil=>intro l h; simpa [addAll] using h
 |cons s xs ih=>
  intro l h
  simp only[addAll,W3]
  refine ih _ ?_
  unfold qpI
  split
  ·exact h
  ·rename_i hs
   rw[List.nodup_append]
   exact⟨h,by simp,fun a ha b hb=>by simp only[Wk] at hb; subst hb; rintro rfl; exact hs ha⟩
theorem qkC{α : Type}[BEq α][LawfulBEq α] : ∀ (l m:List α),l.Nodup->(∀ x∈l,x∈m)->l.length<=m.length
 |[],m,_,_=>Yk _
 |x::l,m,h,hs=>by
  rw[Yi] at h
  have hx:=hs x (by simp)
  have:=qkC l (m.erase x) h.2 fun y hy=>(List.mem_erase_of_ne (fun e=>h.1 (by rw[<- e]; exact hy))).2 (hs y (by simp[hy]))
  rw[List.length_erase_of_mem hx] at this
  have:=List.length_pos_of_mem hx
  simp only[Wd]
  omega
theorem qfn{vs:List ByteArray} : ∀ (e:E) (r:Fo),(∀ s∈(e.fo r).vars,s∈vs)->e.inV vs /\ ∀ s∈r.vars,s∈vs
 |.int _,r,h=>⟨trivial,fun s hs=>h s (by simp[E.fo,Fo.vars,hs])⟩
 |.bool _,r,h=>⟨trivial,fun s hs=>h s (by simp[E.fo,Fo.vars,hs])⟩
 |.var v,r,h=>⟨h v (by simp[E.fo,Fo.vars]),fun s hs=>h s (by simp[E.fo,Fo.vars,hs])⟩
 |.name _,r,h=>⟨trivial,fun s hs=>h s (by simp[E.fo,Fo.vars,hs])⟩
 |.field _ _ e,r,h=>by
  have:=qfn e .nil fun s hs=>h s (by simp[E.fo,Fo.vars,hs])
  exact⟨this.1,fun s hs=>h s (by simp[E.fo,Fo.vars,hs])⟩
 |.un _ _ e,r,h=>by
  have:=qfn e .nil fun s hs=>h s (by simp[E.fo,Fo.vars,hs])
  exact⟨this.1,fun s hs=>h s (by simp[E.fo,Fo.vars,hs])⟩
 |.bin _ o a b,r,h=>by
  have h1:=qfn a (b.fo .nil) fun s hs=>h s (by simp[E.fo,Fo.vars,hs])
  have h2:=qfn b .nil h1.2
  exact⟨⟨h1.1,h2.1⟩,fun s hs=>h s (by simp[E.fo,Fo.vars,hs])⟩
theorem qeD{vs:List ByteArray} : ∀ b:Ss,(∀ s∈b.fo.vars,s∈vs)->b.inV vs
 |.nil,_=>trivial
 |.assign _ v e r,h=>⟨⟨h v (by simp[Ss.fo,Fo.vars]),(qfn e .nil fun s hs=>h s (by simp[Ss.fo,Fo.vars,hs])).1⟩,qeD r fun s hs=>h s (by simp[Ss.fo,Fo.vars,hs])⟩
 |.store _ _ a b r,h=>by
  have h1:=qfn a (b.fo .nil) fun s hs=>h s (by simp[Ss.fo,Fo.vars,hs])
  exact⟨⟨h1.1,(qfn b .nil h1.2).1⟩,qeD r fun s hs=>h s (by simp[Ss.fo,Fo.vars,hs])⟩
 |.effect _ a b r,h=>by
  have h1:=qfn a (b.fo .nil) fun s hs=>h s (by simp[Ss.fo,Fo.vars,hs])
  exact⟨⟨h1.1,(qfn b .nil h1.2).1⟩,qeD r fun s hs=>h s (by simp[Ss.fo,Fo.vars,hs])⟩
 |.stop r,h=>qeD r fun s hs=>h s (by simp[Ss.fo,Fo.vars,hs])
 |.cond w _ c b r,h=>by
  have h1:=qfn c b.fo fun s hs=>h s (by simp only[Ss.fo,Fo.vars]; simp[hs])
  exact⟨h1.1,qeD b h1.2,qeD r fun s hs=>h s (by simp only[Ss.fo,Fo.vars]; simp[hs])⟩
 |.block _ b r,h=>⟨qeD b fun s hs=>h s (by simp[Ss.fo,Fo.vars,hs]),qeD r fun s hs=>h s (by simp[Ss.fo,Fo.vars,hs])⟩
theorem qds : ∀ (e:E) (r:Fo),e.fine->(∀ s∈r.vars,s∈qrZ) -> ∀ s∈(e.fo r).vars,s∈qrZ
 |.int _,r,_,h,s,hs=>h s (by simpa [E.fo,Fo.vars] using hs)
 |.bool _,r,_,h,s,hs=>h s (by simpa [E.fo,Fo.vars] using hs)
 |.var v,r,g,h,s,hs=>by
  simp only[E.fo,Fo.vars,or_true,if_true,Wg,Wh,Wp] at hs
  rcases hs with rfl|hs
  ·exact g
  ·exact h s hs
 |.name _,r,_,h,s,hs=>h s (by simpa [E.fo,Fo.vars] using hs)
 |.field _ _ e,r,g,h,s,hs=>by
  simp only[E.fo,Fo.vars,Int.reduceEq,or_self,if_false,Wg,Wl] at hs
  rcases hs with hs|hs
  ·exact qds e .nil g.2.1 (by simp[Fo.vars]) s hs
  ·exact h s hs
 |.un _ _ e,r,g,h,s,hs=>by
  simp only[E.fo,Fo.vars,Int.reduceEq,or_self,if_false,Wg,Wl] at hs
  rcases hs with hs|hs
  ·exact qds e .nil g.1 (by simp[Fo.vars]) s hs
  ·exact h s hs
 |.bin _ o a b,r,g,h,s,hs=>by
  simp only[E.fo,Fo.vars,Int.reduceEq,or_self,if_false,Wg,Wl] at hs
  rcases hs with hs|hs
  ·exact qds a _ g.1 (qds b .nil g.2.1 (by simp[Fo.vars])) s hs
  ·exact h s hs
theorem qlA(b:Ss)(hf:b.fine) : ∀ s∈b.fo.vars,s∈qrZ:=by
 fun_induction Ss.fine b with
 |case1=>simp[Ss.fo,Fo.vars]
 |case2 _ v e r ih=>
  intro s hs
  simp only[Ss.fo,Fo.vars,true_or,if_true,Wh,Wg,Wp,Wl] at hs
  rcases hs with rfl|hs|hs
  ·exact hf.1.1
  ·exact qds e .nil hf.1.2.1 (by simp[Fo.vars]) s hs
  ·exact ih hf.2 s hs
 |case3 _ v a b r ih=>
  intro s hs
  simp only[Ss.fo,Fo.vars,Int.reduceEq,or_self,if_false,Wg,Wl] at hs
  rcases hs with hs|hs
  ·exact qds a _ hf.1.2.1 (qds b .nil hf.1.2.2.2.1 (by simp[Fo.vars])) s hs
  ·exact ih hf.2 s hs
 |case4 _ a b r ih=>
  intro s hs
  simp only[Ss.fo,Fo.vars,Int.reduceEq,or_self,if_false,Wg,Wl] at hs
  rcases hs with hs|hs
  ·exact qds a _ hf.1.1 (qds b .nil hf.1.2.2.1 (by simp[Fo.vars])) s hs
  ·exact ih hf.2 s hs
 |case5 r ih=>
  intro s hs
  simp only[Ss.fo,Fo.vars,Int.reduceEq,or_self,if_false,Wg] at hs
  exact ih hf s hs
 |case6 _ c _ x _ y r ih1 ih2 ih3=>
  intro s hs
  simp only[Ss.fo,Fo.vars,Int.reduceEq,Wm,or_self,if_false,Wg,Wl] at hs
  rcases hs with hs|hs
  ·refine qds c _ hf.1.1 ?_ s hs
   intro s hs
   simp only[Fo.vars,Int.reduceEq,or_self,if_false,Wg,WD,Wl] at hs
   rcases hs with hs|hs
   ·exact ih1 hf.2.1 s hs
   ·exact ih2 hf.2.2.1 s hs
  ·exact ih3 hf.2.2.2 s hs
 |case7 _ c _ x r ih1 ih2=>
  intro s hs
  simp only[Ss.fo,Fo.vars,Int.reduceEq,or_self,if_true,if_false,Wg,Wl] at hs
  rcases hs with hs|hs
  ·refine qds c _ hf.1.1 ?_ s hs
   intro s hs
   simp only[Fo.vars,Int.reduceEq,or_self,if_false,Wg,WD] at hs
   exact ih1 hf.2.1 s hs
  ·exact ih2 hf.2.2 s hs
 |case8=>exact hf.elim
theorem qgr(h:Hd):h.nd.vars=h.ss.fo.vars:=by
 cases h<;>simp[Nd.vars,Hd.nd,Hd.k,Hd.ks,Hd.ss,Ss.fo,Fo.vars]
section
variable{a b c:Hd}
theorem qjA:a.ss.inV (rvars a.nd b.nd c.nd)/\b.ss.inV (rvars a.nd b.nd c.nd)/\c.ss.inV (rvars a.nd b.nd c.nd):=by
 have key : ∀ s,s∈rvars a.nd b.nd c.nd↔s∈a.ss.fo.vars\/s∈b.ss.fo.vars\/s∈c.ss.fo.vars:=fun s=>by
  unfold rvars
  rw[qiL,qgr,qgr,qgr]
  simp
 exact⟨qeD _ fun s hs=>(key s).2 (.inl hs),qeD _ fun s hs=>(key s).2 (.inr (.inl hs)),qeD _ fun s hs=>(key s).2 (.inr (.inr hs))⟩
theorem qgs(fa:a.ss.fine)(fb:b.ss.fine)(fc:c.ss.fine):(rvars a.nd b.nd c.nd).length<=5:=by
 refine qkC _ qrZ (qgX _ _ (by simp)) fun s hs=>?_
 unfold rvars at hs
 rw[qiL,qgr,qgr,qgr] at hs
 simp only[Ws,false_or,Wl] at hs
 rcases hs with hs|hs|hs
 ·exact qlA _ fa s hs
 ·exact qlA _ fb s hs
 ·exact qlA _ fc s hs
end
end
section
open F Gr
set_option maxHeartbeats 1000000
def icV(c:Cd):List V:=(icC c).map V.dat
theorem qfs(c:Cd):(icV c).length=c.length*2:=by simp[icV]
theorem qnf(a b:Cd):icV (a++b)=icV a++icV b:=by simp[icV,qiU]
theorem qs1(o n:Int):icV [(o,n)]=[V.int o,V.int n]:=rfl
theorem qcz(σ : S)(l N:Nat):V.len σ .sl (.own l N 2)=some N:=rfl
theorem qvE(c:Cd)(o n:Int):icV c++[V.int o,V.int n]=icV (c++[(o,n)]):=by rw[qnf]; rfl
@[simp] theorem qxA(c:Cd):qaz (icV c)=[]:=by
 unfold icV
 induction icC c with
 |nil=>rfl
 |cons x B ih=>simpa using ih
@[simp] theorem qyc(r:Nat->Nat)(c:Cd):qd6 r (icV c)=icV c:=by
 unfold icV
 induction icC c with
 |nil=>rfl
 |cons x B ih=>simpa using ih
theorem qjt(c:Cd):qbC (icV c)=some (icC c):=by
 unfold icV
 induction icC c with
 |nil=>rfl
 |cons x B ih=>simp[qbC,ih]
abbrev cob(e0 e1 e2:Int)(l n m:Nat):Ob := .cells [.own l n 2,.mp m,.int e0,.int e1,.int e2]
abbrev qng(e0 e1 e2:Int)(m:Nat):Ob := .cells [.dat (.lit (.slice none 0 0)),.mp m,.int e0,.int e1,.int e2]
abbrev mpo(vs:List ByteArray):Ob := .map (mapM 0 vs)
abbrev qce(vs:List ByteArray)(e0 e1 e2:Int)(c:Cd):S:=[cob e0 e1 e2 1 c.length 2,.vec (icV c),mpo vs]
abbrev qdS(vs:List ByteArray)(e0 e1 e2:Int):S:=[qng e0 e1 e2 1,mpo vs]
abbrev qg5(vs:List ByteArray)(e0 e1 e2:Int)(c:Cd):S:=[cob e0 e1 e2 2 c.length 1,mpo vs,.vec (icV c)]
attribute [local simp] qa6 qbu dkey
section
variable{vs:List ByteArray}{e0 e1 e2:Int}
theorem qbW(c:Cd)(hc:c.length<2^30)(o n:Int):Z qae (.call 148 [.ptr 0 0,.int o,.int n] (qce vs e0 e1 e2 c))=some (.ret (.int c.length) (qce vs e0 e1 e2 (c++[(o,n)]))):=by
 have r1:=qsw (n:=c.length+1) (by omega)
 have hl:=qfs c
 have w1:=qaf (c.length:Int) (by omega)
 have e:(c.length:Int)+1-1=c.length:=by omega
 refine qaa (pf:=F148) rfl rfl ?_
 simp[F148,r1,hl,w1,qcz,qvE,qfs,Wa]
theorem qkj(o n:Int):Z qae (.call 148 [.ptr 0 0,.int o,.int n] (qdS vs e0 e1 e2))=some (.ret (.int 0) (qg5 vs e0 e1 e2 [(o,n)])):=by
 have r1:=qsw (n:=1) (by omega)
 have w1:IntKind.i64.wrap 0=0:=rfl
 refine qaa (pf:=F148) rfl rfl ?_
 simp[F148,r1,w1,qcz,qs1,Wa]
end
theorem qhf(o:Bop)(h1:o ≠ .and)(h2:o ≠ .or):Z qae (.call 187 [.str o.str] [])=some (.ret (.int (opI o)) []):=by
 cases o<;>first|exact absurd rfl h1|exact absurd rfl h2|exact qeZ (n:=2) (by kernel_rfl)
theorem qhg{s:ByteArray}(h:s∈qdB):Z qae (.call 134 [.str s] [])=some (.ret (.int (fieldI s)) []):=by
 simp only[qdB,qir,Wh,Wg,Wp,Ws,or_false] at h
 rcases h with rfl|rfl|rfl|rfl|rfl|rfl|rfl|rfl<;>exact qeZ (n:=2) (by kernel_rfl)
theorem qhB(s:ByteArray) : ∀ (l:List ByteArray) (i:Nat),s∈l->qea .s (.string s) (mapM i l)=some (some (.int (ixI l s+i)))
 |[],i,h=>by cases h
 |x::l,i,h=>by
  by_cases hx:x=s
  ·subst hx
   simp[mapM,qea,qb8,ixI]
  ·have hm:=(Wp.1 h).resolve_left fun e=>hx e.symm
   have ih:=qhB s l (i+1) hm
   have hb:(s==x)=false:=by rw[qdZ]; exact decide_eq_false fun e=>hx e.symm
   have h0:=qjK hm
   simp only[mapM,qea,qb8,hb,ih,ixI,if_neg hx,if_neg (show ¬ ixI l s<0 by omega)]
   congr 3
   omega
end
section
open F Gr
set_option maxHeartbeats 1000000
attribute [local simp] qa6 qbu dkey qfN
theorem qr0(c1 c2:Cd)(o n v:Int):List.take (c1.length*2+1) (icV (c1++(o,n)::c2))++V.dat (.lit (.int .i64 v))::List.drop (c1.length*2+1+1) (icV (c1++(o,n)::c2))=icV (c1++(o,v)::c2):=by
 unfold icV
 have e : ∀ z:Int,icC (c1++(o,z)::c2)=(icC c1++[.lit (.int .i64 o)])++(.lit (.int .i64 z)::icC c2):=fun z=>by rw[qiU,Wo]; rfl
 have l:(icC c1++[D.lit (.int .i64 o)]).length=c1.length*2+1:=by simp[qfc c1]
 rw[e n,e v,<- List.map_take,<- List.map_drop,<- l,List.take_left,show (icC c1++[D.lit (.int .i64 o)]).length+1=(icC c1++[D.lit (.int .i64 o)]).length+1 from rfl,List.drop_append,Yg (by omega),show (icC c1++[D.lit (.int .i64 o)]).length+1-(icC c1++[D.lit (.int .i64 o)]).length=1 by omega]
 simp
section
variable{vs:List ByteArray}{e0 e1 e2:Int}
theorem qnW (c:Cd) (hc:c.length<2^30) (o:Int):Z qae (.call 201 [.ptr 0 0,.int o] (qce vs e0 e1 e2 c)) =
  some (.ret (.fn 204 [] [.ptr 3 0,.ptr 4 0]) (qce vs e0 e1 e2 (c++[(o,0)])++[.cells [.ptr 0 0],.cells [.int c.length]])):=by
 have z:=qbW (vs:=vs) (e0:=e0) (e1:=e1) (e2:=e2) c hc o 0
 refine qaa (pf:=F201) rfl rfl ?_
 simp[F201,z,Wa]
theorem qdQ (c1 c2:Cd) (o x:Int) (hc:(c1++(o,x)::c2).length<2^30) :
  Z qae (.dcall 204 [.dat (.lit .nilIface),.ptr 0 0,.ptr 1 0] [.cells [.ptr 2 0],.cells [.int c1.length],cob e0 e1 e2 3 (c1++(o,x)::c2).length 4,.vec (icV (c1++(o,x)::c2)),mpo vs]) =
  some (.ret (.dat (.lit undef)) [.cells [.ptr 2 0],.cells [.int c1.length],cob e0 e1 e2 3 (c1++(o,x)::c2).length 4,.vec (icV (c1++(o,((c1++(o,x)::c2).length:Int))::c2)),mpo vs]):=by
 have hs:=qr0 c1 c2 o x (c1++(o,x)::c2).length
 have hl:=qfs (c1++(o,x)::c2)
 have hk:c1.length<(c1++(o,x)::c2).length:=by simp
 generalize (c1++(o,x)::c2)=c at *
 have hk':(c1.length:Int)<c.length:=by omega
 have hle:c1.length*2+1+1<=c.length*2:=by omega
 refine qob (pf:=F204) rfl ?_
 simp[qaV,F204,PC.flat,V.isNilIf,qcz,hl,hk,hk',hle,hs,qag,qa9,qaq,Wa]
end
end
section
open F Gr
set_option maxHeartbeats 2000000
attribute [local simp] qa6 qbu dkey qfN
abbrev nbo(k n:Int)(s:ByteArray)(d:D):Ob := .cells [.int k,.int n,.str s,.dat d]
structure Clo2(vs:List ByteArray)(id:Nat)(bn:Ob)(C:Int->Cd)(L:Nat):Prop where
 ln:Ln C L
 one : ∀ (e0 e1 e2:Int) (c:Cd),c≠[]->c.length+4*L<2^30->Z qae (.call id [.ptr 0 0,.ptr 1 0] [.cells [.ptr 2 0],bn,cob e0 e1 e2 3 c.length 4,.vec (icV c),mpo vs]) =
  some (.ret (.tup []) [.cells [.ptr 2 0],bn,cob e0 e1 e2 3 (c++C c.length).length 4,.vec (icV (c++C c.length)),mpo vs])
structure Clo1(vs:List ByteArray)(id:Nat)(C:Int->Cd)(L:Nat):Prop where
 ln:Ln C L
 one : ∀ (e0 e1 e2:Int) (c:Cd),c≠[]->c.length+4*L<2^30->Z qae (.call id [.ptr 0 0] [.cells [.ptr 1 0],cob e0 e1 e2 2 c.length 3,.vec (icV c),mpo vs]) =
  some (.ret (.tup []) [.cells [.ptr 1 0],cob e0 e1 e2 2 (c++C c.length).length 3,.vec (icV (c++C c.length)),mpo vs])
def qvn (vs:List ByteArray) (id:Nat) (bn:Ob) (C:Int->Cd):Prop := ∀ (e0 e1 e2:Int),Z qae (.call id [.ptr 0 0,.ptr 1 0] [.cells [.ptr 2 0],bn,qng e0 e1 e2 3,mpo vs]) =
  some (.ret (.tup []) [.cells [.ptr 2 0],bn,cob e0 e1 e2 4 (C 0).length 3,mpo vs,.vec (icV (C 0))])
def qdD(A:Int->Cd)(c:Cd):Cd:=c++(19,(c.length:Int)+1+(A (c.length+1)).length+1)::(A (c.length+1)++[(18,0)])
section
variable{vs:List ByteArray}{e0 e1 e2:Int}{id:Nat}{k n:Int}{s:ByteArray}{d:D}{A:Int->Cd}{L:Nat}
theorem qmh (h:Clo2 vs id (nbo k n s d) A L) (c:Cd) (hc:c≠[]) (hl:c.length+4*L+10<2^30) :
  Z qae (.call 200 [.ptr 0 0,.fn id [] [.ptr 1 0,.ptr 2 0]] [cob e0 e1 e2 3 c.length 4,.cells [.ptr 0 0],nbo k n s d,.vec (icV c),mpo vs]) =
   some (.ret (.fn 204 [] [.ptr 5 0,.ptr 6 0]) [cob e0 e1 e2 3 (qdD A c).length 4,.cells [.ptr 0 0],nbo k n s d,.vec (icV (qdD A c)),mpo vs,.cells [.ptr 0 0],.cells [.int ((c.length:Int)+1+(A (c.length+1)).length)]]):=by
 have ha:=h.ln (c.length+1)
 obtain⟨c1,h1⟩ : ∃ c1,c1=c++[((19:Int),(0:Int))]:=⟨_,rfl⟩
 have l1:c1.length=c.length+1:=by simp[h1]
 obtain⟨c2,h2⟩ : ∃ c2,c2=c1++A c1.length:=⟨_,rfl⟩
 have e1':((c1.length:Nat):Int)=c.length+1:=by omega
 have l2:c2.length=c.length+1+(A (c.length+1)).length:=by rw[h2,Wb,e1',l1]
 obtain⟨c3,h3⟩ : ∃ c3,c3=c2++[((18:Int),(0:Int))]:=⟨_,rfl⟩
 have l3:c3.length=c2.length+1:=by simp[h3]
 have f3:c3=c++(19,0)::(A (c.length+1)++[(18,0)]):=by rw[h3,h2,h1]; simp
 obtain⟨c4,h4⟩ : ∃ c4,c4=qdD A c:=⟨_,rfl⟩
 have f4:c4=c++(19,(c3.length:Int))::(A (c.length+1)++[(18,0)]):=by rw[h4,qdD,l3,l2]; simp
 have l4:c4.length=c3.length:=by rw[f4,f3]; simp
 have z1:=qnW (vs:=vs) (e0:=e0) (e1:=e1) (e2:=e2) c (by omega) 19
 rw[<- h1] at z1
 have z2:=h.one e0 e1 e2 c1 (by rw[h1]; simp) (by omega)
 rw[<- h2] at z2
 have z3:=qnW (vs:=vs) (e0:=e0) (e1:=e1) (e2:=e2) c2 (by omega) 18
 rw[<- h3] at z3
 have z4:=qdQ (vs:=vs) (e0:=e0) (e1:=e1) (e2:=e2) c (A (c.length+1)++[(18,0)]) 19 0 (by rw[<- f3]; omega)
 rw[<- f3,<- f4] at z4
 rw[<- h4,show ((c.length:Int)+1+(A (c.length+1)).length)=(c2.length:Int) by omega,l4]
 refine qaa (pf:=F200) rfl rfl ?_
 simp[F200,z1,z2,z3,z4,V.isNilIf,Wa]
theorem qsk (h:Clo1 vs id A L) (c:Cd) (hc:c≠[]) (hl:c.length+4*L+10<2^30) :
  Z qae (.call 200 [.ptr 0 0,.fn id [] [.ptr 1 0]] [cob e0 e1 e2 2 c.length 3,.cells [.ptr 0 0],.vec (icV c),mpo vs]) =
   some (.ret (.fn 204 [] [.ptr 4 0,.ptr 5 0]) [cob e0 e1 e2 2 (qdD A c).length 3,.cells [.ptr 0 0],.vec (icV (qdD A c)),mpo vs,.cells [.ptr 0 0],.cells [.int ((c.length:Int)+1+(A (c.length+1)).length)]]):=by
 have ha:=h.ln (c.length+1)
 obtain⟨c1,h1⟩ : ∃ c1,c1=c++[((19:Int),(0:Int))]:=⟨_,rfl⟩
 have l1:c1.length=c.length+1:=by simp[h1]
 obtain⟨c2,h2⟩ : ∃ c2,c2=c1++A c1.length:=⟨_,rfl⟩
 have e1':((c1.length:Nat):Int)=c.length+1:=by omega
 have l2:c2.length=c.length+1+(A (c.length+1)).length:=by rw[h2,Wb,e1',l1]
 obtain⟨c3,h3⟩ : ∃ c3,c3=c2++[((18:Int),(0:Int))]:=⟨_,rfl⟩
 have l3:c3.length=c2.length+1:=by simp[h3]
 have f3:c3=c++(19,0)::(A (c.length+1)++[(18,0)]):=by rw[h3,h2,h1]; simp
 obtain⟨c4,h4⟩ : ∃ c4,c4=qdD A c:=⟨_,rfl⟩
 have f4:c4=c++(19,(c3.length:Int))::(A (c.length+1)++[(18,0)]):=by rw[h4,qdD,l3,l2]; simp
 have l4:c4.length=c3.length:=by rw[f4,f3]; simp
 have z1:=qnW (vs:=vs) (e0:=e0) (e1:=e1) (e2:=e2) c (by omega) 19
 rw[<- h1] at z1
 have z2:=h.one e0 e1 e2 c1 (by rw[h1]; simp) (by omega)
 rw[<- h2] at z2
 have z3:=qnW (vs:=vs) (e0:=e0) (e1:=e1) (e2:=e2) c2 (by omega) 18
 rw[<- h3] at z3
 have z4:=qdQ (vs:=vs) (e0:=e0) (e1:=e1) (e2:=e2) c (A (c.length+1)++[(18,0)]) 19 0 (by rw[<- f3]; omega)
 rw[<- f3,<- f4] at z4
 rw[<- h4,show ((c.length:Int)+1+(A (c.length+1)).length)=(c2.length:Int) by omega,l4]
 refine qaa (pf:=F200) rfl rfl ?_
 simp[F200,z1,z2,z3,z4,V.isNilIf,Wa]
end
section
variable{vs:List ByteArray}{e0 e1 e2:Int}{i1 i2 i3:Nat}{k n:Int}{s:ByteArray}{d:D}{C A B:Int->Cd}{L La Lb:Nat}
theorem qiA(C A B:Int->Cd)(c:Cd):qdD A (c++C c.length)++B (qdD A (c++C c.length)).length=(c++C c.length++(19,((c++C c.length).length:Int)+1+(A ((c++C c.length).length+1)).length+1)::A ((c++C c.length).length+1))++(18,0)::B (qdD A (c++C c.length)).length:=by
 simp[qdD]
theorem qnk(C A B:Int->Cd)(c:Cd):(c++C c.length++(19,((c++C c.length).length:Int)+1+(A ((c++C c.length).length+1)).length+1)::A ((c++C c.length).length+1))++(18,((qdD A (c++C c.length)++B (qdD A (c++C c.length)).length).length:Int))::B (qdD A (c++C c.length)).length=c++brC C A B c.length:=by
 have e:((qdD A (c++C c.length)).length:Int)=c.length+(C c.length).length+1+(A (c.length+(C c.length).length+1)).length+1:=by
  simp only[qdD,Wb,Wd,Wj]
  rw[show ((c.length+(C c.length).length:Nat):Int)=(c.length:Int)+(C c.length).length by omega]
  omega
 simp only[brC,Wb]
 rw[show ((c.length+(C c.length).length:Nat):Int)=(c.length:Int)+(C c.length).length by omega]
 rw[show (((qdD A (c++C c.length)).length+(B (qdD A (c++C c.length)).length).length:Nat):Int)=((qdD A (c++C c.length)).length:Int)+(B (qdD A (c++C c.length)).length).length by omega,e]
 simp
theorem qnl (h1:Clo2 vs i1 (nbo k n s d) C L) (h2:Clo2 vs i2 (nbo k n s d) A La) (h3:Clo1 vs i3 B Lb) (c:Cd) (hc:c≠[]) (hl:c.length+4*(L+La+Lb+2)<2^30) (hL:0<L) :
  Z qae (.call 180 [.ptr 0 0,.fn i1 [] [.ptr 1 0,.ptr 2 0],.fn i2 [] [.ptr 1 0,.ptr 2 0],.fn i3 [] [.ptr 1 0]] [cob e0 e1 e2 3 c.length 4,.cells [.ptr 0 0],nbo k n s d,.vec (icV c),mpo vs])=some (.ret (.tup []) [cob e0 e1 e2 3 (c++brC C A B c.length).length 4,.cells [.ptr 0 0],nbo k n s d,.vec (icV (c++brC C A B c.length)),mpo vs]):=by
 obtain⟨c0,hc0⟩ : ∃ c0,c0=c++C c.length:=⟨_,rfl⟩
 have z1:=h1.one e0 e1 e2 c hc (by omega)
 rw[<- hc0] at z1
 have l0:c0.length=c.length+L:=by rw[hc0,Wb,h1.ln]
 have n0:c0≠[]:=by rw[hc0]; simp[hc]
 have la:=h2.ln (c0.length+1)
 have z2:=qmh (e0:=e0) (e1:=e1) (e2:=e2) h2 c0 n0 (by omega)
 have eb:=qiA C A B c
 have eq:=qnk C A B c
 rw[<- hc0] at eb eq
 have lf:(qdD A c0).length=c0.length+1+La+1:=by simp only[qdD,Wb,Wd,Wj,la]; omega
 obtain⟨c1,h1'⟩ : ∃ c1,c1=qdD A c0:=⟨_,rfl⟩
 rw[<- h1'] at z2 eb eq lf
 have z3:=h3.one e0 e1 e2 c1 (by rw[h1',qdD]; simp) (by omega)
 have lb:=h3.ln c1.length
 obtain⟨c2,h2'⟩ : ∃ c2,c2=c1++B c1.length:=⟨_,rfl⟩
 have l2:c2.length=c1.length+Lb:=by rw[h2',Wb,lb]
 rw[<- h2'] at z3 eb eq
 have z4:=qdQ (vs:=vs) (e0:=e0) (e1:=e1) (e2:=e2) (c0++(19,(c0.length:Int)+1+(A (c0.length+1)).length+1)::A (c0.length+1)) (B c1.length) 18 0 (by rw[<- eb]; omega)
 rw[<- eb,eq] at z4
 have l3:(c++brC C A B c.length).length=c2.length:=by rw[<- eq,eb]; simp
 have lk:(((c0++(19,(c0.length:Int)+1+(A (c0.length+1)).length+1)::A (c0.length+1)).length:Nat):Int)=(c0.length:Int)+1+(A (c0.length+1)).length:=by simp only[Wb,Wd]; omega
 rw[lk] at z4
 generalize c++brC C A B c.length=c3 at *
 generalize (c0.length:Int)+1+(A (c0.length+1)).length=at_ at *
 rw[l3]
 refine qaa (pf:=F180) rfl rfl ?_
 simp[F180,z1,z2,z3,z4,V.isNilIf,Wa]
theorem qnm (h1:Clo2 vs i1 (nbo k n s d) C L) (h0:qvn vs i1 (nbo k n s d) C) (h2:Clo2 vs i2 (nbo k n s d) A La) (h3:Clo1 vs i3 B Lb) (hl:4*(L+La+Lb+2)<2^30) (hL:0<L) :
  Z qae (.call 180 [.ptr 0 0,.fn i1 [] [.ptr 1 0,.ptr 2 0],.fn i2 [] [.ptr 1 0,.ptr 2 0],.fn i3 [] [.ptr 1 0]] [qng e0 e1 e2 3,.cells [.ptr 0 0],nbo k n s d,mpo vs])=some (.ret (.tup []) [cob e0 e1 e2 4 (brC C A B 0).length 3,.cells [.ptr 0 0],nbo k n s d,mpo vs,.vec (icV (brC C A B 0))]):=by
 obtain⟨c,hcn⟩ : ∃ c:Cd,c=[]:=⟨_,rfl⟩
 obtain⟨c0,hc0⟩ : ∃ c0,c0=c++C c.length:=⟨_,rfl⟩
 have z1:=h0 e0 e1 e2
 rw[show C 0=c0 by rw[hc0,hcn]; rfl] at z1
 have l0:c0.length=c.length+L:=by rw[hc0,Wb,h1.ln]
 have n0:c0≠[]:=fun e=>by rw[e] at l0; simp only[Wj] at l0; omega
 have l00:c.length=0:=by rw[hcn]; rfl
 rw[show brC C A B 0=c++brC C A B c.length by rw[hcn]; rfl]
 have la:=h2.ln (c0.length+1)
 have z2:=qmh (e0:=e0) (e1:=e1) (e2:=e2) h2 c0 n0 (by omega)
 have eb:=qiA C A B c
 have eq:=qnk C A B c
 rw[<- hc0] at eb eq
 have lf:(qdD A c0).length=c0.length+1+La+1:=by simp only[qdD,Wb,Wd,Wj,la]; omega
 obtain⟨c1,h1'⟩ : ∃ c1,c1=qdD A c0:=⟨_,rfl⟩
 rw[<- h1'] at z2 eb eq lf
 have z3:=h3.one e0 e1 e2 c1 (by rw[h1',qdD]; simp) (by omega)
 have lb:=h3.ln c1.length
 obtain⟨c2,h2'⟩ : ∃ c2,c2=c1++B c1.length:=⟨_,rfl⟩
 have l2:c2.length=c1.length+Lb:=by rw[h2',Wb,lb]
 rw[<- h2'] at z3 eb eq
 have z4:=qdQ (vs:=vs) (e0:=e0) (e1:=e1) (e2:=e2) (c0++(19,(c0.length:Int)+1+(A (c0.length+1)).length+1)::A (c0.length+1)) (B c1.length) 18 0 (by rw[<- eb]; omega)
 rw[<- eb,eq] at z4
 have l3:(c++brC C A B c.length).length=c2.length:=by rw[<- eq,eb]; simp
 have lk:(((c0++(19,(c0.length:Int)+1+(A (c0.length+1)).length+1)::A (c0.length+1)).length:Nat):Int)=(c0.length:Int)+1+(A (c0.length+1)).length:=by simp only[Wb,Wd]; omega
 rw[lk] at z4
 generalize c++brC C A B c.length=c3 at *
 generalize (c0.length:Int)+1+(A (c0.length+1)).length=at_ at *
 rw[l3]
 refine qaa (pf:=F180) rfl rfl ?_
 simp[F180,z1,z2,z3,z4,V.isNilIf,Wa]
theorem qnn (h1:Clo2 vs i1 (nbo k n s d) C L) (h2:Clo1 vs i2 A La) (h3:Clo2 vs i3 (nbo k n s d) B Lb) (c:Cd) (hc:c≠[]) (hl:c.length+4*(L+La+Lb+2)<2^30) (hL:0<L) :
  Z qae (.call 180 [.ptr 0 0,.fn i1 [] [.ptr 1 0,.ptr 2 0],.fn i2 [] [.ptr 1 0],.fn i3 [] [.ptr 1 0,.ptr 2 0]] [cob e0 e1 e2 3 c.length 4,.cells [.ptr 0 0],nbo k n s d,.vec (icV c),mpo vs])=some (.ret (.tup []) [cob e0 e1 e2 3 (c++brC C A B c.length).length 4,.cells [.ptr 0 0],nbo k n s d,.vec (icV (c++brC C A B c.length)),mpo vs]):=by
 obtain⟨c0,hc0⟩ : ∃ c0,c0=c++C c.length:=⟨_,rfl⟩
 have z1:=h1.one e0 e1 e2 c hc (by omega)
 rw[<- hc0] at z1
 have l0:c0.length=c.length+L:=by rw[hc0,Wb,h1.ln]
 have n0:c0≠[]:=by rw[hc0]; simp[hc]
 have la:=h2.ln (c0.length+1)
 have z2:=qsk (e0:=e0) (e1:=e1) (e2:=e2) h2 c0 n0 (by omega)
 have eb:=qiA C A B c
 have eq:=qnk C A B c
 rw[<- hc0] at eb eq
 have lf:(qdD A c0).length=c0.length+1+La+1:=by simp only[qdD,Wb,Wd,Wj,la]; omega
 obtain⟨c1,h1'⟩ : ∃ c1,c1=qdD A c0:=⟨_,rfl⟩
 rw[<- h1'] at z2 eb eq lf
 have z3:=h3.one e0 e1 e2 c1 (by rw[h1',qdD]; simp) (by omega)
 have lb:=h3.ln c1.length
 obtain⟨c2,h2'⟩ : ∃ c2,c2=c1++B c1.length:=⟨_,rfl⟩
 have l2:c2.length=c1.length+Lb:=by rw[h2',Wb,lb]
 rw[<- h2'] at z3 eb eq
 have z4:=qdQ (vs:=vs) (e0:=e0) (e1:=e1) (e2:=e2) (c0++(19,(c0.length:Int)+1+(A (c0.length+1)).length+1)::A (c0.length+1)) (B c1.length) 18 0 (by rw[<- eb]; omega)
 rw[<- eb,eq] at z4
 have l3:(c++brC C A B c.length).length=c2.length:=by rw[<- eq,eb]; simp
 have lk:(((c0++(19,(c0.length:Int)+1+(A (c0.length+1)).length+1)::A (c0.length+1)).length:Nat):Int)=(c0.length:Int)+1+(A (c0.length+1)).length:=by simp only[Wb,Wd]; omega
 rw[lk] at z4
 generalize c++brC C A B c.length=c3 at *
 generalize (c0.length:Int)+1+(A (c0.length+1)).length=at_ at *
 rw[l3]
 refine qaa (pf:=F180) rfl rfl ?_
 simp[F180,z1,z2,z3,z4,V.isNilIf,Wa]
theorem qno (h1:Clo2 vs i1 (nbo k n s d) C L) (h0:qvn vs i1 (nbo k n s d) C) (h2:Clo1 vs i2 A La) (h3:Clo2 vs i3 (nbo k n s d) B Lb) (hl:4*(L+La+Lb+2)<2^30) (hL:0<L) :
  Z qae (.call 180 [.ptr 0 0,.fn i1 [] [.ptr 1 0,.ptr 2 0],.fn i2 [] [.ptr 1 0],.fn i3 [] [.ptr 1 0,.ptr 2 0]] [qng e0 e1 e2 3,.cells [.ptr 0 0],nbo k n s d,mpo vs])=some (.ret (.tup []) [cob e0 e1 e2 4 (brC C A B 0).length 3,.cells [.ptr 0 0],nbo k n s d,mpo vs,.vec (icV (brC C A B 0))]):=by
 obtain⟨c,hcn⟩ : ∃ c:Cd,c=[]:=⟨_,rfl⟩
 obtain⟨c0,hc0⟩ : ∃ c0,c0=c++C c.length:=⟨_,rfl⟩
 have z1:=h0 e0 e1 e2
 rw[show C 0=c0 by rw[hc0,hcn]; rfl] at z1
 have l0:c0.length=c.length+L:=by rw[hc0,Wb,h1.ln]
 have n0:c0≠[]:=fun e=>by rw[e] at l0; simp only[Wj] at l0; omega
 have l00:c.length=0:=by rw[hcn]; rfl
 rw[show brC C A B 0=c++brC C A B c.length by rw[hcn]; rfl]
 have la:=h2.ln (c0.length+1)
 have z2:=qsk (e0:=e0) (e1:=e1) (e2:=e2) h2 c0 n0 (by omega)
 have eb:=qiA C A B c
 have eq:=qnk C A B c
 rw[<- hc0] at eb eq
 have lf:(qdD A c0).length=c0.length+1+La+1:=by simp only[qdD,Wb,Wd,Wj,la]; omega
 obtain⟨c1,h1'⟩ : ∃ c1,c1=qdD A c0:=⟨_,rfl⟩
 rw[<- h1'] at z2 eb eq lf
 have z3:=h3.one e0 e1 e2 c1 (by rw[h1',qdD]; simp) (by omega)
 have lb:=h3.ln c1.length
 obtain⟨c2,h2'⟩ : ∃ c2,c2=c1++B c1.length:=⟨_,rfl⟩
 have l2:c2.length=c1.length+Lb:=by rw[h2',Wb,lb]
 rw[<- h2'] at z3 eb eq
 have z4:=qdQ (vs:=vs) (e0:=e0) (e1:=e1) (e2:=e2) (c0++(19,(c0.length:Int)+1+(A (c0.length+1)).length+1)::A (c0.length+1)) (B c1.length) 18 0 (by rw[<- eb]; omega)
 rw[<- eb,eq] at z4
 have l3:(c++brC C A B c.length).length=c2.length:=by rw[<- eq,eb]; simp
 have lk:(((c0++(19,(c0.length:Int)+1+(A (c0.length+1)).length+1)::A (c0.length+1)).length:Nat):Int)=(c0.length:Int)+1+(A (c0.length+1)).length:=by simp only[Wb,Wd]; omega
 rw[lk] at z4
 generalize c++brC C A B c.length=c3 at *
 generalize (c0.length:Int)+1+(A (c0.length+1)).length=at_ at *
 rw[l3]
 refine qaa (pf:=F180) rfl rfl ?_
 simp[F180,z1,z2,z3,z4,V.isNilIf,Wa]
theorem qnp (h1:Clo2 vs i1 (nbo k n s d) C L) (h2:Clo2 vs i2 (nbo k n s d) A La) (h3:Clo2 vs i3 (nbo k n s d) B Lb) (c:Cd) (hc:c≠[]) (hl:c.length+4*(L+La+Lb+2)<2^30) (hL:0<L) :
  Z qae (.call 180 [.ptr 0 0,.fn i1 [] [.ptr 1 0,.ptr 2 0],.fn i2 [] [.ptr 1 0,.ptr 2 0],.fn i3 [] [.ptr 1 0,.ptr 2 0]] [cob e0 e1 e2 3 c.length 4,.cells [.ptr 0 0],nbo k n s d,.vec (icV c),mpo vs])=some (.ret (.tup []) [cob e0 e1 e2 3 (c++brC C A B c.length).length 4,.cells [.ptr 0 0],nbo k n s d,.vec (icV (c++brC C A B c.length)),mpo vs]):=by
 obtain⟨c0,hc0⟩ : ∃ c0,c0=c++C c.length:=⟨_,rfl⟩
 have z1:=h1.one e0 e1 e2 c hc (by omega)
 rw[<- hc0] at z1
 have l0:c0.length=c.length+L:=by rw[hc0,Wb,h1.ln]
 have n0:c0≠[]:=by rw[hc0]; simp[hc]
 have la:=h2.ln (c0.length+1)
 have z2:=qmh (e0:=e0) (e1:=e1) (e2:=e2) h2 c0 n0 (by omega)
 have eb:=qiA C A B c
 have eq:=qnk C A B c
 rw[<- hc0] at eb eq
 have lf:(qdD A c0).length=c0.length+1+La+1:=by simp only[qdD,Wb,Wd,Wj,la]; omega
 obtain⟨c1,h1'⟩ : ∃ c1,c1=qdD A c0:=⟨_,rfl⟩
 rw[<- h1'] at z2 eb eq lf
 have z3:=h3.one e0 e1 e2 c1 (by rw[h1',qdD]; simp) (by omega)
 have lb:=h3.ln c1.length
 obtain⟨c2,h2'⟩ : ∃ c2,c2=c1++B c1.length:=⟨_,rfl⟩
 have l2:c2.length=c1.length+Lb:=by rw[h2',Wb,lb]
 rw[<- h2'] at z3 eb eq
 have z4:=qdQ (vs:=vs) (e0:=e0) (e1:=e1) (e2:=e2) (c0++(19,(c0.length:Int)+1+(A (c0.length+1)).length+1)::A (c0.length+1)) (B c1.length) 18 0 (by rw[<- eb]; omega)
 rw[<- eb,eq] at z4
 have l3:(c++brC C A B c.length).length=c2.length:=by rw[<- eq,eb]; simp
 have lk:(((c0++(19,(c0.length:Int)+1+(A (c0.length+1)).length+1)::A (c0.length+1)).length:Nat):Int)=(c0.length:Int)+1+(A (c0.length+1)).length:=by simp only[Wb,Wd]; omega
 rw[lk] at z4
 generalize c++brC C A B c.length=c3 at *
 generalize (c0.length:Int)+1+(A (c0.length+1)).length=at_ at *
 rw[l3]
 refine qaa (pf:=F180) rfl rfl ?_
 simp[F180,z1,z2,z3,z4,V.isNilIf,Wa]
theorem qnq (h1:Clo2 vs i1 (nbo k n s d) C L) (h0:qvn vs i1 (nbo k n s d) C) (h2:Clo2 vs i2 (nbo k n s d) A La) (h3:Clo2 vs i3 (nbo k n s d) B Lb) (hl:4*(L+La+Lb+2)<2^30) (hL:0<L) :
  Z qae (.call 180 [.ptr 0 0,.fn i1 [] [.ptr 1 0,.ptr 2 0],.fn i2 [] [.ptr 1 0,.ptr 2 0],.fn i3 [] [.ptr 1 0,.ptr 2 0]] [qng e0 e1 e2 3,.cells [.ptr 0 0],nbo k n s d,mpo vs])=some (.ret (.tup []) [cob e0 e1 e2 4 (brC C A B 0).length 3,.cells [.ptr 0 0],nbo k n s d,mpo vs,.vec (icV (brC C A B 0))]):=by
 obtain⟨c,hcn⟩ : ∃ c:Cd,c=[]:=⟨_,rfl⟩
 obtain⟨c0,hc0⟩ : ∃ c0,c0=c++C c.length:=⟨_,rfl⟩
 have z1:=h0 e0 e1 e2
 rw[show C 0=c0 by rw[hc0,hcn]; rfl] at z1
 have l0:c0.length=c.length+L:=by rw[hc0,Wb,h1.ln]
 have n0:c0≠[]:=fun e=>by rw[e] at l0; simp only[Wj] at l0; omega
 have l00:c.length=0:=by rw[hcn]; rfl
 rw[show brC C A B 0=c++brC C A B c.length by rw[hcn]; rfl]
 have la:=h2.ln (c0.length+1)
 have z2:=qmh (e0:=e0) (e1:=e1) (e2:=e2) h2 c0 n0 (by omega)
 have eb:=qiA C A B c
 have eq:=qnk C A B c
 rw[<- hc0] at eb eq
 have lf:(qdD A c0).length=c0.length+1+La+1:=by simp only[qdD,Wb,Wd,Wj,la]; omega
 obtain⟨c1,h1'⟩ : ∃ c1,c1=qdD A c0:=⟨_,rfl⟩
 rw[<- h1'] at z2 eb eq lf
 have z3:=h3.one e0 e1 e2 c1 (by rw[h1',qdD]; simp) (by omega)
 have lb:=h3.ln c1.length
 obtain⟨c2,h2'⟩ : ∃ c2,c2=c1++B c1.length:=⟨_,rfl⟩
 have l2:c2.length=c1.length+Lb:=by rw[h2',Wb,lb]
 rw[<- h2'] at z3 eb eq
 have z4:=qdQ (vs:=vs) (e0:=e0) (e1:=e1) (e2:=e2) (c0++(19,(c0.length:Int)+1+(A (c0.length+1)).length+1)::A (c0.length+1)) (B c1.length) 18 0 (by rw[<- eb]; omega)
 rw[<- eb,eq] at z4
 have l3:(c++brC C A B c.length).length=c2.length:=by rw[<- eq,eb]; simp
 have lk:(((c0++(19,(c0.length:Int)+1+(A (c0.length+1)).length+1)::A (c0.length+1)).length:Nat):Int)=(c0.length:Int)+1+(A (c0.length+1)).length:=by simp only[Wb,Wd]; omega
 rw[lk] at z4
 generalize c++brC C A B c.length=c3 at *
 generalize (c0.length:Int)+1+(A (c0.length+1)).length=at_ at *
 rw[l3]
 refine qaa (pf:=F180) rfl rfl ?_
 simp[F180,z1,z2,z3,z4,V.isNilIf,Wa]
end
end
section
open F Gr
set_option maxHeartbeats 2000000
attribute [local simp] qa6 qbu dkey qfN
structure TrB(vs:List ByteArray)(x:V)(C:Int->Cd)(L:Nat):Prop where
 ln:Ln C L
 one : ∀ (e0 e1 e2:Int) (c:Cd),c≠[]->c.length+4*L<2^30->Z qae (.call 147 [.ptr 0 0,x] (qce vs e0 e1 e2 c))=some (.ret (.tup []) (qce vs e0 e1 e2 (c++C c.length)))
structure TrOK(vs:List ByteArray)(x:V)(C:Int->Cd)(L:Nat):Prop extends TrB vs x C L where
 pos:0<L
 zero : ∀ (e0 e1 e2:Int),4*L<2^30->Z qae (.call 147 [.ptr 0 0,x] (qdS vs e0 e1 e2))=some (.ret (.tup []) (qg5 vs e0 e1 e2 (C 0)))
section
variable{vs:List ByteArray}{e0 e1 e2:Int}{C:Int->Cd}{L:Nat}{k n:Int}{s:ByteArray}{f:Bool}{N:Nat}{cs r:List D}{a b c1 d:D}{i:Nat}
theorem qsE(h1:i<N):qag 4 (.dat (kd f N cs)) (i:Int)=some (.dat (.imm cs (i*4))):=by
 have:=qy2 (f:=f) (n:=N) (cs:=cs) (i:=(i:Int)) (by omega) (by omega)
 simpa using this
theorem qfA (h:TrB vs (.dat (.agg [a,b,c1,d])) C L) (hd:cs.drop (i*4)=a::b::c1::d::r) (hi:i<N) (c:Cd) (hc:c≠[]) (hl:c.length+4*L<2^30) :
  Z qae (.call 165 [.ptr 0 0,.dat (.agg [.lit (.int .i64 k),.lit (.int .i64 n),.lit (.string s),kd f N cs]),.int i] (qce vs e0 e1 e2 c))=some (.ret (.tup []) (qce vs e0 e1 e2 (c++C c.length))):=by
 have h4:=qzp hd
 have hi':(i:Int)<N:=by omega
 have z:=h.one e0 e1 e2 c hc hl
 have ha:=qsE (f:=f) (cs:=cs) hi
 generalize c++C c.length=c2 at *
 refine qaa (pf:=F165) rfl rfl ?_
 simp[F165,hi',ha,h4,z,Wa]
theorem qmU (h:TrOK vs (.dat (.agg [a,b,c1,d])) C L) (hd:cs.drop (i*4)=a::b::c1::d::r) (hi:i<N) (hl:4*L<2^30) :
  Z qae (.call 165 [.ptr 0 0,.dat (.agg [.lit (.int .i64 k),.lit (.int .i64 n),.lit (.string s),kd f N cs]),.int i] (qdS vs e0 e1 e2))=some (.ret (.tup []) (qg5 vs e0 e1 e2 (C 0))):=by
 have h4:=qzp hd
 have hi':(i:Int)<N:=by omega
 have z:=h.zero e0 e1 e2 hl
 have ha:=qsE (f:=f) (cs:=cs) hi
 generalize C 0=c2 at *
 refine qaa (pf:=F165) rfl rfl ?_
 simp[F165,hi',ha,h4,z,Wa]
theorem qsF(h:TrB vs (.dat (.agg [a,b,c1,d])) C L)(hd:cs.drop (0*4)=a::b::c1::d::r)(hi:0<N):Clo2 vs 181 (nbo k n s (kd f N cs)) C L where
 ln:=h.ln
 one:=fun e0 e1 e2 c hc hl=>by
  have z:=qfA (e0:=e0) (e1:=e1) (e2:=e2) (k:=k) (n:=n) (s:=s) (f:=f) h hd hi c hc hl
  rw[show (((0:Nat)):Int)=0 from rfl] at z
  generalize c++C c.length=c2 at *
  refine qaa (pf:=F181) rfl rfl ?_
  simp[F181,z,Wa]
theorem quA(h:TrOK vs (.dat (.agg [a,b,c1,d])) C L)(hd:cs.drop (0*4)=a::b::c1::d::r)(hi:0<N)(hl:4*L<2^30):qvn vs 181 (nbo k n s (kd f N cs)) C:=fun e0 e1 e2=>by
 have z:=qmU (e0:=e0) (e1:=e1) (e2:=e2) (k:=k) (n:=n) (s:=s) (f:=f) h hd hi hl
 rw[show (((0:Nat)):Int)=0 from rfl] at z
 generalize C 0=c2 at *
 refine qaa (pf:=F181) rfl rfl ?_
 simp[F181,z,Wa]
theorem qsG(h:TrB vs (.dat (.agg [a,b,c1,d])) C L)(hd:cs.drop (1*4)=a::b::c1::d::r)(hi:1<N):Clo2 vs 182 (nbo k n s (kd f N cs)) C L where
 ln:=h.ln
 one:=fun e0 e1 e2 c hc hl=>by
  have z:=qfA (e0:=e0) (e1:=e1) (e2:=e2) (k:=k) (n:=n) (s:=s) (f:=f) h hd hi c hc hl
  rw[show (((1:Nat)):Int)=1 from rfl] at z
  generalize c++C c.length=c2 at *
  refine qaa (pf:=F182) rfl rfl ?_
  simp[F182,z,Wa]
theorem qsH(h:TrB vs (.dat (.agg [a,b,c1,d])) C L)(hd:cs.drop (0*4)=a::b::c1::d::r)(hi:0<N):Clo2 vs 184 (nbo k n s (kd f N cs)) C L where
 ln:=h.ln
 one:=fun e0 e1 e2 c hc hl=>by
  have z:=qfA (e0:=e0) (e1:=e1) (e2:=e2) (k:=k) (n:=n) (s:=s) (f:=f) h hd hi c hc hl
  rw[show (((0:Nat)):Int)=0 from rfl] at z
  generalize c++C c.length=c2 at *
  refine qaa (pf:=F184) rfl rfl ?_
  simp[F184,z,Wa]
theorem quB(h:TrOK vs (.dat (.agg [a,b,c1,d])) C L)(hd:cs.drop (0*4)=a::b::c1::d::r)(hi:0<N)(hl:4*L<2^30):qvn vs 184 (nbo k n s (kd f N cs)) C:=fun e0 e1 e2=>by
 have z:=qmU (e0:=e0) (e1:=e1) (e2:=e2) (k:=k) (n:=n) (s:=s) (f:=f) h hd hi hl
 rw[show (((0:Nat)):Int)=0 from rfl] at z
 generalize C 0=c2 at *
 refine qaa (pf:=F184) rfl rfl ?_
 simp[F184,z,Wa]
theorem qsI(h:TrB vs (.dat (.agg [a,b,c1,d])) C L)(hd:cs.drop (1*4)=a::b::c1::d::r)(hi:1<N):Clo2 vs 186 (nbo k n s (kd f N cs)) C L where
 ln:=h.ln
 one:=fun e0 e1 e2 c hc hl=>by
  have z:=qfA (e0:=e0) (e1:=e1) (e2:=e2) (k:=k) (n:=n) (s:=s) (f:=f) h hd hi c hc hl
  rw[show (((1:Nat)):Int)=1 from rfl] at z
  generalize c++C c.length=c2 at *
  refine qaa (pf:=F186) rfl rfl ?_
  simp[F186,z,Wa]
theorem qsJ(h:TrB vs (.dat (.agg [a,b,c1,d])) C L)(hd:cs.drop (0*4)=a::b::c1::d::r)(hi:0<N):Clo2 vs 188 (nbo k n s (kd f N cs)) C L where
 ln:=h.ln
 one:=fun e0 e1 e2 c hc hl=>by
  have z:=qfA (e0:=e0) (e1:=e1) (e2:=e2) (k:=k) (n:=n) (s:=s) (f:=f) h hd hi c hc hl
  rw[show (((0:Nat)):Int)=0 from rfl] at z
  generalize c++C c.length=c2 at *
  refine qaa (pf:=F188) rfl rfl ?_
  simp[F188,z,Wa]
theorem quC(h:TrOK vs (.dat (.agg [a,b,c1,d])) C L)(hd:cs.drop (0*4)=a::b::c1::d::r)(hi:0<N)(hl:4*L<2^30):qvn vs 188 (nbo k n s (kd f N cs)) C:=fun e0 e1 e2=>by
 have z:=qmU (e0:=e0) (e1:=e1) (e2:=e2) (k:=k) (n:=n) (s:=s) (f:=f) h hd hi hl
 rw[show (((0:Nat)):Int)=0 from rfl] at z
 generalize C 0=c2 at *
 refine qaa (pf:=F188) rfl rfl ?_
 simp[F188,z,Wa]
theorem qsK(h:TrB vs (.dat (.agg [a,b,c1,d])) C L)(hd:cs.drop (1*4)=a::b::c1::d::r)(hi:1<N):Clo2 vs 189 (nbo k n s (kd f N cs)) C L where
 ln:=h.ln
 one:=fun e0 e1 e2 c hc hl=>by
  have z:=qfA (e0:=e0) (e1:=e1) (e2:=e2) (k:=k) (n:=n) (s:=s) (f:=f) h hd hi c hc hl
  rw[show (((1:Nat)):Int)=1 from rfl] at z
  generalize c++C c.length=c2 at *
  refine qaa (pf:=F189) rfl rfl ?_
  simp[F189,z,Wa]
theorem qsL(h:TrB vs (.dat (.agg [a,b,c1,d])) C L)(hd:cs.drop (2*4)=a::b::c1::d::r)(hi:2<N):Clo2 vs 190 (nbo k n s (kd f N cs)) C L where
 ln:=h.ln
 one:=fun e0 e1 e2 c hc hl=>by
  have z:=qfA (e0:=e0) (e1:=e1) (e2:=e2) (k:=k) (n:=n) (s:=s) (f:=f) h hd hi c hc hl
  rw[show (((2:Nat)):Int)=2 from rfl] at z
  generalize c++C c.length=c2 at *
  refine qaa (pf:=F190) rfl rfl ?_
  simp[F190,z,Wa]
theorem qsM:Clo1 vs 183 (fun _=>[(1,0)]) 1 where
 ln:=fun _=>rfl
 one:=fun e0 e1 e2 c hc hl=>by
  have z:=qbW (vs:=vs) (e0:=e0) (e1:=e1) (e2:=e2) c (by omega) 1 0
  show Z qae _=some (Res.ret (.tup []) [.cells [.ptr 1 0],cob e0 e1 e2 2 (c++[((1:Int),(0:Int))]).length 3,.vec (icV (c++[((1:Int),(0:Int))])),mpo vs])
  generalize c++[((1:Int),(0:Int))]=c2 at *
  refine qaa (pf:=F183) rfl rfl ?_
  simp[F183,z,Wa]
theorem qsN:Clo1 vs 185 (fun _=>[(1,1)]) 1 where
 ln:=fun _=>rfl
 one:=fun e0 e1 e2 c hc hl=>by
  have z:=qbW (vs:=vs) (e0:=e0) (e1:=e1) (e2:=e2) c (by omega) 1 1
  show Z qae _=some (Res.ret (.tup []) [.cells [.ptr 1 0],cob e0 e1 e2 2 (c++[((1:Int),(1:Int))]).length 3,.vec (icV (c++[((1:Int),(1:Int))])),mpo vs])
  generalize c++[((1:Int),(1:Int))]=c2 at *
  refine qaa (pf:=F185) rfl rfl ?_
  simp[F185,z,Wa]
end
end
section
open F Gr
set_option maxHeartbeats 2000000
attribute [local simp] qa6 qbu dkey qfN
section
variable{vs:List ByteArray}
theorem qw4(n:Int):TrOK vs (E.int n).node (fun _=>[(1,n)]) 1 where
 ln:=fun _=>rfl
 pos:=by omega
 one:=fun e0 e1 e2 c hc hl=>by
  have z:=qbW (vs:=vs) (e0:=e0) (e1:=e1) (e2:=e2) c (by omega) 1 n
  generalize c++[((1:Int),n)]=c2 at *
  refine qaa (pf:=F147) rfl rfl ?_
  simp[F147,z,Wa]
 zero:=fun e0 e1 e2 hl=>by
  have z:=qkj (vs:=vs) (e0:=e0) (e1:=e1) (e2:=e2) 1 n
  generalize [((1:Int),n)]=c2 at *
  refine qaa (pf:=F147) rfl rfl ?_
  simp[F147,z,Wa]
theorem quv(n:Int):TrOK vs (E.bool n).node (fun _=>[(1,n)]) 1 where
 ln:=fun _=>rfl
 pos:=by omega
 one:=fun e0 e1 e2 c hc hl=>by
  have z:=qbW (vs:=vs) (e0:=e0) (e1:=e1) (e2:=e2) c (by omega) 1 n
  generalize c++[((1:Int),n)]=c2 at *
  refine qaa (pf:=F147) rfl rfl ?_
  simp[F147,z,Wa]
 zero:=fun e0 e1 e2 hl=>by
  have z:=qkj (vs:=vs) (e0:=e0) (e1:=e1) (e2:=e2) 1 n
  generalize [((1:Int),n)]=c2 at *
  refine qaa (pf:=F147) rfl rfl ?_
  simp[F147,z,Wa]
theorem qw5{s:ByteArray}(hs:s∈vs):TrOK vs (E.var s).node (fun _=>[(2,ixI vs s)]) 1 where
 ln:=fun _=>rfl
 pos:=by omega
 one:=fun e0 e1 e2 c hc hl=>by
  have z:=qbW (vs:=vs) (e0:=e0) (e1:=e1) (e2:=e2) c (by omega) 2 (ixI vs s)
  have zf:=qhB s vs 0 hs
  rw[show ixI vs s+((0:Nat):Int)=ixI vs s by omega] at zf
  generalize ixI vs s=v at *
  generalize c++[((2:Int),v)]=c2 at *
  refine qaa (pf:=F147) rfl rfl ?_
  simp[F147,z,zf,qep,qa9,qaq,Wa]
 zero:=fun e0 e1 e2 hl=>by
  have z:=qkj (vs:=vs) (e0:=e0) (e1:=e1) (e2:=e2) 2 (ixI vs s)
  have zf:=qhB s vs 0 hs
  rw[show ixI vs s+((0:Nat):Int)=ixI vs s by omega] at zf
  generalize ixI vs s=v at *
  generalize [((2:Int),v)]=c2 at *
  refine qaa (pf:=F147) rfl rfl ?_
  simp[F147,z,zf,qep,qa9,qaq,Wa]
theorem qw6 (k n:Int) (s:ByteArray) (d:D) (hd1:V.one (.dat d)=true) (hd2:V.cells (.dat d)=[.dat d]) {e0 e1 e2:Int} (c:Cd) (hc:c.length<2^30) :
  Z qae (.call 166 [.ptr 0 0,.dat (.agg [.lit (.int .i64 k),.lit (.int .i64 n),.lit (.string s),d])] (qce vs e0 e1 e2 c))=some (.ret (.tup []) (qce vs e0 e1 e2 (c++[(nameI s,0)]))):=by
 have z:=fun o=>qbW (vs:=vs) (e0:=e0) (e1:=e1) (e2:=e2) c hc o 0
 refine qaa (pf:=F166) rfl rfl ?_
 unfold nameI
 by_cases h1:s=⟨#[115,101,108,102]⟩
 ·have q1:=(qaF s ⟨#[115,101,108,102]⟩).trans (decide_eq_true h1)
  rw[if_pos h1]
  have z:=z 6
  generalize c++[((6:Int),(0:Int))]=c2 at *
  simp[F166,q1,z,hd1,hd2,Wa]
 ·have q1:=(qaF s ⟨#[115,101,108,102]⟩).trans (decide_eq_false h1)
  rw[if_neg h1]
  by_cases h2:s=⟨#[111,116,104,101,114]⟩
  ·have q2:=(qaF s ⟨#[111,116,104,101,114]⟩).trans (decide_eq_true h2)
   rw[if_pos h2]
   have z:=z 7
   generalize c++[((7:Int),(0:Int))]=c2 at *
   simp[F166,q1,q2,z,hd1,hd2,Wa]
  ·have q2:=(qaF s ⟨#[111,116,104,101,114]⟩).trans (decide_eq_false h2)
   rw[if_neg h2]
   have z:=z 8
   generalize c++[((8:Int),(0:Int))]=c2 at *
   simp[F166,q1,q2,z,hd1,hd2,Wa]
theorem qw7 (k n:Int) (s:ByteArray) (d:D) (hd1:V.one (.dat d)=true) (hd2:V.cells (.dat d)=[.dat d]) {e0 e1 e2:Int} :
  Z qae (.call 166 [.ptr 0 0,.dat (.agg [.lit (.int .i64 k),.lit (.int .i64 n),.lit (.string s),d])] (qdS vs e0 e1 e2))=some (.ret (.tup []) (qg5 vs e0 e1 e2 [(nameI s,0)])):=by
 have z:=fun o=>qkj (vs:=vs) (e0:=e0) (e1:=e1) (e2:=e2) o 0
 refine qaa (pf:=F166) rfl rfl ?_
 unfold nameI
 by_cases h1:s=⟨#[115,101,108,102]⟩
 ·have q1:=(qaF s ⟨#[115,101,108,102]⟩).trans (decide_eq_true h1)
  rw[if_pos h1]
  have z:=z 6
  generalize [((6:Int),(0:Int))]=c2 at *
  simp[F166,q1,z,hd1,hd2,Wa]
 ·have q1:=(qaF s ⟨#[115,101,108,102]⟩).trans (decide_eq_false h1)
  rw[if_neg h1]
  by_cases h2:s=⟨#[111,116,104,101,114]⟩
  ·have q2:=(qaF s ⟨#[111,116,104,101,114]⟩).trans (decide_eq_true h2)
   rw[if_pos h2]
   have z:=z 7
   generalize [((7:Int),(0:Int))]=c2 at *
   simp[F166,q1,q2,z,hd1,hd2,Wa]
  ·have q2:=(qaF s ⟨#[111,116,104,101,114]⟩).trans (decide_eq_false h2)
   rw[if_neg h2]
   have z:=z 8
   generalize [((8:Int),(0:Int))]=c2 at *
   simp[F166,q1,q2,z,hd1,hd2,Wa]
theorem quw(s:ByteArray):TrOK vs (E.name s).node (fun _=>[(nameI s,0)]) 1 where
 ln:=fun _=>rfl
 pos:=by omega
 one:=fun e0 e1 e2 c hc hl=>by
  have z:=qw6 (vs:=vs) (e0:=e0) (e1:=e1) (e2:=e2) 12 0 s (.lit (.slice none 0 0)) rfl rfl c (by omega)
  generalize nameI s=v at *
  generalize c++[(v,(0:Int))]=c2 at *
  refine qaa (pf:=F147) rfl rfl ?_
  simp[F147,z,Wa]
 zero:=fun e0 e1 e2 hl=>by
  have z:=qw7 (vs:=vs) (e0:=e0) (e1:=e1) (e2:=e2) 12 0 s (.lit (.slice none 0 0)) rfl rfl
  generalize nameI s=v at *
  generalize [(v,(0:Int))]=c2 at *
  refine qaa (pf:=F147) rfl rfl ?_
  simp[F147,z,Wa]
theorem qux(A:Int->Cd)(i:Int × Int)(c:Cd):(c++A c.length)++[i]=c++snC A i c.length:=by simp[snC]
theorem qh4{c x:Cd}(h:c≠[]):c++x≠[]:=by simp[h]
theorem qrw(f:Bool){s:ByteArray}(hs:s∈qdB){a:E}{A:Int->Cd}{L:Nat}(h:TrOK vs a.node A L):TrOK vs (E.field f s a).node (snC A (4,fieldI s)) (L+1) where
 ln:=qbv h.ln
 pos:=by omega
 one:=fun e0 e1 e2 c hc hl=>by
  have z1:Z qae (.call 165 [.ptr 0 0,(E.field f s a).node,.int 0] (qce vs e0 e1 e2 c))=_:=qfA (f:=f) (N:=1) (i:=0) (e0:=e0) (e1:=e1) (e2:=e2) h.toTrB rfl (by omega) c hc (by omega)
  have zf:=qhg hs
  have l1:(c++A c.length).length<2^30:=by rw[Wb,h.ln]; omega
  have z2:=qbW (vs:=vs) (e0:=e0) (e1:=e1) (e2:=e2) (c++A c.length) l1 4 (fieldI s)
  rw[qux] at z2
  simp only[E.node,qi8,qk9,qla,qgG] at z1
  generalize c++A c.length=c1 at *
  generalize c++snC A (4,fieldI s) c.length=c2 at *
  refine qaa (pf:=F147) rfl rfl ?_
  simp[F147,z1,z2,zf,Wa]
 zero:=fun e0 e1 e2 hl=>by
  have z1:Z qae (.call 165 [.ptr 0 0,(E.field f s a).node,.int 0] (qdS vs e0 e1 e2))=_:=qmU (f:=f) (N:=1) (i:=0) (e0:=e0) (e1:=e1) (e2:=e2) h rfl (by omega) (by omega)
  have zf:=qhg hs
  have l1:(A 0).length<2^30:=by rw[h.ln]; omega
  have z2:=qbW (vs:=vs) (e0:=e0) (e1:=e1) (e2:=e2) (A 0) l1 4 (fieldI s)
  rw[show A 0++[((4:Int),fieldI s)]=snC A (4,fieldI s) 0 from rfl] at z2
  simp only[E.node,qi8,qk9,qla,qgG] at z1
  generalize A 0=c1 at *
  generalize snC A (4,fieldI s) 0=c2 at *
  refine qaa (pf:=F147) rfl rfl ?_
  simp[F147,z1,z2,zf,Wa]
theorem qpn(f:Bool){a:E}{A:Int->Cd}{L:Nat}(h:TrOK vs a.node A L){e0 e1 e2:Int}(c:Cd)(hc:c≠[])(hl:c.length+4*L<2^30):Z qae (.call 167 [.ptr 0 0,(E.un f true a).node] (qce vs e0 e1 e2 c))=some (.ret (.tup []) (qce vs e0 e1 e2 (c++snC A (13,0) c.length))):=by
 have hp:=h.pos
 have z1:Z qae (.call 165 [.ptr 0 0,(E.un f true a).node,.int 0] (qce vs e0 e1 e2 c))=_:=qfA (f:=f) (N:=1) (i:=0) (e0:=e0) (e1:=e1) (e2:=e2) h.toTrB rfl (by omega) c hc (by omega)
 have l1:(c++A c.length).length<2^30:=by rw[Wb,h.ln]; omega
 have z2:=qbW (vs:=vs) (e0:=e0) (e1:=e1) (e2:=e2) (c++A c.length) l1 13 0
 rw[qux] at z2
 simp only[E.node,qeU,qg3,qg4,qeh,ustr,Wm,if_true,if_false] at z1
 generalize c++A c.length=c1 at *
 generalize c++snC A (13,0) c.length=c2 at *
 refine qaa (pf:=F167) rfl rfl ?_
 simp[F167,z1,z2,ustr,Wa]
theorem qpo(f:Bool){a:E}{A:Int->Cd}{L:Nat}(h:TrOK vs a.node A L){e0 e1 e2:Int}(hl:4*L<2^30):Z qae (.call 167 [.ptr 0 0,(E.un f true a).node] (qdS vs e0 e1 e2))=some (.ret (.tup []) (qg5 vs e0 e1 e2 (snC A (13,0) 0))):=by
 have hp:=h.pos
 have z1:Z qae (.call 165 [.ptr 0 0,(E.un f true a).node,.int 0] (qdS vs e0 e1 e2))=_:=qmU (f:=f) (N:=1) (i:=0) (e0:=e0) (e1:=e1) (e2:=e2) h rfl (by omega) (by omega)
 have l1:(A 0).length<2^30:=by rw[h.ln]; omega
 have z2:=qbW (vs:=vs) (e0:=e0) (e1:=e1) (e2:=e2) (A 0) l1 13 0
 rw[show A 0++[((13:Int),(0:Int))]=snC A (13,0) 0 from rfl] at z2
 simp only[E.node,qeU,qg3,qg4,qeh,ustr,Wm,if_true,if_false] at z1
 generalize A 0=c1 at *
 generalize snC A (13,0) 0=c2 at *
 refine qaa (pf:=F167) rfl rfl ?_
 simp[F167,z1,z2,ustr,Wa]
theorem qnM(f:Bool){a:E}{A:Int->Cd}{L:Nat}(h:TrOK vs a.node A L):TrOK vs (E.un f true a).node (snC A (13,0)) (L+1) where
 ln:=qbv h.ln
 pos:=by omega
 one:=fun e0 e1 e2 c hc hl=>by
  have z:=qpn f h (e0:=e0) (e1:=e1) (e2:=e2) c hc (by omega)
  simp only[E.node,qeU,qg3,qg4,qeh,ustr,Wm,if_true,if_false] at z
  generalize c++snC A (13,0) c.length=c2 at *
  refine qaa (pf:=F147) rfl rfl ?_
  simp[F147,z,ustr,Wa]
 zero:=fun e0 e1 e2 hl=>by
  have z:=qpo f h (e0:=e0) (e1:=e1) (e2:=e2) (by omega)
  simp only[E.node,qeU,qg3,qg4,qeh,ustr,Wm,if_true,if_false] at z
  generalize snC A (13,0) 0=c2 at *
  refine qaa (pf:=F147) rfl rfl ?_
  simp[F147,z,ustr,Wa]
theorem qnN(f:Bool){a:E}{A:Int->Cd}{L:Nat}(h:TrOK vs a.node A L){e0 e1 e2:Int}(c:Cd)(hc:c≠[])(hl:c.length+4*L<2^30):Z qae (.call 167 [.ptr 0 0,(E.un f false a).node] (qce vs e0 e1 e2 c))=some (.ret (.tup []) (qce vs e0 e1 e2 (c++snC A (17,0) c.length))):=by
 have hp:=h.pos
 have z1:Z qae (.call 165 [.ptr 0 0,(E.un f false a).node,.int 0] (qce vs e0 e1 e2 c))=_:=qfA (f:=f) (N:=1) (i:=0) (e0:=e0) (e1:=e1) (e2:=e2) h.toTrB rfl (by omega) c hc (by omega)
 have l1:(c++A c.length).length<2^30:=by rw[Wb,h.ln]; omega
 have z2:=qbW (vs:=vs) (e0:=e0) (e1:=e1) (e2:=e2) (c++A c.length) l1 17 0
 rw[qux] at z2
 simp only[E.node,qeU,qg3,qg4,qeh,ustr,Wm,if_true,if_false] at z1
 generalize c++A c.length=c1 at *
 generalize c++snC A (17,0) c.length=c2 at *
 refine qaa (pf:=F167) rfl rfl ?_
 simp[F167,z1,z2,ustr,Wa]
theorem qnO(f:Bool){a:E}{A:Int->Cd}{L:Nat}(h:TrOK vs a.node A L){e0 e1 e2:Int}(hl:4*L<2^30):Z qae (.call 167 [.ptr 0 0,(E.un f false a).node] (qdS vs e0 e1 e2))=some (.ret (.tup []) (qg5 vs e0 e1 e2 (snC A (17,0) 0))):=by
 have hp:=h.pos
 have z1:Z qae (.call 165 [.ptr 0 0,(E.un f false a).node,.int 0] (qdS vs e0 e1 e2))=_:=qmU (f:=f) (N:=1) (i:=0) (e0:=e0) (e1:=e1) (e2:=e2) h rfl (by omega) (by omega)
 have l1:(A 0).length<2^30:=by rw[h.ln]; omega
 have z2:=qbW (vs:=vs) (e0:=e0) (e1:=e1) (e2:=e2) (A 0) l1 17 0
 rw[show A 0++[((17:Int),(0:Int))]=snC A (17,0) 0 from rfl] at z2
 simp only[E.node,qeU,qg3,qg4,qeh,ustr,Wm,if_true,if_false] at z1
 generalize A 0=c1 at *
 generalize snC A (17,0) 0=c2 at *
 refine qaa (pf:=F167) rfl rfl ?_
 simp[F167,z1,z2,ustr,Wa]
theorem qlP(f:Bool){a:E}{A:Int->Cd}{L:Nat}(h:TrOK vs a.node A L):TrOK vs (E.un f false a).node (snC A (17,0)) (L+1) where
 ln:=qbv h.ln
 pos:=by omega
 one:=fun e0 e1 e2 c hc hl=>by
  have z:=qnN f h (e0:=e0) (e1:=e1) (e2:=e2) c hc (by omega)
  simp only[E.node,qeU,qg3,qg4,qeh,ustr,Wm,if_true,if_false] at z
  generalize c++snC A (17,0) c.length=c2 at *
  refine qaa (pf:=F147) rfl rfl ?_
  simp[F147,z,ustr,Wa]
 zero:=fun e0 e1 e2 hl=>by
  have z:=qnO f h (e0:=e0) (e1:=e1) (e2:=e2) (by omega)
  simp only[E.node,qeU,qg3,qg4,qeh,ustr,Wm,if_true,if_false] at z
  generalize snC A (17,0) 0=c2 at *
  refine qaa (pf:=F147) rfl rfl ?_
  simp[F147,z,ustr,Wa]
end
end
end Go.Pm
