/- Chapter 35's law: what it does with a script, whatever was changed in it. -/
import Derived.Test.YtmigbfimahjacaaGreatDoorPmAL
import Derived.Test.YtmigbfimahjacaaGreatDoorPmDk
import Derived.Test.YtmigbfimahjacaaGreatDoorPmHp1
import Derived.Test.YtmigbfimahjacaaGreatDoorPmKb
set_option linter.unusedSimpArgs false
set_option linter.unusedVariables false
set_option maxHeartbeats 4000000
namespace Go.Pm
section
open F
set_option maxRecDepth 100000
attribute [local simp] V.len qai
def F359_r2:PC := .seq (rn [la 104 23 9,cl 105 364 [104],cl 106 363 [105],mv 103 106,ex 107 103 0,ex 108 103 1,mv 10 107,mv 11 108] [9,10,11]) (.seq (.seq (rn [mv 109 10,jj 110 (.isnil true true (.t 109)),mv 111 11,bk 112 .eql 111 0,jj 113 (.eqb true (.t 110) (.t 112))] [9,11,113]) (.cond (.t 113) (.seq (rn [mx 8 kF] [8]) (.ret)) (.skip))) (.seq (rn [fa 114 0 9,la 115 16 114,cl 116 365 [115],mv 12 116] [9,11,12]) (.seq (.seq (rn [mv 117 12,bk 118 .neq 117 0] [9,11,12,118]) (.cond (.t 118) (.seq (rn [mv 119 11,mv 120 12,bn 121 .eql 119 120,mv 122 121,jt 123 122 (.call 366 []),jj 124 (.pick (.t 122) (.t 123) kF),mv 8 124] [8]) (.ret)) (.skip))) (.seq (.seq (rn [la 125 23 9,cl 126 367 [125],jj 127 (.un .not (.t 126))] [11,127]) (.cond (.t 127) (.seq (rn [mv 128 11,bk 129 .eql 128 1,mv 130 129,jt 131 130 (.call 366 []),jj 132 (.pick (.t 130) (.t 131) kF),mv 8 132] [8]) (.ret)) (.skip))) (.seq (rn [mv 133 11,bk 134 .eql 133 0,mv 135 134,jt 136 135 (.call 366 []),jj 137 (.pick (.t 135) (.t 136) kF),mv 8 137] [8]) (.ret))))))
def F359_r1:PC := .seq (.seq (rn [mv 15 1,jj 16 (.call 17 [(.t 15),(kk 12)])] [2,7,9,16]) (.block 0 (.seq (rn [bk 20 .eql 16 0,mv 19 20] [2,7,9,16,19]) (.cond (.t 19) (rn [mv 21 2,fa 22 0 9,fa 23 14 22,st 1 23 21] [9]) (.seq (rn [bk 25 .eql 16 1,mv 24 25] [2,7,9,16,24]) (.cond (.t 24) (rn [fa 26 16 9,l1 27 26,jj 28 (.bsliceO 1 1 [eN] [(0,1,(.c (.string ⟨#[]⟩)))]),jj 29 (.appendO 1 16 (.t 27) (.t 28)),fa 30 16 9,st 1 30 29] [9]) (.seq (rn [bk 32 .eql 16 2,mv 31 32] [2,7,9,16,31]) (.cond (.t 31) (rn [fa 33 18 9,l1 34 33,jj 35 (.build [zN,zN,zN,zN] []),jj 36 (.bsliceO 1 4 [zN,zN,zN,zN] [(0,4,(.t 35))]),jj 37 (.appendO 4 32 (.t 34) (.t 36)),fa 38 18 9,st 1 38 37] [9]) (.seq (rn [bk 40 .eql 16 3,mv 39 40] [2,7,9,16,39]) (.cond (.t 39) (rn [fa 41 18 9,l1 42 41,mv 43 2,jj 44 (.indexAddr 4 (.t 42) (kk 0)),fa 45 0 44,st 1 45 43] [9]) (.seq (rn [bk 47 .eql 16 4,mv 46 47] [2,7,9,16,46]) (.cond (.t 46) (rn [fa 48 18 9,l1 49 48,mv 50 2,jj 51 (.indexAddr 4 (.t 49) (kk 0)),fa 52 1 51,st 1 52 50] [9]) (.seq (rn [bk 54 .eql 16 5,mv 53 54] [2,7,9,16,53]) (.cond (.t 53) (rn [fa 55 18 9,l1 56 55,mv 57 2,jj 58 (.indexAddr 4 (.t 56) (kk 0)),fa 59 2 58,st 1 59 57] [9]) (.seq (rn [bk 61 .eql 16 6,mv 60 61] [2,7,9,16,60]) (.cond (.t 60) (rn [fa 62 18 9,l1 63 62,mv 64 2,jj 65 (.indexAddr 4 (.t 63) (kk 0)),fa 66 3 65,st 1 66 64] [9]) (.seq (rn [bk 68 .eql 16 7,mv 67 68] [2,7,9,16,67]) (.cond (.t 67) (rn [fa 69 19 9,l1 70 69,mv 71 2,la 72 3 7,jj 73 (.build [zN,zN,zN,zN,zN] [(0,1,(.t 71)),(2,3,(.t 72))]),jj 74 (.bsliceO 1 5 [zN,zN,zN,zN,zN] [(0,5,(.t 73))]),jj 75 (.appendO 5 40 (.t 70) (.t 74)),fa 76 19 9,st 1 76 75] [9]) (.seq (rn [bk 78 .eql 16 8,mv 77 78] [2,7,9,16,77]) (.cond (.t 77) (rn [fa 79 19 9,l1 80 79,mv 81 2,la 82 3 7,jj 83 (.build [zN,zN,zN,zN,zN] [(1,1,(.t 81)),(2,3,(.t 82))]),jj 84 (.bsliceO 1 5 [zN,zN,zN,zN,zN] [(0,5,(.t 83))]),jj 85 (.appendO 5 40 (.t 80) (.t 84)),fa 86 19 9,st 1 86 85] [9]) (.seq (rn [bk 88 .eql 16 9,mv 87 88] [2,9,16,87]) (.cond (.t 87) (rn [fa 89 20 9,l1 90 89,mv 91 2,jj 92 (.bsliceO 1 1 [zN] [(0,1,(.t 91))]),jj 93 (.appendO 1 8 (.t 90) (.t 92)),fa 94 20 9,st 1 94 93] [9]) (.seq (rn [bk 96 .eql 16 10,mv 95 96] [2,9,95]) (.cond (.t 95) (rn [fa 97 21 9,l1 98 97,mv 99 2,jj 100 (.bsliceO 1 1 [zN] [(0,1,(.t 99))]),jj 101 (.appendO 1 8 (.t 98) (.t 100)),fa 102 21 9,st 1 102 101] [9]) (rn [mv 17 2,fa 18 22 9,st 1 18 17] [9]))))))))))))))))))))))))) (F359_r2)
theorem F359_t:F359=⟨4,[.tmp 8],.seq (rn [bx 7 3,mx 8 kF] [0,1,2,7]) (.seq (rn [mv 13 0,cl 14 362 [13],jj 9 (.alloc [zN,sN,zN,zN,zN,zN,sN,sN,zN,zN,zN,zN,zN,zN,zN,zN,sN,sN,sN,sN,sN,sN,zN]),st 23 9 14] [1,2,7,9]) (F359_r1)),false,false,false,false⟩:=rfl
theorem qqi:Z prX (.call 366 [] [])=some (.ret (.bool true) []):=qt7
structure NewOk(s:Scr)(u:Sup)(f:Flg):Prop where
 over:s.over u f
 gen:f=genF
 com:s.com.length<=19
 lnk:1<=s.lnk.length
 book:s.fits=true->(∃ a,a<5/\s.src=[[srcD a]]/\s.pat=[]) \/ ∃ a b,∃ t:Int,a<5/\b<5/\1<=t/\t<=10/\s.src=[[srcD a],[srcD b]]/\s.pat=[t]
theorem qwA {s:Scr} {r:Rws} {u:Sup} {f:Flg} (h:s.Is r) (g:NewOk s u f) (σ : S) : ∃ v e σ',qaE (Z prX) (Task.call 363) [.dat (.agg (s.c r))] σ = some (.tup [v,.int e],σ ++ σ') /\
  ((v=qjj/\e=11 /\ ¬ (1<=u.rnd/\u.rnd<=4))\/(v=qjj/\e=1/\(1<=u.rnd/\u.rnd<=4)/\(s.fits&&s.rng)=false)\/(∃ l,v = .ptr l 0)/\e=0/\(1<=u.rnd/\u.rnd<=4)/\(s.fits&&s.rng)=true):=by
 by_cases hr:1<=u.rnd/\u.rnd<=4
 ·cases hb:s.fits&&s.rng with
  |false=>
   refine⟨qjj,1,[],?_,.inr (.inl ⟨rfl,rfl,hr,rfl⟩)⟩
   have:=qcn (C:=Z prX) (mk:=Task.call 363) (ds:=[.agg (s.c r)]) (σ := σ) (qrU h g.over hr hb) (by intro u hu; cases hu)
   simpa [shift,V.ren,qbl,qjj] using this
  |true=>
   have hf:s.fits=true:=by cases e:s.fits<;>simp_all
   have hB : ∃ K,∀ r',({ s with S:=u.c (Flg.cl u) }:Scr).Is r'->Z prX (.call 376 [.dat (.agg (({ s with S:=u.c (Flg.cl u) }:Scr).c r'))] [])=some (.ret (.tup [.dat (.imm K 0),.int 0]) []):=by
    rcases g.book hf with ⟨a,a1,a2,a3⟩|⟨a,b,t,a1,b1,t1,t2,a2,a3⟩
    ·exact⟨_,fun r' h'=>qrC h' a1 a2 a3⟩
    ·exact⟨_,fun r' h'=>qrD h' a1 b1 t1 a2 a3⟩
   obtain⟨K,hB⟩:=hB
   obtain⟨r',pls,lks,l,τ,_,_,_,_,_,hz,_,_⟩:=qwu h g.over hr hb g.com hB
   refine⟨.ptr (σ.length+l) 0,0,shift σ.length τ,?_,.inr (.inr ⟨⟨_,rfl⟩,rfl,hr,rfl⟩)⟩
   have:=qcn (C:=Z prX) (mk:=Task.call 363) (ds:=[.agg (s.c r)]) (σ := σ) hz (by intro u hu; cases hu)
   simpa [V.ren,qbl,up_] using this
 ·refine⟨qjj,11,[],?_,.inl ⟨rfl,rfl,hr⟩⟩
  have:=qcn (C:=Z prX) (mk:=Task.call 363) (ds:=[.agg (s.c r)]) (σ := σ) (qrT h g.over hr) (by intro u hu; cases hu)
  simpa [shift,V.ren,qbl,qjj] using this
theorem RdV.more{σ τ : S}{v:V}{d:D}(h:RdV σ v d):RdV (σ ++ τ) v d:=by
 rcases h with rfl|⟨l,n,sz,ds,rfl,rfl,hl,h|h⟩
 ·exact .inl rfl
 ·exact .inr ⟨l,n,sz,ds,rfl,rfl,hl,.inl (qbj h τ)⟩
 ·exact .inr ⟨l,n,sz,ds,rfl,rfl,hl,.inr (qbj h τ)⟩
theorem RdL.more{σ τ : S} : ∀ {vs:List V} {ds:List D},RdL σ vs ds->RdL (σ ++ τ) vs ds
 |[],ds,h=>h
 |v::vs,ds,h=>by
  obtain⟨d,r,rfl,h1,h2⟩:=h
  exact⟨d,r,rfl,h1.more,RdL.more h2⟩
theorem Is.ones{s:Scr}{r:Rws}(h:s.Is r) : ∀ d∈s.c r,V.one (.dat d)=true:=fun d hd=>h.rd.2 _ (List.mem_map_of_mem hd)
theorem qr3 {s:Scr} {r:Rws} {u:Sup} {σ : S} {l:Nat} {B:List V} (h:s.Is r) (g:NewOk s u genF) (gl : σ[l]?=some (.cells (s.S.map .dat++B))) (hr:RdL σ (s.S.map .dat++B) (s.c r)) :
  ∃ σ',run (Z prX) 0 F359_r2 [(9,.ptr l 0)] σ = some (.ret,[(8,.bool true)],σ'):=by
 obtain⟨cs,hcs⟩ : ∃ cs,cs=s.S.map V.dat++B:=⟨_,rfl⟩
 rw[<- hcs] at gl hr
 have h16:(s.S.map V.dat).length=16:=by simp[h.S16]
 have hlen:cs.length=23:=by rw[<- hr.len]; simp[Scr.c,h.S16]
 have hcc:qad cs 0 23=some cs:=by unfold qad; rw[WE,Wl (by omega)]; simp[hlen]
 have hc16:qad cs 0 16=some (s.S.map V.dat):=by
  rw[hcs,qbw (by omega)]
  unfold qad; rw[WE,Wl (by omega)]; simp[h16]
 have hag:qc6 (s.S.map V.dat) = .dat (.agg s.S):=by simp[qc6,qaL]
 obtain⟨r',h',cz⟩:=qw6 h g.lnk
 obtain⟨σ1,a1,f1⟩:=qnp (f:=364) hr (by omega)
 have b1:=qbz (C:=Z prX) (mk:=Task.call 364) (ds:=[.agg (s.c r)]) (σ := σ1) cz
 obtain⟨v,e,σ2,b2,hv⟩:=qwA h' g σ1
 have gl1:=f1.2.2 _ _ gl
 have gl2:=qbj gl1 σ2
 have hr2:=(hr.fz f1).more (τ := σ2)
 obtain⟨σ3,a3,f3⟩:=qnp (f:=367) hr2 (by omega)
 have hS:s.S=u.c genF:=g.over.2.1
 have b3:=fun σ => qbz (C:=Z prX) (mk:=Task.call 365) (ds:=[.agg (u.c genF)]) (σ := σ) (qsv g.over.1)
 have b4:=fun σ => qbz (C:=Z prX) (mk:=Task.call 367) (ds:=[.agg (s.c r)]) (σ := σ) (quG h)
 have b5:=fun σ => qbz (C:=Z prX) (mk:=Task.call 366) (ds:=[]) (σ := σ) qqi
 have y1 : ∀ f d (σ : S),qbT f [.dat d] σ = ([.dat d],σ):=fun f d σ=>by unfold qbT; split<;>rfl
 have y2 : ∀ f (σ : S),qbT f [] σ = ([],σ):=fun f σ=>by unfold qbT; split<;>rfl
 rw[hS] at hc16 hag
 simp only[Wi,Wr] at b1 b3 b4 b5
 clear hcs hr hr2 f1 f3 h' cz
 generalize σ1 ++ σ2 = σ4 at *
 generalize u.c genF=G at *
 generalize s.c r=C at *
 generalize s.c r'=C' at *
 generalize G.map V.dat=GV at *
 unfold qsq at b3
 rcases hv with ⟨rfl,rfl,hv⟩|⟨rfl,rfl,hv,hw⟩|⟨⟨l',rfl⟩,rfl,hv,hw⟩
 ·rw[if_neg hv] at b3
  refine⟨σ4,?_⟩
  simp -implicitDefEqProofs [F359_r2,gl,hcc,a1,b1,b2,gl2,hc16,hag,b3,b4,b5,y1,y2,Wa,-qbT,-qc6,-qaE]
 ·rw[if_pos hv] at b3
  rw[hw] at b4
  refine⟨σ3,?_⟩
  simp -implicitDefEqProofs [F359_r2,gl,hcc,a1,b1,b2,gl2,hc16,hag,a3,b3,b4,b5,y1,y2,Wa,-qbT,-qc6,-qaE]
 ·rw[if_pos hv] at b3
  rw[hw] at b4
  refine⟨σ3,?_⟩
  simp -implicitDefEqProofs [F359_r2,gl,hcc,a1,b1,b2,gl2,hc16,hag,a3,b3,b4,b5,y1,y2,Wa,-qbT,-qc6,-qaE]
end
section
open F
set_option maxRecDepth 100000
attribute [local simp] V.len qai
section
variable{σ : S}{l:Nat}{v v1 v2 v3 v4 v5 v6:V}{ps:List (HV × V)}
theorem qjq (hσ : Cl σ) {sz bytes:Nat} {ls:List (List D)} (ho:Own σ [l,0] ((qaM sz ls,v)::ps)) (hr : ∀ y∈ls,y.length=sz) (hb:qaA (ls.length+1) bytes=true) (h0:0<sz) {x:List D} (hx:x.length=sz) (hone : ∀ d∈x,V.one (.dat d)=true) :
  ∃ lr σ',appendO (σ ++ [.vec (x.map .dat)]) sz bytes v (.own σ.length 1 sz)=some (.own lr (ls.length+1) sz,σ')/\(∀ m∈[l,0],σ'[m]? = σ[m]?)/\Own σ' [l,0] ((qaM sz (ls++[x]),.own lr (ls.length+1) sz)::ps):=by
 have o1:=qgF ho (.vec (x.map .dat))
 have o2:=qcz (as:=[_]) o1 x
 have hlo:=qo1 ho
 obtain⟨lr,σ',a1,o3,c1,n1,f1⟩:=qbQ (bytes:=bytes) (x := .own σ.length 1 sz) (xs:=x.map .dat) (hx:=x.map .dat) o2 (qdR hr) (by simp) (by simp[qor,hx]) (by simp[hx]) h0 (Ws.2 fun v hv=>by
  obtain⟨d,hd,rfl⟩:=Wm.1 hv
  exact hone d hd) hb (qjr hσ fun m hm=>by simp only[Ob.locs,qa1] at hm; cases hm) (fun m hm=>by rw[qa1] at hm; cases hm)
 rw[<- qc0] at o3
 exact⟨lr,σ',a1,fun m hm=>(f1 m (WH _ hm)).trans (Wo (hlo m hm)),qfD o3⟩
theorem qnL {x:List D} {ys:List (List D)} (ho:Own σ [l,0] ((qaM 4 (x::ys),v)::ps)) (hr : ∀ y∈x::ys,y.length=4) :
  ∃ lr,v = .own lr (ys.length+1) 4 /\ σ[lr]?=some (.vec (x.map .dat++ys.flatten.map .dat))/\lr≠l/\lr≠0 /\ ∀ y:List D,y.length=4->Own (σ.set lr (.vec (y.map .dat++ys.flatten.map .dat))) [l,0] ((qaM 4 (y::ys),v)::ps):=by
 have e : ∀ y,qaM 4 (y::ys) = .nd (.own 0 (ys.length+1) 4) (.vec ((y++ys.flatten).map .dat)):=fun y=>by
  unfold qaM qch
  rw[if_neg (by simp)]
  simp
 rw[e] at ho
 obtain⟨lr,vs,rfl,g,hl,o⟩:=qdC ho
 obtain⟨ev,o2⟩:=qcV (by simpa only [Wf] using hl) o
 subst ev
 have hnd:=qbS o2
 have hlt:=(Wb.1 g).1
 refine⟨lr,rfl,by rw[g,List.map_append],fun e=>by simp[e] at hnd,fun e=>by simp[e] at hnd,fun y hy=>?_⟩
 rw[e,<- List.map_append]
 exact qcm (w := .own 0 (ys.length+1) 4) (hs:=(y++ys.flatten).map .dat) (qbJ (qbi o2 (by simp) _) _) rfl (by simp only[Wf]) (qaN hlt _)
theorem qg9 {os:List Nat} {s:Scr} (ho:Own σ os [(qaM 1 s.src,v1),(qaM 1 (s.pat.map qbm),v2),(qaM 4 (s.lnk.map Lnk.c),v3),(qaM 5 (s.com.map Cmd.c),v4),(qaM 1 (s.cra.map qbm),v5),(qaM 1 (s.wat.map qbm),v6)])
  (hs : ∀ y∈s.src,y.length=1) (l1:s.src.length<=100) (l2:s.pat.length<=100) (l3:s.lnk.length<=100) (l4:s.com.length<=100) (l5:s.cra.length<=100) (l6:s.wat.length<=100)
  (S16:s.S.length=16) (S0:qad s.S 0 1=some [di s.n]) (S1 : ∀ d∈s.S,V.one (.dat d)=true) :
  ∃ r,s.Is r/\RdL σ (s.S.map .dat++[v1,v2,v3,v4,v5,v6,.int s.wait]) (s.c r):=by
 have k1 : ∀ (ls:List Int),∀ y∈ls.map qbm,y.length=1:=fun ls y hy=>by obtain⟨a,_,rfl⟩:=Wm.1 hy; rfl
 have k4 : ∀ y∈s.lnk.map Lnk.c,y.length=4:=fun y hy=>by obtain⟨a,_,rfl⟩:=Wm.1 hy; rfl
 have k5 : ∀ y∈s.com.map Cmd.c,y.length=5:=fun y hy=>by obtain⟨a,_,rfl⟩:=Wm.1 hy; rfl
 refine⟨⟨qfi 1 s.src,qfi 1 (s.pat.map qbm),qfi 4 (s.lnk.map Lnk.c),qfi 5 (s.com.map Cmd.c),qfi 1 (s.cra.map qbm),qfi 1 (s.wat.map qbm)⟩,
  ⟨qcI hs,qcI (k1 _),qcI k4,qcI k5,qcI (k1 _),qcI (k1 _),l1,l2,l3,l4,l5,l6,S16,S0,S1⟩,?_⟩
 refine (RdL.dats σ s.S).app ?_
 have o2:=qd1 ho
 have o3:=qd1 o2
 have o4:=qd1 o3
 have o5:=qd1 o4
 have o6:=qd1 o5
 exact⟨_,_,rfl,qji ho hs,_,_,rfl,qji o2 (k1 _),_,_,rfl,qji o3 k4,_,_,rfl,qji o4 k5,_,_,rfl,qji o5 (k1 _),_,_,rfl,qji o6 (k1 _),_,_,rfl,.inl rfl,rfl⟩
end
structure Sw(σ : S)(l:Nat)(s:Scr)(u:Sup)(v1 v2 v3 v4 v5 v6:V)(a b c:Int):Prop where
 gen:s.Gen u
 cl:Cl σ
 own:Own σ [l,0] [(qaM 1 s.src,v1),(qaM 1 (s.pat.map qbm),v2),(qaM 4 (s.lnk.map Lnk.c),v3),(qaM 5 (s.com.map Cmd.c),v4),(qaM 1 (s.cra.map qbm),v5),(qaM 1 (s.wat.map qbm),v6)]
 gl : σ[l]?=some (.cells (s.S.map .dat++[v1,v2,v3,v4,v5,v6,.int s.wait]))
 g0 : σ[0]?=some (.cells [.int a,.int b,.int c])
def qoH(σ : S)(l:Nat)(how k:Int):Prop := ∃ (s':Scr) (r':Rws) (u':Sup) (σ':S) (B:List V),s'.Is r'/\NewOk s' u' genF /\ σ'[l]?=some (.cells (s'.S.map .dat++B))/\RdL σ' (s'.S.map .dat++B) (s'.c r') /\
 run (Z prX) 0 F359_r1 [(1,.int how),(2,.int k),(7,.ptr 0 0),(9,.ptr l 0)] σ = run (Z prX) 0 F359_r2 [(9,.ptr l 0)] σ'
section
variable{σ : S}{l:Nat}{s:Scr}{u:Sup}{v1 v2 v3 v4 v5 v6:V}{a b c how k:Int}
theorem Sw.sl(h:Sw σ l s u v1 v2 v3 v4 v5 v6 a b c):s.S.length=16/\qad s.S 0 1=some [di s.n] /\ ∀ d∈s.S,V.one (.dat d)=true:=by
 refine⟨by rw[h.gen.S]; rfl,by rw[h.gen.S,h.gen.n]; rfl,fun d hd=>?_⟩
 rw[h.gen.S] at hd
 simp only[Sup.c,Wq,WD,or_false] at hd
 rcases hd with rfl|rfl|rfl|rfl|rfl|rfl|rfl|rfl|rfl|rfl|rfl|rfl|rfl|rfl|rfl|rfl<;>rfl
theorem Sw.small(h:Sw σ l s u v1 v2 v3 v4 v5 v6 a b c):(∀ y∈s.src,y.length=1)/\s.src.length<=2/\s.pat.length<=1/\s.lnk.length<=3/\1<=s.lnk.length:=by
 have h1:=h.gen.lnk.1
 have h2:=h.gen.uok.n1
 have h3:=h.gen.uok.n3
 rcases h.gen.src with ⟨x,_,e1,e2⟩|⟨x,y,t,_,_,_,_,e1,e2⟩
 ·rw[e1,e2]
  exact⟨fun y hy=>by simp at hy; rw[hy]; rfl,by simp,by simp,by omega,by omega⟩
 ·rw[e1,e2]
  exact⟨fun y hy=>by simp at hy; rcases hy with rfl|rfl<;>rfl,by simp,by simp,by omega,by omega⟩
theorem Sw.book(h:Sw σ l s u v1 v2 v3 v4 v5 v6 a b c):(∃ a,a<5/\s.src=[[srcD a]]/\s.pat=[]) \/ ∃ a b,∃ t:Int,a<5/\b<5/\1<=t/\t<=10/\s.src=[[srcD a],[srcD b]]/\s.pat=[t]:=h.gen.src
theorem qoI{n b:Nat}(h1:n<=20)(h2:b<=100):qaA n b=true:=by
 unfold qaA
 have:(2*n+192)*(b+1)<=(2*20+192)*(100+1):=Nat.mul_le_mul (by omega) (by omega)
 exact decide_eq_true (by omega)
theorem sw1(h:Sw σ l s u v1 v2 v3 v4 v5 v6 a b c)(hj : ∀ σ,qaE (Z prX) (Task.call 17) [.int how,.int 12] σ = some (.int 1,σ)):qoH σ l how k:=by
 have hl:l < σ.length:=(Wb.1 h.gl).1
 have hl0 : ¬ l=0:=fun e=>by have:=qbS h.own; simp[e] at this
 obtain⟨S16,S0,S1⟩:=h.sl
 obtain⟨ss,n1,n2,n3,n3'⟩:=h.small
 have n4:=h.gen.com.1
 have n5:=h.gen.cra.1
 have n6:=h.gen.wat.1
 have gl:=h.gl
 have g0:=h.g0
 have pre:=qa4 (qas s.S) (m:=16) (by simp[S16])
 have q:=fun B=>pre.c B 0 1
 have tk:=fun B=>pre.t B 0
 have dr:=fun B=>pre.d B 1
 simp only[show 16+0=16 from rfl,show 16+1=17 from rfl] at q tk dr
 have hAl:(s.S.map V.dat).length=16:=by simp[S16]
 have hm : ∀ y∈s.src,y.length=1:=ss
 have o1:=qaT (as:=[]) h.own
 obtain⟨lr,σ1,a1,f1,o2⟩:=qjq (bytes:=16) h.cl o1 hm (qoI (by simp; omega) (by omega)) (by omega) (x:=[.lit (.string ⟨#[]⟩)]) rfl (fun d hd=>by simp[Cmd.c,Lnk.c,qbm,di] at hd; first | (rw[hd]; rfl) | (rcases hd with rfl|rfl|rfl|rfl|rfl<;>rfl) | (rcases hd with rfl|rfl<;>rfl) | (rcases hd with rfl|rfl|rfl|rfl<;>rfl))
 have gl1:=(f1 l (by simp)).trans gl
 have hl1:l < σ1.length:=(Wb.1 gl1).1
 have o3:=qbn (as:=[]) (qbi o2 (by simp:l∈[l,0]) (.cells (s.S.map .dat++[.own lr ((s.src).length+1) 1,v2,v3,v4,v5,v6,.int s.wait])))
 obtain⟨r,hr1,hr2⟩:=qg9 (s:={ s with src:=s.src++[[.lit (.string ⟨#[]⟩)]] }) o3  (fun y hy=>by rcases We.1 hy with hy|hy<;>first|exact ss y hy | (simp at hy; rw[hy]; rfl)) (by dsimp only; simp; omega) (by dsimp only; omega) (by dsimp only; omega) (by dsimp only; omega) (by dsimp only; omega) (by dsimp only; omega) S16 S0 S1
 refine⟨_,r,u,_,_,hr1,⟨⟨h.gen.uok,h.gen.S,h.gen.n⟩,rfl,by dsimp only; omega,by dsimp only; omega,fun hf=>by
  exfalso
  rcases h.gen.src with ⟨x,_,e1,e2⟩|⟨x,y,t,_,_,_,_,e1,e2⟩<;>simp[Scr.fits,e1,e2] at hf⟩,qaN hl1 _,hr2,?_⟩
 simp only[Wf,Cmd.c,Lnk.c,qbm,di,Wi,Wr] at a1
 clear h o1 o2 o3 hr1 hr2 S0 S1 ss hm f1
 simp only[Wf]
 generalize s.S.map V.dat=A at *
 generalize s.src.length+1=N1 at *
 have gx : ∀ X:S,(σ ++ X)[l]?=some (.cells (A++[v1,v2,v3,v4,v5,v6,.int s.wait])):=fun X=>qbj gl X
 have gx0 : ∀ X:S,(σ ++ X)[0]?=some (.cells [.int a,.int b,.int c]):=fun X=>qbj g0 X
 simp -implicitDefEqProofs [F359_r1,hj,gl,g0,gx,gx0,gl1,q,tk,dr,hAl,a1,Wa,-appendO,-qaE]
theorem sw2(h:Sw σ l s u v1 v2 v3 v4 v5 v6 a b c)(hj : ∀ σ,qaE (Z prX) (Task.call 17) [.int how,.int 12] σ = some (.int 2,σ)):qoH σ l how k:=by
 have hl:l < σ.length:=(Wb.1 h.gl).1
 have hl0 : ¬ l=0:=fun e=>by have:=qbS h.own; simp[e] at this
 obtain⟨S16,S0,S1⟩:=h.sl
 obtain⟨ss,n1,n2,n3,n3'⟩:=h.small
 have n4:=h.gen.com.1
 have n5:=h.gen.cra.1
 have n6:=h.gen.wat.1
 have gl:=h.gl
 have g0:=h.g0
 have pre:=qa4 (qas s.S) (m:=16) (by simp[S16])
 have q:=fun B=>pre.c B 2 1
 have tk:=fun B=>pre.t B 2
 have dr:=fun B=>pre.d B 3
 simp only[show 16+2=18 from rfl,show 16+3=19 from rfl] at q tk dr
 have hAl:(s.S.map V.dat).length=16:=by simp[S16]
 have hm : ∀ y∈s.lnk.map Lnk.c,y.length=4:=fun y hy=>by obtain⟨a,_,rfl⟩:=Wm.1 hy; rfl
 have o1:=qaT (as:=[_,_]) h.own
 obtain⟨lr,σ1,a1,f1,o2⟩:=qjq (bytes:=32) h.cl o1 hm (qoI (by simp; omega) (by omega)) (by omega) (x:=Lnk.c ⟨0,0,0,0⟩) rfl (fun d hd=>by simp[Cmd.c,Lnk.c,qbm,di] at hd; first | (rw[hd]; rfl) | (rcases hd with rfl|rfl|rfl|rfl|rfl<;>rfl) | (rcases hd with rfl|rfl<;>rfl) | (rcases hd with rfl|rfl|rfl|rfl<;>rfl))
 have gl1:=(f1 l (by simp)).trans gl
 have hl1:l < σ1.length:=(Wb.1 gl1).1
 have o3:=qbn (as:=[_,_]) (qbi o2 (by simp:l∈[l,0]) (.cells (s.S.map .dat++[v1,v2,.own lr ((s.lnk.map Lnk.c).length+1) 4,v4,v5,v6,.int s.wait])))
 have em:s.lnk.map Lnk.c++[Lnk.c ⟨0,0,0,0⟩]=(s.lnk++[(⟨0,0,0,0⟩:Lnk)]).map Lnk.c:=by rw[List.map_append]; rfl
 rw[em] at o3
 obtain⟨r,hr1,hr2⟩:=qg9 (s:={ s with lnk:=s.lnk++[(⟨0,0,0,0⟩:Lnk)] }) o3 ss (by dsimp only; omega) (by dsimp only; omega) (by dsimp only; simp; omega) (by dsimp only; omega) (by dsimp only; omega) (by dsimp only; omega) S16 S0 S1
 refine⟨_,r,u,_,_,hr1,⟨⟨h.gen.uok,h.gen.S,h.gen.n⟩,rfl,by dsimp only; omega,by dsimp only; simp,fun _=>h.book⟩,qaN hl1 _,hr2,?_⟩
 simp only[Wf,Cmd.c,Lnk.c,qbm,di,Wi,Wr] at a1
 clear h o1 o2 o3 hr1 hr2 em S0 S1 ss hm f1
 simp only[Wf]
 generalize s.S.map V.dat=A at *
 generalize s.lnk.length+1=N1 at *
 have gx : ∀ X:S,(σ ++ X)[l]?=some (.cells (A++[v1,v2,v3,v4,v5,v6,.int s.wait])):=fun X=>qbj gl X
 have gx0 : ∀ X:S,(σ ++ X)[0]?=some (.cells [.int a,.int b,.int c]):=fun X=>qbj g0 X
 simp -implicitDefEqProofs [F359_r1,hj,gl,g0,gx,gx0,gl1,q,tk,dr,hAl,a1,Wa,-appendO,-qaE]
theorem sw7(h:Sw σ l s u v1 v2 v3 v4 v5 v6 a b c)(hj : ∀ σ,qaE (Z prX) (Task.call 17) [.int how,.int 12] σ = some (.int 7,σ)):qoH σ l how k:=by
 have hl:l < σ.length:=(Wb.1 h.gl).1
 have hl0 : ¬ l=0:=fun e=>by have:=qbS h.own; simp[e] at this
 obtain⟨S16,S0,S1⟩:=h.sl
 obtain⟨ss,n1,n2,n3,n3'⟩:=h.small
 have n4:=h.gen.com.1
 have n5:=h.gen.cra.1
 have n6:=h.gen.wat.1
 have gl:=h.gl
 have g0:=h.g0
 have pre:=qa4 (qas s.S) (m:=16) (by simp[S16])
 have q:=fun B=>pre.c B 3 1
 have tk:=fun B=>pre.t B 3
 have dr:=fun B=>pre.d B 4
 simp only[show 16+3=19 from rfl,show 16+4=20 from rfl] at q tk dr
 have hAl:(s.S.map V.dat).length=16:=by simp[S16]
 have hm : ∀ y∈s.com.map Cmd.c,y.length=5:=fun y hy=>by obtain⟨a,_,rfl⟩:=Wm.1 hy; rfl
 have o1:=qaT (as:=[_,_,_]) h.own
 obtain⟨lr,σ1,a1,f1,o2⟩:=qjq (bytes:=40) h.cl o1 hm (qoI (by simp; omega) (by omega)) (by omega) (x:=Cmd.c ⟨k,0,a,b,c⟩) rfl (fun d hd=>by simp[Cmd.c,Lnk.c,qbm,di] at hd; first | (rw[hd]; rfl) | (rcases hd with rfl|rfl|rfl|rfl|rfl<;>rfl) | (rcases hd with rfl|rfl<;>rfl) | (rcases hd with rfl|rfl|rfl|rfl<;>rfl))
 have gl1:=(f1 l (by simp)).trans gl
 have hl1:l < σ1.length:=(Wb.1 gl1).1
 have o3:=qbn (as:=[_,_,_]) (qbi o2 (by simp:l∈[l,0]) (.cells (s.S.map .dat++[v1,v2,v3,.own lr ((s.com.map Cmd.c).length+1) 5,v5,v6,.int s.wait])))
 have em:s.com.map Cmd.c++[Cmd.c ⟨k,0,a,b,c⟩]=(s.com++[(⟨k,0,a,b,c⟩:Cmd)]).map Cmd.c:=by rw[List.map_append]; rfl
 rw[em] at o3
 obtain⟨r,hr1,hr2⟩:=qg9 (s:={ s with com:=s.com++[(⟨k,0,a,b,c⟩:Cmd)] }) o3 ss (by dsimp only; omega) (by dsimp only; omega) (by dsimp only; omega) (by dsimp only; simp; omega) (by dsimp only; omega) (by dsimp only; omega) S16 S0 S1
 refine⟨_,r,u,_,_,hr1,⟨⟨h.gen.uok,h.gen.S,h.gen.n⟩,rfl,by dsimp only; simp; omega,by dsimp only; omega,fun _=>h.book⟩,qaN hl1 _,hr2,?_⟩
 simp only[Wf,Cmd.c,Lnk.c,qbm,di,Wi,Wr] at a1
 clear h o1 o2 o3 hr1 hr2 em S0 S1 ss hm f1
 simp only[Wf]
 generalize s.S.map V.dat=A at *
 generalize s.com.length+1=N1 at *
 have gx : ∀ X:S,(σ ++ X)[l]?=some (.cells (A++[v1,v2,v3,v4,v5,v6,.int s.wait])):=fun X=>qbj gl X
 have gx0 : ∀ X:S,(σ ++ X)[0]?=some (.cells [.int a,.int b,.int c]):=fun X=>qbj g0 X
 simp -implicitDefEqProofs [F359_r1,hj,gl,g0,gx,gx0,gl1,q,tk,dr,hAl,a1,Wa,-appendO,-qaE]
theorem sw8(h:Sw σ l s u v1 v2 v3 v4 v5 v6 a b c)(hj : ∀ σ,qaE (Z prX) (Task.call 17) [.int how,.int 12] σ = some (.int 8,σ)):qoH σ l how k:=by
 have hl:l < σ.length:=(Wb.1 h.gl).1
 have hl0 : ¬ l=0:=fun e=>by have:=qbS h.own; simp[e] at this
 obtain⟨S16,S0,S1⟩:=h.sl
 obtain⟨ss,n1,n2,n3,n3'⟩:=h.small
 have n4:=h.gen.com.1
 have n5:=h.gen.cra.1
 have n6:=h.gen.wat.1
 have gl:=h.gl
 have g0:=h.g0
 have pre:=qa4 (qas s.S) (m:=16) (by simp[S16])
 have q:=fun B=>pre.c B 3 1
 have tk:=fun B=>pre.t B 3
 have dr:=fun B=>pre.d B 4
 simp only[show 16+3=19 from rfl,show 16+4=20 from rfl] at q tk dr
 have hAl:(s.S.map V.dat).length=16:=by simp[S16]
 have hm : ∀ y∈s.com.map Cmd.c,y.length=5:=fun y hy=>by obtain⟨a,_,rfl⟩:=Wm.1 hy; rfl
 have o1:=qaT (as:=[_,_,_]) h.own
 obtain⟨lr,σ1,a1,f1,o2⟩:=qjq (bytes:=40) h.cl o1 hm (qoI (by simp; omega) (by omega)) (by omega) (x:=Cmd.c ⟨0,k,a,b,c⟩) rfl (fun d hd=>by simp[Cmd.c,Lnk.c,qbm,di] at hd; first | (rw[hd]; rfl) | (rcases hd with rfl|rfl|rfl|rfl|rfl<;>rfl) | (rcases hd with rfl|rfl<;>rfl) | (rcases hd with rfl|rfl|rfl|rfl<;>rfl))
 have gl1:=(f1 l (by simp)).trans gl
 have hl1:l < σ1.length:=(Wb.1 gl1).1
 have o3:=qbn (as:=[_,_,_]) (qbi o2 (by simp:l∈[l,0]) (.cells (s.S.map .dat++[v1,v2,v3,.own lr ((s.com.map Cmd.c).length+1) 5,v5,v6,.int s.wait])))
 have em:s.com.map Cmd.c++[Cmd.c ⟨0,k,a,b,c⟩]=(s.com++[(⟨0,k,a,b,c⟩:Cmd)]).map Cmd.c:=by rw[List.map_append]; rfl
 rw[em] at o3
 obtain⟨r,hr1,hr2⟩:=qg9 (s:={ s with com:=s.com++[(⟨0,k,a,b,c⟩:Cmd)] }) o3 ss (by dsimp only; omega) (by dsimp only; omega) (by dsimp only; omega) (by dsimp only; simp; omega) (by dsimp only; omega) (by dsimp only; omega) S16 S0 S1
 refine⟨_,r,u,_,_,hr1,⟨⟨h.gen.uok,h.gen.S,h.gen.n⟩,rfl,by dsimp only; simp; omega,by dsimp only; omega,fun _=>h.book⟩,qaN hl1 _,hr2,?_⟩
 simp only[Wf,Cmd.c,Lnk.c,qbm,di,Wi,Wr] at a1
 clear h o1 o2 o3 hr1 hr2 em S0 S1 ss hm f1
 simp only[Wf]
 generalize s.S.map V.dat=A at *
 generalize s.com.length+1=N1 at *
 have gx : ∀ X:S,(σ ++ X)[l]?=some (.cells (A++[v1,v2,v3,v4,v5,v6,.int s.wait])):=fun X=>qbj gl X
 have gx0 : ∀ X:S,(σ ++ X)[0]?=some (.cells [.int a,.int b,.int c]):=fun X=>qbj g0 X
 simp -implicitDefEqProofs [F359_r1,hj,gl,g0,gx,gx0,gl1,q,tk,dr,hAl,a1,Wa,-appendO,-qaE]
theorem sw9(h:Sw σ l s u v1 v2 v3 v4 v5 v6 a b c)(hj : ∀ σ,qaE (Z prX) (Task.call 17) [.int how,.int 12] σ = some (.int 9,σ)):qoH σ l how k:=by
 have hl:l < σ.length:=(Wb.1 h.gl).1
 have hl0 : ¬ l=0:=fun e=>by have:=qbS h.own; simp[e] at this
 obtain⟨S16,S0,S1⟩:=h.sl
 obtain⟨ss,n1,n2,n3,n3'⟩:=h.small
 have n4:=h.gen.com.1
 have n5:=h.gen.cra.1
 have n6:=h.gen.wat.1
 have gl:=h.gl
 have g0:=h.g0
 have pre:=qa4 (qas s.S) (m:=16) (by simp[S16])
 have q:=fun B=>pre.c B 4 1
 have tk:=fun B=>pre.t B 4
 have dr:=fun B=>pre.d B 5
 simp only[show 16+4=20 from rfl,show 16+5=21 from rfl] at q tk dr
 have hAl:(s.S.map V.dat).length=16:=by simp[S16]
 have hm : ∀ y∈s.cra.map qbm,y.length=1:=fun y hy=>by obtain⟨a,_,rfl⟩:=Wm.1 hy; rfl
 have o1:=qaT (as:=[_,_,_,_]) h.own
 obtain⟨lr,σ1,a1,f1,o2⟩:=qjq (bytes:=8) h.cl o1 hm (qoI (by simp; omega) (by omega)) (by omega) (x:=qbm k) rfl (fun d hd=>by simp[Cmd.c,Lnk.c,qbm,di] at hd; first | (rw[hd]; rfl) | (rcases hd with rfl|rfl|rfl|rfl|rfl<;>rfl) | (rcases hd with rfl|rfl<;>rfl) | (rcases hd with rfl|rfl|rfl|rfl<;>rfl))
 have gl1:=(f1 l (by simp)).trans gl
 have hl1:l < σ1.length:=(Wb.1 gl1).1
 have o3:=qbn (as:=[_,_,_,_]) (qbi o2 (by simp:l∈[l,0]) (.cells (s.S.map .dat++[v1,v2,v3,v4,.own lr ((s.cra.map qbm).length+1) 1,v6,.int s.wait])))
 have em:s.cra.map qbm++[qbm k]=(s.cra++[k]).map qbm:=by rw[List.map_append]; rfl
 rw[em] at o3
 obtain⟨r,hr1,hr2⟩:=qg9 (s:={ s with cra:=s.cra++[k] }) o3 ss (by dsimp only; omega) (by dsimp only; omega) (by dsimp only; omega) (by dsimp only; omega) (by dsimp only; simp; omega) (by dsimp only; omega) S16 S0 S1
 refine⟨_,r,u,_,_,hr1,⟨⟨h.gen.uok,h.gen.S,h.gen.n⟩,rfl,by dsimp only; omega,by dsimp only; omega,fun _=>h.book⟩,qaN hl1 _,hr2,?_⟩
 simp only[Wf,Cmd.c,Lnk.c,qbm,di,Wi,Wr] at a1
 clear h o1 o2 o3 hr1 hr2 em S0 S1 ss hm f1
 simp only[Wf]
 generalize s.S.map V.dat=A at *
 generalize s.cra.length+1=N1 at *
 have gx : ∀ X:S,(σ ++ X)[l]?=some (.cells (A++[v1,v2,v3,v4,v5,v6,.int s.wait])):=fun X=>qbj gl X
 have gx0 : ∀ X:S,(σ ++ X)[0]?=some (.cells [.int a,.int b,.int c]):=fun X=>qbj g0 X
 simp -implicitDefEqProofs [F359_r1,hj,gl,g0,gx,gx0,gl1,q,tk,dr,hAl,a1,Wa,-appendO,-qaE]
theorem qzF(h:Sw σ l s u v1 v2 v3 v4 v5 v6 a b c)(hj : ∀ σ,qaE (Z prX) (Task.call 17) [.int how,.int 12] σ = some (.int 10,σ)):qoH σ l how k:=by
 have hl:l < σ.length:=(Wb.1 h.gl).1
 have hl0 : ¬ l=0:=fun e=>by have:=qbS h.own; simp[e] at this
 obtain⟨S16,S0,S1⟩:=h.sl
 obtain⟨ss,n1,n2,n3,n3'⟩:=h.small
 have n4:=h.gen.com.1
 have n5:=h.gen.cra.1
 have n6:=h.gen.wat.1
 have gl:=h.gl
 have g0:=h.g0
 have pre:=qa4 (qas s.S) (m:=16) (by simp[S16])
 have q:=fun B=>pre.c B 5 1
 have tk:=fun B=>pre.t B 5
 have dr:=fun B=>pre.d B 6
 simp only[show 16+5=21 from rfl,show 16+6=22 from rfl] at q tk dr
 have hAl:(s.S.map V.dat).length=16:=by simp[S16]
 have hm : ∀ y∈s.wat.map qbm,y.length=1:=fun y hy=>by obtain⟨a,_,rfl⟩:=Wm.1 hy; rfl
 have o1:=qaT (as:=[_,_,_,_,_]) h.own
 obtain⟨lr,σ1,a1,f1,o2⟩:=qjq (bytes:=8) h.cl o1 hm (qoI (by simp; omega) (by omega)) (by omega) (x:=qbm k) rfl (fun d hd=>by simp[Cmd.c,Lnk.c,qbm,di] at hd; first | (rw[hd]; rfl) | (rcases hd with rfl|rfl|rfl|rfl|rfl<;>rfl) | (rcases hd with rfl|rfl<;>rfl) | (rcases hd with rfl|rfl|rfl|rfl<;>rfl))
 have gl1:=(f1 l (by simp)).trans gl
 have hl1:l < σ1.length:=(Wb.1 gl1).1
 have o3:=qbn (as:=[_,_,_,_,_]) (qbi o2 (by simp:l∈[l,0]) (.cells (s.S.map .dat++[v1,v2,v3,v4,v5,.own lr ((s.wat.map qbm).length+1) 1,.int s.wait])))
 have em:s.wat.map qbm++[qbm k]=(s.wat++[k]).map qbm:=by rw[List.map_append]; rfl
 rw[em] at o3
 obtain⟨r,hr1,hr2⟩:=qg9 (s:={ s with wat:=s.wat++[k] }) o3 ss (by dsimp only; omega) (by dsimp only; omega) (by dsimp only; omega) (by dsimp only; omega) (by dsimp only; omega) (by dsimp only; simp; omega) S16 S0 S1
 refine⟨_,r,u,_,_,hr1,⟨⟨h.gen.uok,h.gen.S,h.gen.n⟩,rfl,by dsimp only; omega,by dsimp only; omega,fun _=>h.book⟩,qaN hl1 _,hr2,?_⟩
 simp only[Wf,Cmd.c,Lnk.c,qbm,di,Wi,Wr] at a1
 clear h o1 o2 o3 hr1 hr2 em S0 S1 ss hm f1
 simp only[Wf]
 generalize s.S.map V.dat=A at *
 generalize s.wat.length+1=N1 at *
 have gx : ∀ X:S,(σ ++ X)[l]?=some (.cells (A++[v1,v2,v3,v4,v5,v6,.int s.wait])):=fun X=>qbj gl X
 have gx0 : ∀ X:S,(σ ++ X)[0]?=some (.cells [.int a,.int b,.int c]):=fun X=>qbj g0 X
 simp -implicitDefEqProofs [F359_r1,hj,gl,g0,gx,gx0,gl1,q,tk,dr,hAl,a1,Wa,-appendO,-qaE]
theorem sw3(h:Sw σ l s u v1 v2 v3 v4 v5 v6 a b c)(hj : ∀ σ,qaE (Z prX) (Task.call 17) [.int how,.int 12] σ = some (.int 3,σ)):qoH σ l how k:=by
 have hl:l < σ.length:=(Wb.1 h.gl).1
 have hl0 : ¬ l=0:=fun e=>by have:=qbS h.own; simp[e] at this
 obtain⟨S16,S0,S1⟩:=h.sl
 obtain⟨ss,n1,n2,n3,n3'⟩:=h.small
 have n4:=h.gen.com.1
 have n5:=h.gen.cra.1
 have n6:=h.gen.wat.1
 have gl:=h.gl
 have g0:=h.g0
 have pre:=qa4 (qas s.S) (m:=16) (by simp[S16])
 have q:=fun B=>pre.c B 2 1
 have tk:=fun B=>pre.t B 2
 have dr:=fun B=>pre.d B 3
 simp only[show 16+2=18 from rfl,show 16+3=19 from rfl] at q tk dr
 have hAl:(s.S.map V.dat).length=16:=by simp[S16]
 obtain⟨x,xs,hx⟩ : ∃ x xs,s.lnk=x::xs:=by
  cases e:s.lnk with
  |nil=>rw[e] at n3'; simp at n3'
  |cons x xs=>exact⟨x,xs,rfl⟩
 have o1:=qaT (as:=[_,_]) h.own
 rw[hx,Wi] at o1
 obtain⟨lr,rfl,g1,ne1,ne2,o2⟩:=qnL o1 (fun y hy=>by
  rcases Wq.1 hy with rfl|hy
  ·rfl
  ·obtain⟨a,_,rfl⟩:=Wm.1 hy; rfl)
 have o3:=qbn (as:=[_,_]) (o2 (Lnk.c ⟨k,x.j,x.l,x.p⟩) rfl)
 have hfl:((xs.map Lnk.c).flatten.map V.dat).length=xs.length*4:=by rw[Wf,qbr (n:=4) (fun y hy=>by obtain⟨a,_,rfl⟩:=Wm.1 hy; rfl),Wf]
 rw[<- List.map_cons] at o3
 simp only[Wf] at gl o3
 obtain⟨r,hr1,hr2⟩:=qg9 (s:={ s with lnk:=(⟨k,x.j,x.l,x.p⟩:Lnk)::xs }) o3 ss (by dsimp only; omega) (by dsimp only; omega) (by dsimp only; rw[hx] at n3; simpa using (by simp at n3; omega)) (by dsimp only; omega) (by dsimp only; omega) (by dsimp only; omega) S16 S0 S1
 refine⟨_,r,u,_,_,hr1,⟨⟨h.gen.uok,h.gen.S,h.gen.n⟩,rfl,by dsimp only; omega,by dsimp only; simp,fun _=>h.book⟩,(Wj ne1).trans gl,hr2,?_⟩
 simp only[Lnk.c,di,Wi,Wr] at g1 ⊢
 clear h o1 o2 o3 hr1 hr2 S0 S1 ss
 generalize (xs.map Lnk.c).flatten.map V.dat=X at *
 have hlr:=(Wb.1 g1).1
 generalize s.S.map V.dat=A at *
 have e4:(xs.length+1)*4=xs.length*4+4:=by omega
 have e0:(0:Int)<((xs.length+1:Nat):Int):=by omega
 have e5:0<xs.length+1:=by omega
 generalize xs.length*4=N4 at *
 generalize xs.length+1=N1 at *
 simp -implicitDefEqProofs [F359_r1,hj,gl,g1,q,hAl,hfl,e4,e0,e5,Wa,-qaE]
theorem sw4(h:Sw σ l s u v1 v2 v3 v4 v5 v6 a b c)(hj : ∀ σ,qaE (Z prX) (Task.call 17) [.int how,.int 12] σ = some (.int 4,σ)):qoH σ l how k:=by
 have hl:l < σ.length:=(Wb.1 h.gl).1
 have hl0 : ¬ l=0:=fun e=>by have:=qbS h.own; simp[e] at this
 obtain⟨S16,S0,S1⟩:=h.sl
 obtain⟨ss,n1,n2,n3,n3'⟩:=h.small
 have n4:=h.gen.com.1
 have n5:=h.gen.cra.1
 have n6:=h.gen.wat.1
 have gl:=h.gl
 have g0:=h.g0
 have pre:=qa4 (qas s.S) (m:=16) (by simp[S16])
 have q:=fun B=>pre.c B 2 1
 have tk:=fun B=>pre.t B 2
 have dr:=fun B=>pre.d B 3
 simp only[show 16+2=18 from rfl,show 16+3=19 from rfl] at q tk dr
 have hAl:(s.S.map V.dat).length=16:=by simp[S16]
 obtain⟨x,xs,hx⟩ : ∃ x xs,s.lnk=x::xs:=by
  cases e:s.lnk with
  |nil=>rw[e] at n3'; simp at n3'
  |cons x xs=>exact⟨x,xs,rfl⟩
 have o1:=qaT (as:=[_,_]) h.own
 rw[hx,Wi] at o1
 obtain⟨lr,rfl,g1,ne1,ne2,o2⟩:=qnL o1 (fun y hy=>by
  rcases Wq.1 hy with rfl|hy
  ·rfl
  ·obtain⟨a,_,rfl⟩:=Wm.1 hy; rfl)
 have o3:=qbn (as:=[_,_]) (o2 (Lnk.c ⟨x.d,k,x.l,x.p⟩) rfl)
 have hfl:((xs.map Lnk.c).flatten.map V.dat).length=xs.length*4:=by rw[Wf,qbr (n:=4) (fun y hy=>by obtain⟨a,_,rfl⟩:=Wm.1 hy; rfl),Wf]
 rw[<- List.map_cons] at o3
 simp only[Wf] at gl o3
 obtain⟨r,hr1,hr2⟩:=qg9 (s:={ s with lnk:=(⟨x.d,k,x.l,x.p⟩:Lnk)::xs }) o3 ss (by dsimp only; omega) (by dsimp only; omega) (by dsimp only; rw[hx] at n3; simpa using (by simp at n3; omega)) (by dsimp only; omega) (by dsimp only; omega) (by dsimp only; omega) S16 S0 S1
 refine⟨_,r,u,_,_,hr1,⟨⟨h.gen.uok,h.gen.S,h.gen.n⟩,rfl,by dsimp only; omega,by dsimp only; simp,fun _=>h.book⟩,(Wj ne1).trans gl,hr2,?_⟩
 simp only[Lnk.c,di,Wi,Wr] at g1 ⊢
 clear h o1 o2 o3 hr1 hr2 S0 S1 ss
 generalize (xs.map Lnk.c).flatten.map V.dat=X at *
 have hlr:=(Wb.1 g1).1
 generalize s.S.map V.dat=A at *
 have e4:(xs.length+1)*4=xs.length*4+4:=by omega
 have e0:(0:Int)<((xs.length+1:Nat):Int):=by omega
 have e5:0<xs.length+1:=by omega
 generalize xs.length*4=N4 at *
 generalize xs.length+1=N1 at *
 simp -implicitDefEqProofs [F359_r1,hj,gl,g1,q,hAl,hfl,e4,e0,e5,Wa,-qaE]
theorem sw5(h:Sw σ l s u v1 v2 v3 v4 v5 v6 a b c)(hj : ∀ σ,qaE (Z prX) (Task.call 17) [.int how,.int 12] σ = some (.int 5,σ)):qoH σ l how k:=by
 have hl:l < σ.length:=(Wb.1 h.gl).1
 have hl0 : ¬ l=0:=fun e=>by have:=qbS h.own; simp[e] at this
 obtain⟨S16,S0,S1⟩:=h.sl
 obtain⟨ss,n1,n2,n3,n3'⟩:=h.small
 have n4:=h.gen.com.1
 have n5:=h.gen.cra.1
 have n6:=h.gen.wat.1
 have gl:=h.gl
 have g0:=h.g0
 have pre:=qa4 (qas s.S) (m:=16) (by simp[S16])
 have q:=fun B=>pre.c B 2 1
 have tk:=fun B=>pre.t B 2
 have dr:=fun B=>pre.d B 3
 simp only[show 16+2=18 from rfl,show 16+3=19 from rfl] at q tk dr
 have hAl:(s.S.map V.dat).length=16:=by simp[S16]
 obtain⟨x,xs,hx⟩ : ∃ x xs,s.lnk=x::xs:=by
  cases e:s.lnk with
  |nil=>rw[e] at n3'; simp at n3'
  |cons x xs=>exact⟨x,xs,rfl⟩
 have o1:=qaT (as:=[_,_]) h.own
 rw[hx,Wi] at o1
 obtain⟨lr,rfl,g1,ne1,ne2,o2⟩:=qnL o1 (fun y hy=>by
  rcases Wq.1 hy with rfl|hy
  ·rfl
  ·obtain⟨a,_,rfl⟩:=Wm.1 hy; rfl)
 have o3:=qbn (as:=[_,_]) (o2 (Lnk.c ⟨x.d,x.j,k,x.p⟩) rfl)
 have hfl:((xs.map Lnk.c).flatten.map V.dat).length=xs.length*4:=by rw[Wf,qbr (n:=4) (fun y hy=>by obtain⟨a,_,rfl⟩:=Wm.1 hy; rfl),Wf]
 rw[<- List.map_cons] at o3
 simp only[Wf] at gl o3
 obtain⟨r,hr1,hr2⟩:=qg9 (s:={ s with lnk:=(⟨x.d,x.j,k,x.p⟩:Lnk)::xs }) o3 ss (by dsimp only; omega) (by dsimp only; omega) (by dsimp only; rw[hx] at n3; simpa using (by simp at n3; omega)) (by dsimp only; omega) (by dsimp only; omega) (by dsimp only; omega) S16 S0 S1
 refine⟨_,r,u,_,_,hr1,⟨⟨h.gen.uok,h.gen.S,h.gen.n⟩,rfl,by dsimp only; omega,by dsimp only; simp,fun _=>h.book⟩,(Wj ne1).trans gl,hr2,?_⟩
 simp only[Lnk.c,di,Wi,Wr] at g1 ⊢
 clear h o1 o2 o3 hr1 hr2 S0 S1 ss
 generalize (xs.map Lnk.c).flatten.map V.dat=X at *
 have hlr:=(Wb.1 g1).1
 generalize s.S.map V.dat=A at *
 have e4:(xs.length+1)*4=xs.length*4+4:=by omega
 have e0:(0:Int)<((xs.length+1:Nat):Int):=by omega
 have e5:0<xs.length+1:=by omega
 generalize xs.length*4=N4 at *
 generalize xs.length+1=N1 at *
 simp -implicitDefEqProofs [F359_r1,hj,gl,g1,q,hAl,hfl,e4,e0,e5,Wa,-qaE]
theorem sw6(h:Sw σ l s u v1 v2 v3 v4 v5 v6 a b c)(hj : ∀ σ,qaE (Z prX) (Task.call 17) [.int how,.int 12] σ = some (.int 6,σ)):qoH σ l how k:=by
 have hl:l < σ.length:=(Wb.1 h.gl).1
 have hl0 : ¬ l=0:=fun e=>by have:=qbS h.own; simp[e] at this
 obtain⟨S16,S0,S1⟩:=h.sl
 obtain⟨ss,n1,n2,n3,n3'⟩:=h.small
 have n4:=h.gen.com.1
 have n5:=h.gen.cra.1
 have n6:=h.gen.wat.1
 have gl:=h.gl
 have g0:=h.g0
 have pre:=qa4 (qas s.S) (m:=16) (by simp[S16])
 have q:=fun B=>pre.c B 2 1
 have tk:=fun B=>pre.t B 2
 have dr:=fun B=>pre.d B 3
 simp only[show 16+2=18 from rfl,show 16+3=19 from rfl] at q tk dr
 have hAl:(s.S.map V.dat).length=16:=by simp[S16]
 obtain⟨x,xs,hx⟩ : ∃ x xs,s.lnk=x::xs:=by
  cases e:s.lnk with
  |nil=>rw[e] at n3'; simp at n3'
  |cons x xs=>exact⟨x,xs,rfl⟩
 have o1:=qaT (as:=[_,_]) h.own
 rw[hx,Wi] at o1
 obtain⟨lr,rfl,g1,ne1,ne2,o2⟩:=qnL o1 (fun y hy=>by
  rcases Wq.1 hy with rfl|hy
  ·rfl
  ·obtain⟨a,_,rfl⟩:=Wm.1 hy; rfl)
 have o3:=qbn (as:=[_,_]) (o2 (Lnk.c ⟨x.d,x.j,x.l,k⟩) rfl)
 have hfl:((xs.map Lnk.c).flatten.map V.dat).length=xs.length*4:=by rw[Wf,qbr (n:=4) (fun y hy=>by obtain⟨a,_,rfl⟩:=Wm.1 hy; rfl),Wf]
 rw[<- List.map_cons] at o3
 simp only[Wf] at gl o3
 obtain⟨r,hr1,hr2⟩:=qg9 (s:={ s with lnk:=(⟨x.d,x.j,x.l,k⟩:Lnk)::xs }) o3 ss (by dsimp only; omega) (by dsimp only; omega) (by dsimp only; rw[hx] at n3; simpa using (by simp at n3; omega)) (by dsimp only; omega) (by dsimp only; omega) (by dsimp only; omega) S16 S0 S1
 refine⟨_,r,u,_,_,hr1,⟨⟨h.gen.uok,h.gen.S,h.gen.n⟩,rfl,by dsimp only; omega,by dsimp only; simp,fun _=>h.book⟩,(Wj ne1).trans gl,hr2,?_⟩
 simp only[Lnk.c,di,Wi,Wr] at g1 ⊢
 clear h o1 o2 o3 hr1 hr2 S0 S1 ss
 generalize (xs.map Lnk.c).flatten.map V.dat=X at *
 have hlr:=(Wb.1 g1).1
 generalize s.S.map V.dat=A at *
 have e4:(xs.length+1)*4=xs.length*4+4:=by omega
 have e0:(0:Int)<((xs.length+1:Nat):Int):=by omega
 have e5:0<xs.length+1:=by omega
 generalize xs.length*4=N4 at *
 generalize xs.length+1=N1 at *
 simp -implicitDefEqProofs [F359_r1,hj,gl,g1,q,hAl,hfl,e4,e0,e5,Wa,-qaE]
theorem sw0(h:Sw σ l s u v1 v2 v3 v4 v5 v6 a b c)(hj : ∀ σ,qaE (Z prX) (Task.call 17) [.int how,.int 12] σ = some (.int 0,σ)):qoH σ l how k:=by
 have hl:l < σ.length:=(Wb.1 h.gl).1
 have hl0 : ¬ l=0:=fun e=>by have:=qbS h.own; simp[e] at this
 obtain⟨S16,S0,S1⟩:=h.sl
 obtain⟨ss,n1,n2,n3,n3'⟩:=h.small
 have n4:=h.gen.com.1
 have n5:=h.gen.cra.1
 have n6:=h.gen.wat.1
 have gl:=h.gl
 have g0:=h.g0
 obtain⟨r,hr1,hr2⟩:=qg9 (s:={ s with S:=({ u with rnd:=k }:Sup).c genF }) (qbi h.own (by simp:l∈[l,0]) (.cells ((({ u with rnd:=k }:Sup).c genF).map .dat++[v1,v2,v3,v4,v5,v6,.int s.wait]))) ss (by dsimp only; omega) (by dsimp only; omega) (by dsimp only; omega) (by dsimp only; omega) (by dsimp only; omega) (by dsimp only; omega) rfl (by dsimp only; rw[h.gen.n]; rfl) (fun d hd=>by
  simp only[Sup.c,Wq,WD,or_false] at hd
  rcases hd with rfl|rfl|rfl|rfl|rfl|rfl|rfl|rfl|rfl|rfl|rfl|rfl|rfl|rfl|rfl|rfl<;>rfl)
 refine⟨_,r,{ u with rnd:=k },_,_,hr1,⟨⟨?_,rfl,h.gen.n⟩,rfl,by dsimp only; omega,by dsimp only; omega,fun _=>h.book⟩,qaN hl _,hr2,?_⟩
 ·obtain⟨c1,c2,c3,c4,c5,c6,c7,c8,c9,c10,c11⟩:=h.gen.uok
  exact⟨c1,c2,c3,c4,c5,c6,c7,c8,c9,c10,c11⟩
 rw[h.gen.S] at gl
 clear h hr1 hr2 S0 S1 ss S16
 simp only[Sup.c,di,Wi,Wr,Wu,Wk] at gl ⊢
 generalize (u.bs.map (Bod.c · genF.p)).flatten=X at *
 generalize doorC u.dr=Y at *
 generalize roomC=W at *
 simp -implicitDefEqProofs [F359_r1,hj,gl,Wa,-qaE]
theorem qzG(h:Sw σ l s u v1 v2 v3 v4 v5 v6 a b c)(hj : ∀ σ,qaE (Z prX) (Task.call 17) [.int how,.int 12] σ = some (.int 11,σ)):qoH σ l how k:=by
 have hl:l < σ.length:=(Wb.1 h.gl).1
 have hl0 : ¬ l=0:=fun e=>by have:=qbS h.own; simp[e] at this
 obtain⟨S16,S0,S1⟩:=h.sl
 obtain⟨ss,n1,n2,n3,n3'⟩:=h.small
 have n4:=h.gen.com.1
 have n5:=h.gen.cra.1
 have n6:=h.gen.wat.1
 have gl:=h.gl
 have g0:=h.g0
 have pre:=qa4 (qas s.S) (m:=16) (by simp[S16])
 have q:=fun B=>pre.c B 6 1
 have tk:=fun B=>pre.t B 6
 have dr:=fun B=>pre.d B 7
 simp only[show 16+6=22 from rfl,show 16+7=23 from rfl] at q tk dr
 have hAl:(s.S.map V.dat).length=16:=by simp[S16]
 obtain⟨r,hr1,hr2⟩:=qg9 (s:={ s with wait:=k }) (qbi h.own (by simp:l∈[l,0]) (.cells (s.S.map .dat++[v1,v2,v3,v4,v5,v6,.int k]))) ss (by dsimp only; omega) (by dsimp only; omega) (by dsimp only; omega) (by dsimp only; omega) (by dsimp only; omega) (by dsimp only; omega) S16 S0 S1
 refine⟨_,r,u,_,_,hr1,⟨⟨h.gen.uok,h.gen.S,h.gen.n⟩,rfl,by dsimp only; omega,by dsimp only; omega,fun _=>h.book⟩,qaN hl _,hr2,?_⟩
 clear h hr1 hr2 S0 S1 ss
 simp only
 generalize s.S.map V.dat=A at *
 simp -implicitDefEqProofs [F359_r1,hj,gl,q,tk,dr,hAl,Wa,-qaE]
end
end
section
open F
set_option maxRecDepth 100000
attribute [local simp] V.len qai
theorem qrP{σ : S}{os:List Nat}{ps:List (HV × V)}(h:Own σ os ps) : ∀ l∈qau (ps.map (·.2)),l < σ.length:=fun l hl=>by
 have : ∀ qs:List (HV × V),l∈qau (qs.map (·.2)) -> ∃ q∈qs,l∈q.2.locs:=fun qs=>by
  induction qs with
  |nil=>intro h; cases h
  |cons q qs ih=>
   intro h
   simp only[Wi,qau,We] at h
   rcases h with h|h
   ·exact⟨q,by simp,h⟩
   ·obtain⟨p,hp,h⟩:=ih h
    exact⟨p,by simp[hp],h⟩
 obtain⟨q,hq,hl⟩:=this ps hl
 exact qo0 h q hq l hl
theorem qrQ {σ : S} {s:Scr} {v:V} (ho:Own σ [0] [(qyK s,v)]) :
  ∃ v1 v2 v3 v4 v5 v6,v = .agg (s.S.map .dat++[v1,v2,v3,v4,v5,v6,.int s.wait])/\Own σ [0] [(qaM 1 s.src,v1),(qaM 1 (s.pat.map qbm),v2),(qaM 4 (s.lnk.map Lnk.c),v3),(qaM 5 (s.com.map Cmd.c),v4),(qaM 1 (s.cra.map qbm),v5),(qaM 1 (s.wat.map qbm),v6)]:=by
 obtain⟨us,rfl,hl,o⟩:=qte ho
 have e:us=us.take s.S.length++us.drop s.S.length:=(WU ..).symm
 have hl1:(us.take s.S.length).length=s.S.length:=by simp at hl ⊢; omega
 have hl2:7=(us.drop s.S.length).length:=by simp[rws] at hl ⊢; omega
 rw[e,qgL (by simp[hl1]),WA] at o
 obtain⟨h5,o2⟩:=qcV hl1.symm o
 obtain⟨v1,v2,v3,v4,v5,v6,v7,h7⟩:=qzs hl2
 rw[h7] at o2
 obtain⟨e7,o3⟩:=qfn (qaT (as:=[_,_,_,_,_,_]) (by simpa only [rws,Wu,Wk,List.zip_cons_cons,List.zip_nil_left] using o2))
 subst e7
 exact⟨v1,v2,v3,v4,v5,v6,by rw[e,h5,h7],o3⟩
theorem qrR{d:D}{ls:List Int}(hr:IsRow d ls)(hI : ∀ x∈ls,I64 x){how:Int}(hh:I64 how)(k a b c:Int):Z prX (.call 359 [.dat d,.int how,.int k,.dat (.agg [di a,di b,di c])] [])=some (.ret (.bool true) []):=by
 obtain⟨s,u,vs,τ,gen,hz,hτ,ho⟩:=qrA hr hI
 obtain⟨σ0,hσ0⟩ : ∃ σ0:S,σ0=[.cells [.int a,.int b,.int c]]:=⟨_,rfl⟩
 have c0:Cl σ0:=by rw[hσ0]; exact qgo rfl
 have w0:Own σ0 [0] []:=by rw[hσ0]; exact qmN
 have b1:=qcn (C:=Z prX) (mk:=Task.call 362) (ds:=[d]) (σ := σ0) hz (by intro u hu; cases hu)
 obtain⟨c1,n1,o1,f1,_⟩:=qo3 (os:=[0]) (as:=[]) (ps:=[]) (qs:=[(qyK s,.agg vs)]) c0 w0 (R:=[]) (qeM _ _ _).symm hτ (by simp) ho
 have ea:after σ0 [] τ = σ0++shift σ0.length τ:=by
  unfold after
  rw[qjV]
  have e2 : ∀ obs:S,qaF σ0 [] obs = σ0++obs:=fun obs=>by cases obs<;>rfl
  exact e2 _
 rw[ea] at c1 n1 o1 f1
 have g0:=f1 0 (by simp)
 rw[qjV] at o1
 simp only[Wp,qtb,Wi,Wr] at o1
 obtain⟨v1,v2,v3,v4,v5,v6,ev,o2⟩:=qrQ o1
 rw[ev] at b1
 generalize σ0++shift σ0.length τ = σ1 at *
 have S16:s.S.length=16:=by rw[gen.S]; rfl
 have S1 : ∀ d∈s.S,V.one (.dat d)=true:=fun d hd=>by
  rw[gen.S] at hd
  simp only[Sup.c,Wq,WD,or_false] at hd
  rcases hd with rfl|rfl|rfl|rfl|rfl|rfl|rfl|rfl|rfl|rfl|rfl|rfl|rfl|rfl|rfl|rfl<;>rfl
 obtain⟨cs,hcs⟩ : ∃ cs,cs=s.S.map V.dat++[v1,v2,v3,v4,v5,v6,.int s.wait]:=⟨_,rfl⟩
 have o3:=qgF o2 (.cells z23)
 have o4:=qbi o3 (by simp : σ1.length∈[σ1.length,0]) (.cells cs)
 have hset:(σ1++[Ob.cells z23]).set σ1.length (.cells cs) = σ1++[.cells cs]:=by simp
 rw[hset] at o4
 have hsw:Sw (σ1++[.cells cs]) σ1.length s u v1 v2 v3 v4 v5 v6 a b c:=by
  refine⟨gen,qjr c1 fun m hm=>?_,o4,by rw[<- hcs]; exact qf5 _ _,?_⟩
  ·simp only[Ob.locs,hcs,qcU,qa1] at hm
   have:m∈qau ([(qaM 1 s.src,v1),(qaM 1 (s.pat.map qbm),v2),(qaM 4 (s.lnk.map Lnk.c),v3),(qaM 5 (s.com.map Cmd.c),v4),(qaM 1 (s.cra.map qbm),v5),(qaM 1 (s.wat.map qbm),v6)].map (·.2)):=by
    simpa [qau,V.locs] using hm
   exact YB (qrP o2 m this)
  ·exact qbj (g0.trans (by rw[hσ0]; rfl)) _
 have sw:qoH (σ1++[.cells cs]) σ1.length how k:=by
  have a17:=fun σ => qbz (C:=Z prX) (mk:=Task.call 17) (ds:=[di how,di 12]) (σ := σ) (qia hh (m:=12) (by omega))
  have hk:=qeV hh (m:=12) (by omega)
  generalize around how 12=j at *
  obtain rfl|rfl|rfl|rfl|rfl|rfl|rfl|rfl|rfl|rfl|rfl|rfl:j=0\/j=1\/j=2\/j=3\/j=4\/j=5\/j=6\/j=7\/j=8\/j=9\/j=10\/j=11:=by omega
  ·exact sw0 hsw a17
  ·exact sw1 hsw a17
  ·exact sw2 hsw a17
  ·exact sw3 hsw a17
  ·exact sw4 hsw a17
  ·exact sw5 hsw a17
  ·exact sw6 hsw a17
  ·exact sw7 hsw a17
  ·exact sw8 hsw a17
  ·exact sw9 hsw a17
  ·exact qzF hsw a17
  ·exact qzG hsw a17
 obtain⟨s',r',u',σ',B,h1,h2,h3,h4,h5⟩:=sw
 obtain⟨σ'',h6⟩:=qr3 h1 h2 h3 h4
 rw[h6] at h5
 have hlen:cs.length=23:=by rw[hcs]; simp[S16]
 have hmk:V.cells (.agg cs)=cs:=rfl
 have hrd:RdV σ0 (.dat d) d := .inl rfl
 have y1 : ∀ f d (σ : S),qbT f [.dat d] σ = ([.dat d],σ):=fun f d σ=>by unfold qbT; split<;>rfl
 have hone : ∀ v∈cs,V.one v=true:=fun v hv=>by
  rw[hcs] at hv
  rcases We.1 hv with hv|hv
  ·obtain⟨d,hd,rfl⟩:=Wm.1 hv
   exact S1 d hd
  ·simp only[Wq,WD,or_false] at hv
   rcases hv with rfl|rfl|rfl|rfl|rfl|rfl|rfl
   ·exact qb2 o2
   ·exact qb2 (qaT (as:=[_]) o2)
   ·exact qb2 (qaT (as:=[_,_]) o2)
   ·exact qb2 (qaT (as:=[_,_,_]) o2)
   ·exact qb2 (qaT (as:=[_,_,_,_]) o2)
   ·exact qb2 (qaT (as:=[_,_,_,_,_]) o2)
   ·rfl
 have hone':=eq_true hone
 rw[<- hcs] at b1
 rw[hσ0] at b1
 have hd23:z23.drop 23=[]:=rfl
 simp only[Wi,Wr] at b1
 clear o1 o2 o3 o4 h1 h2 h3 h4 hsw hcs ev hz ho gen
 simp only[z23] at hset hd23
 refine qaD (pf:=F359) rfl rfl ?_
 rw[F359_t]
 simp -implicitDefEqProofs [b1,y1,hlen,hone',h5,hset,Wa,-qaE,-qbT]
end
section
theorem rowv_isRow{d:D}{xs:List Int}(h:RowV d xs):IsRow d xs:=by
 rcases h with ⟨o,rfl,rfl⟩|rfl
 ·exact qqu o
 ·exact qsi xs false
theorem trip_rep(fid:Fid)(w:World)(a b c:Int):Rep fid (qgt w) (.dat (.agg [.lit (.int .i64 a),.lit (.int .i64 b),.lit (.int .i64 c)])) (.agg #[.int .i64 a,.int .i64 b,.int .i64 c]):=
 ⟨[.int .i64 a,.int .i64 b,.int .i64 c],rfl,_,_,rfl,⟨rfl,rfl⟩,_,_,rfl,⟨rfl,rfl⟩,_,_,rfl,⟨rfl,rfl⟩,rfl⟩
theorem checks359{d:D}{ls:List Int}(hr:IsRow d ls)(hI : ∀ x∈ls,I64 x){how k:Int}(h1:I64 how)(h2:I64 k)(a b c:Int):Z prX (.call 359 [.dat d,.int how,.int k,.dat (.agg [.lit (.int .i64 a),.lit (.int .i64 b),.lit (.int .i64 c)])] [])=some (.ret (.bool true) []):=qrR hr hI h1 k a b c
end
end Go.Pm
