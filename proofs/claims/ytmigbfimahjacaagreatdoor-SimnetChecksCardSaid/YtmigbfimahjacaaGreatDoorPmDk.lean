/- Chapter 35's law: what a call freezes; what is laid out and read. -/
import Derived.Test.YtmigbfimahjacaaGreatDoorPmAL
import Derived.Test.YtmigbfimahjacaaGreatDoorPmDa0
import Derived.Test.YtmigbfimahjacaaGreatDoorPmFSb
import Derived.KernelRfl
set_option linter.unusedSimpArgs false
set_option linter.unusedVariables false
set_option maxHeartbeats 4000000
namespace Go.Pm
section
open F
set_option maxRecDepth 100000
def RdV(σ : S)(v:V)(d:D):Prop:=v = .dat d \/ ∃ l n sz ds,v = .own l n sz/\d = .sl ds n false/\ds.length=n*sz/\(σ[l]?=some (.vec (ds.map .dat)) \/ σ[l]?=some (.froz ds))
def RdL(σ : S):List V->List D->Prop
 |[],ds=>ds=[]
 |v::vs,ds => ∃ d r,ds=d::r/\RdV σ v d/\RdL σ vs r
def Fz(σ σ':S):Prop := σ'.length = σ.length/\(∀ u e,RdV σ u e->RdV σ' u e) /\ ∀ (m:Nat) (cs:List V),σ[m]?=some (.cells cs) -> σ'[m]?=some (.cells cs)
theorem Fz.refl(σ : S):Fz σ σ := ⟨rfl,fun _ _ h=>h,fun _ _ h=>h⟩
theorem Fz.trans{σ σ' σ'':S}(h:Fz σ σ')(g:Fz σ' σ''):Fz σ σ'':=⟨g.1.trans h.1,fun u e x=>g.2.1 u e (h.2.1 u e x),fun m cs x=>g.2.2 m cs (h.2.2 m cs x)⟩
theorem qmG{a b:List D}(h:a.map V.dat=b.map V.dat):a=b:=by
 induction a generalizing b with
 |nil=>cases b<;>simp_all
 |cons x a ih=>
  cases b with
  |nil=>simp at h
  |cons y b=>
   simp only[Wi,Yh,V.dat.injEq] at h
   rw[h.1,ih h.2]
theorem quB{σ : S}{v:V}{d:D}(h:RdV σ v d):(qi1 σ v).1 = .dat d/\Fz σ (qi1 σ v).2:=by
 rcases h with rfl|⟨l,n,sz,ds,rfl,rfl,hl,h|h⟩
 ·exact⟨rfl,Fz.refl _⟩
 ·have e:qi1 σ (.own l n sz)=(.dat (.sl ds n false),σ.set l (.froz ds)):=by
   simp only[qi1,h]
   rw[if_pos (by simpa using hl),qaL]
  rw[e]
  refine⟨rfl,by simp,fun u x hu=>?_,fun m cs hm=>?_⟩
  ·rcases hu with rfl|⟨l',n',sz',ds',rfl,rfl,hl',h'⟩
   ·exact .inl rfl
   ·right
    refine⟨l',n',sz',ds',rfl,rfl,hl',?_⟩
    by_cases hne:l=l'
    ·subst hne
     rw[h] at h'
     rcases h' with h'|h'
     ·have:ds=ds':=qmG (by simpa using h')
      subst this
      right
      simp only[Yi (Wb.1 h).1]
     ·cases h'
    ·rw[Wj hne]; exact h'
  ·have hne:l≠m:=fun e=>by rw[e,hm] at h; cases h
   simp only[Wj hne,hm]
 ·have e:qi1 σ (.own l n sz)=(.dat (.sl ds n false),σ):=by
   simp only[qi1,h]
   rw[if_pos hl]
  rw[e]
  exact⟨rfl,Fz.refl _⟩
theorem qqn : ∀ {σ : S} {vs:List V} {ds:List D},RdL σ vs ds->(qnc σ vs).1=ds.map .dat/\Fz σ (qnc σ vs).2
 | σ,[],ds,h=>by cases h; exact⟨rfl,Fz.refl _⟩
 | σ,v::vs,ds,h=>by
  obtain⟨d,r,rfl,h1,h2⟩:=h
  obtain⟨g1,g2⟩:=quB h1
  have h3:RdL (qi1 σ v).2 vs r:=by
   clear g1 h1
   generalize (qi1 σ v).2 = τ at *
   induction vs generalizing r with
   |nil=>exact h2
   |cons w ws ih=>
    obtain⟨d',r',rfl,k1,k2⟩:=h2
    exact⟨d',r',rfl,g2.2.1 _ _ k1,ih _ k2⟩
  obtain⟨g3,g4⟩:=qqn h3
  exact⟨by simp only[qnc,g1,g3,Wi],g2.trans g4⟩
theorem RdL.fz{σ τ : S}(g:Fz σ τ) : ∀ {vs:List V} {ds:List D},RdL σ vs ds->RdL τ vs ds
 |[],ds,h=>h
 |v::vs,ds,h=>by
  obtain⟨d,r,rfl,h1,h2⟩:=h
  exact⟨d,r,rfl,g.2.1 _ _ h1,RdL.fz g h2⟩
theorem RdL.dats(σ : S) : ∀ ds:List D,RdL σ (ds.map .dat) ds
 |[]=>rfl
 |d::ds=>⟨d,ds,rfl,.inl rfl,RdL.dats σ ds⟩
theorem RdL.app{σ : S} : ∀ {vs ws:List V} {ds es:List D},RdL σ vs ds->RdL σ ws es->RdL σ (vs++ws) (ds++es)
 |[],ws,ds,es,h,g=>by cases h; exact g
 |v::vs,ws,ds,es,h,g=>by
  obtain⟨d,r,rfl,h1,h2⟩:=h
  exact⟨d,r++es,rfl,h1,RdL.app h2 g⟩
theorem RdL.one{σ : S} : ∀ {vs:List V} {ds:List D},RdL σ vs ds->(∀ d∈ds,V.one (.dat d)=true) -> ∀ v∈vs,V.one v=true
 |[],ds,h,_,v,hv=>by cases hv
 |u::vs,ds,h,hd,v,hv=>by
  obtain⟨d,r,rfl,h1,h2⟩:=h
  rcases Wq.1 hv with rfl|hv
  ·rcases h1 with rfl|⟨l,n,sz,x,rfl,_⟩
   ·exact hd d (by simp)
   ·rfl
  ·exact RdL.one h2 (fun d hd'=>hd d (by simp[hd'])) v hv
theorem RdL.len{σ : S} : ∀ {vs:List V} {ds:List D},RdL σ vs ds->ds.length=vs.length
 |[],ds,h=>by cases h; rfl
 |u::vs,ds,h=>by
  obtain⟨d,r,rfl,h1,h2⟩:=h
  simp[RdL.len h2]
theorem qnp{σ : S}{cs:List V}{ds:List D}(h:RdL σ cs ds){f:Nat}(hf:f<1000) : ∃ σ',qbT f [qc6 cs] σ = ([.dat (.agg ds)],σ')/\Fz σ σ':=by
 unfold qbT
 rw[if_pos hf]
 unfold qc6
 cases e:qaI cs with
 |some es=>
  refine⟨σ,?_,Fz.refl _⟩
  have:es=ds:=by
   clear hf
   induction cs generalizing ds es with
   |nil=>cases h; simp[qaI] at e; exact e
   |cons c cs ih=>
    obtain⟨d,r,rfl,h1,h2⟩:=h
    rcases h1 with rfl|⟨l,n,sz,x,rfl,_⟩
    ·simp only[qaI] at e
     cases e1:qaI cs with
     |none=>rw[e1] at e; cases e
     |some xs=>
      rw[e1] at e
      simp only[Wd] at e
      rw[<- e,ih h2 xs e1]
    ·simp[qaI] at e
  subst this
  rfl
 |none=>
  obtain⟨g1,g2⟩:=qqn h
  refine⟨_,?_,g2⟩
  simp only[qh1,qoS,g1,qc6,qaL]
theorem qji{σ : S}{os:List Nat}{ps:List (HV × V)}{sz:Nat}{ls:List (List D)}{v:V}(h:Own σ os ((qaM sz ls,v)::ps))(hr : ∀ y∈ls,y.length=sz):RdV σ v (qfi sz ls):=by
 unfold qfi
 unfold qaM qch at h
 split at h
 ·rename_i h0
  rw[if_pos h0]
  exact .inl (qfn h).1
 ·rename_i h0
  rw[if_neg h0]
  obtain⟨l,vs,e,g,hl,o⟩:=qdC h
  obtain⟨ev,_⟩:=qcV (by simpa only [Wf] using hl) o
  subst ev
  exact .inr ⟨l,_,sz,ls.flatten,e,rfl,qbr hr,.inl g⟩
end
end Go.Pm
section
set_option maxRecDepth 100000
namespace Go.Pm
open F
def qmc:List D:=[(di 5),(.lit (.slice none 0 0)),(di 0),(di 0),(di 0),(di 0),(di 0),(di 0),(di 0)]
def qzd:D:=(.sl [(.lit (.string ⟨#[]⟩))] 1 true)
def qaV:V:=(.dat (.lit (.slice none 0 0)))
def qx1:V:=(.dat (.sl [(.lit (.string ⟨#[]⟩))] 1 false))
def qx2:V:=(.dat (.sl (ds [0,0,0,0]) 1 false))
def qnY:V:=(.dat (.imm [(.sl [(di 0),(.lit (.slice none 0 0)),(di (-1)),(di (-1)),(di (-1))] 1 true)] 0))
def qx3:Ob := .cells [(vi 1),(.dat (.sl qmc 1 false)),(vi 0),(vi 0),(vi 0),(vi 0),qaV,qaV,(vi 0),(vi 0),(vi 0),(vi 0),(vi 0),(vi 0),(vi 1),(vi 0),qx1,qaV,qx2,qaV,qaV,qaV,(vi 0),qnY,(vi 0),(.ptr 1 0),(.ptr 2 0),(.ptr 3 0),(.msl 4 0 1 1 1),(.own 5 1 1),qaV,(.own 6 1 1),(.mp 7)]
def qyv:Ob := .cells [(vi 1),(vi 0),(.mp 8),qaV]
def qpg:Ob := .cells [(vi 1),(.dat (.sl qmc 1 false)),(vi 0),(vi 0),(vi 0),(vi 0),qaV,qaV,(vi 0),(vi 0),(vi 0),(vi 0),(vi 0),(vi 0),(vi 1),(vi 0),qnY,(.ptr 9 0)]
def qvD:Ob := .cells [(.msl 12 0 60 60 1),qaV,(vi 0)]
def qvE:Ob := .cells [(.ptr 13 0),(.ptr 14 0),(.ptr 15 0),(vi 0),(vi 0),qaV,(vi 0),(vi 0),(vi 0),qaV,qaV,qaV,qaV]
def qvF:Ob := .cells [(vi 0),(vi 0),(.fn 430 [] [(.ptr 16 0)])]
def qbL:Ob := .cells (vs [0,0,0,0,0,0,0,0,0,0,0,0,0,0,0,0,0,0,0,0,0,0,0,0,0,0,0,0,0,0,0,0,0,0,0,0,0,0,0,0,0,0,0,0,0,0,0,0,0,0,0,0,0,0,0,0,0,0,0,0])
def qnZ:Ob := .cells [(vi 1),(vi 0),(vi 12),(.ptr 17 0),(.ptr 18 0),(.mp 19),qaV,(vi 0),qaV,qaV,(vi 0),(.ptr 20 0)]
def qg5:Ob := .cells (vs [0,0,0,0,0,0,0,0,0,0,0,0,0,0,0,0,0,0])
def qn0:Ob := .cells [(vi 1),(.dat (.sl qmc 1 false)),(vi 0),(vi 0),(vi 0),(vi 0),qaV,qaV,(vi 0),(vi 0),(vi 0),(vi 0),(vi 0),(vi 0),(vi 1),(vi 0),qnY,(.ptr 22 0)]
def qn1:Ob := .cells [(.ptr 22 0),(vi 12),qaV]
def qn2:Ob := .cells [(vi 1),(.dat (.sl qmc 1 false)),(vi 0),(vi 0),(vi 0),(vi 0),qaV,qaV,(vi 0),(vi 0),(vi 0),(vi 0),(vi 0),(vi 0),(vi 1),(vi 0),qnY,(.ptr 23 0)]
def qn3:Ob := .cells [(.msl 24 0 60 60 1),qaV,(vi 0)]
def qn4:Ob := .cells [(.msl 25 0 60 60 1),qaV,(vi 0)]
def qtv:S:=[qx3,qyv,qpg,.cells [qaV,qaV],.cells [(vi 0)],.vec [(.ptr 10 0)],.vec [(.ptr 11 0)],.map [],.map [],qvD,qvE,qvF,qbL,qnZ,qg5,.cells [(.mp 21),(vi 0)],.cells (vs [0,0,0,0]),qn0,qn1,.map [],qn2,.map [],qn3,qn4,qbL,qbL]
def qrt:Ob := .cells [(vi 1),(.dat (.sl qmc 1 false)),(vi 0),(vi 0),(vi 0),(vi 0),qaV,qaV,(vi 0),(vi 0),(vi 0),(vi 0),(vi 0),(vi 0),(vi 1),(vi 0),qx1,qaV,qx2,qaV,qaV,qaV,(vi 1),qnY,(vi 0),(.ptr 1 0),(.ptr 2 0),(.ptr 3 0),(.msl 4 0 1 1 1),(.own 5 1 1),qaV,(.own 6 1 1),(.mp 7)]
def qn5:Ob := .cells [(vi 1),(vi 1),(.mp 8),qaV]
def qtw:S:=[qrt,qn5,qpg,.cells [qaV,qaV],.cells [(vi 0)],.vec [(.ptr 10 0)],.vec [(.ptr 11 0)],.map [],.map [],qvD,qvE,qvF,qbL,qnZ,qg5,.cells [(.mp 21),(vi 0)],.cells (vs [0,0,0,0]),qn0,qn1,.map [],qn2,.map [],qn3,qn4,qbL,qbL]
def qtx:D:=(.sl (ds [0,0,0,0,1,0,0,0]) 2 false)
def qvG:List D:=[(di 0),(di 0),(di 0),qtx,(.lit (.slice none 0 0))]
def qvH:Ob := .map [((.int .i64 1),(.agg [(.gsl qvG 1 5 26),qaV]))]
def qty:Ob := .cells [(.ptr 13 0),(.ptr 14 0),(.ptr 15 0),(vi 0),(vi 2),(.own 27 2 4),(vi 0),(vi 0),(vi 0),qaV,qaV,qaV,qaV]
def qvI:Ob := .cells [(vi 1),(vi 0),(.fn 430 [] [(.ptr 16 0)])]
def qiA:Ob := .map [((.int .i64 0),(.dat (.agg (ds [0,0,0])))),((.int .i64 1),(.dat (.agg (ds [0,0,0]))))]
def qvJ:Ob := .cells [(vi 1),(.dat (.sl qmc 1 false)),(vi 0),(vi 0),(vi 0),(vi 0),qaV,qaV,(vi 0),(vi 0),(vi 0),(vi 0),(vi 0),(vi 0),(vi 1),(vi 0),qnY,(.ptr 1 0)]
def qru:Ob := .cells (vs [1,0,0,0,0,0,0,0,0,0,0,0,0,0,0,0,0,0,0,0,0,0,0,0,0,0,0,0,0,0,0,0,0,0,0,0,0,0,0,0,0,0,0,0,0,0,0,0,0,0,0,0,0,0,0,0,0,0,0,1])
def qvK:Ob := .map [((.int .i64 1),(.agg [(.gsl qvG 1 5 12),qaV]))]
def qrv:Ob := .cells [(.msl 13 0 60 60 1),qaV,(vi 0)]
def qph:Ob := .cells [(.ptr 14 0),(.ptr 15 0),(.ptr 16 0),(vi 0),(vi 2),(.own 17 2 4),(vi 0),(vi 0),(vi 0),qaV,qaV,qaV,qaV]
def qvL:Ob := .cells [(vi 1),(vi 0),(.fn 430 [] [(.ptr 18 0)])]
def qpi:Ob := .cells [(vi 1),(vi 0),(vi 12),(.ptr 19 0),(.ptr 20 0),(.mp 21),qaV,(vi 0),qaV,qaV,(vi 0),(.ptr 22 0)]
def qpj:Ob := .cells [(vi 1),(.dat (.sl qmc 1 false)),(vi 0),(vi 0),(vi 0),(vi 0),qaV,qaV,(vi 0),(vi 0),(vi 0),(vi 0),(vi 0),(vi 0),(vi 1),(vi 0),qnY,(.ptr 24 0)]
def qpk:Ob := .cells [(.ptr 24 0),(vi 12),qaV]
def qpl:Ob := .cells [(vi 1),(.dat (.sl qmc 1 false)),(vi 0),(vi 0),(vi 0),(vi 0),qaV,qaV,(vi 0),(vi 0),(vi 0),(vi 0),(vi 0),(vi 0),(vi 1),(vi 0),qnY,(.ptr 25 0)]
def qpm:Ob := .cells [(.msl 26 0 60 60 1),qaV,(vi 0)]
def qpn:Ob := .cells [(.msl 27 0 60 60 1),qaV,(vi 0)]
def qtz:List D:=[(di 0),(di 0),(di 0),(di 0),(di 0),(di 0),(di 0),(di 0),(di 0),(di 0),(di 0),(di 0),(di 0),(di 0),(di 0),(di 0),(di 0),(di 0),(di 0),(di 0),(di 0),(di 0),(di 0),(di 0),(.lit (.bool true)),(.lit (.bool false)),(.lit (.bool false)),(.lit (.bool false)),(.lit (.bool false)),(.lit (.bool false)),(.lit (.bool false)),(.lit (.bool false))]
def qtA:List D:=[(.lit (.int .u8 1)),(.lit (.int .u8 117)),(.lit (.int .u8 59)),(.lit (.int .u8 159)),(.lit (.int .u8 26)),(.lit (.int .u8 114)),(.lit (.int .u8 127)),(.lit (.int .u8 31)),(.lit (.int .u8 224)),(.lit (.int .u8 4))]
def qvM:D:=(.sl [(.sl (ds [0,0,0]) 1 false)] 1 false)
def qtB:List D:=[(di 0),(di 0),(di 0),qtx,(.lit (.slice none 0 0)),(di 0),(di 1),(di 0),(.lit (.slice none 0 0)),qvM]
def qtC:Ob := .cells [(vi 1),(vi 1),(.fn 430 [] [(.ptr 18 0)])]
def qvN:Ob := .cells [(vi 1),(.dat (.sl qmc 1 false)),(vi 0),(vi 0),(vi 0),(vi 0),qaV,qaV,(vi 0),(vi 0),(vi 0),(vi 0),(vi 0),(vi 0),(vi 1),(vi 0),qx1,qaV,qx2,qaV,qaV,qaV,(vi 0),qnY,(vi 1),(.ptr 1 0),(.ptr 2 0),(.ptr 3 0),(.msl 4 0 1 1 1),(.own 5 1 1),qaV,(.own 6 1 1),(.mp 7)]
def qvO:Ob := .cells [(vi 1),(vi 1),(.fn 430 [] [(.ptr 16 0)])]
def qvP:List D:=[(di 0),(di 0),(di 0),qtx,(.lit (.slice none 0 0)),(di 0),(di 1),(di 0),(.lit (.slice none 0 0)),(.lit (.slice none 0 0))]
def qvQ:Ob := .map [((.int .i64 1),(.agg [(.gsl qvP 2 5 12),qaV]))]
def qvR:Ob := .cells [(vi 1),(.dat (.sl qmc 1 false)),(vi 0),(vi 0),(vi 0),(vi 0),qaV,qaV,(vi 0),(vi 0),(vi 0),(vi 0),(vi 0),(vi 0),(vi 1),(vi 0),qx1,qaV,qx2,qaV,qaV,qaV,(vi 1),qnY,(vi 1),(.ptr 1 0),(.ptr 2 0),(.ptr 3 0),(.msl 4 0 1 1 1),(.own 5 1 1),qaV,(.own 6 1 1),(.mp 7)]
def qrw:S:=[qvN,.cells [(vi 1),(vi 0),(.mp 8),(.gsl qtz 1 32 9)],.cells [(vi 1),(.dat (.sl qmc 1 false)),(vi 0),(vi 0),(vi 0),(vi 0),qaV,qaV,(vi 0),(vi 0),(vi 0),(vi 0),(vi 0),(vi 0),(vi 1),(vi 0),qnY,(.ptr 10 0)],.cells [(.gsl qtA 10 1 11),(.gsl [(di 9),(di 10)] 1 2 12)],.cells [(vi 0)],.vec [(.ptr 13 0)],.vec [(.ptr 14 0)],.map [((.int .i64 1),(.agg [(.gsl qtB 2 5 15),qaV]))],.map [],.tip 32,.cells [(.msl 16 0 60 60 1),qaV,(vi 45)],.tip 10,.tip 2,.cells [(.ptr 17 0),(.ptr 18 0),(.ptr 19 0),(vi 0),(vi 2),(.own 20 2 4),(vi 0),(vi 0),(vi 0),qaV,qaV,qaV,qaV],.cells [(vi 1),(vi 1),(.fn 430 [] [(.ptr 21 0)])],.tip 10,qru,.cells [(vi 1),(vi 0),(vi 12),(.ptr 22 0),(.ptr 23 0),(.mp 24),qaV,(vi 0),qaV,qaV,(vi 0),(.ptr 25 0)],qg5,.cells [(.mp 26),(vi 0)],.vec (vs [0,0,0,0,1,0,0,0]),.cells (vs [0,0,0,0]),.cells [(vi 1),(.dat (.sl qmc 1 false)),(vi 0),(vi 0),(vi 0),(vi 0),qaV,qaV,(vi 0),(vi 0),(vi 0),(vi 0),(vi 0),(vi 0),(vi 1),(vi 0),qnY,(.ptr 27 0)],.cells [(.ptr 27 0),(vi 12),qaV],qiA,.cells [(vi 1),(.dat (.sl qmc 1 false)),(vi 0),(vi 0),(vi 0),(vi 0),qaV,qaV,(vi 0),(vi 0),(vi 0),(vi 0),(vi 0),(vi 0),(vi 1),(vi 0),qnY,(.ptr 28 0)],.map [],.cells [(.msl 29 0 60 60 1),qaV,(vi 0)],.cells [(.msl 30 0 60 60 1),qaV,(vi 0)],qbL,qbL]
def qvS:S:=[qvR,qn5,qpg,.cells [qaV,qaV],.cells [(vi 0)],.vec [(.ptr 10 0)],.vec [(.ptr 11 0)],qvQ,.map [],qrv,qph,qtC,.tip 10,qbL,qpi,qg5,.cells [(.mp 23),(vi 0)],.vec (vs [0,0,0,0,1,0,0,0]),.cells (vs [0,0,0,0]),qpj,qpk,qiA,qpl,.map [],qpm,qpn,qbL,qbL]
def xd0:Kn:=⟨363,[(.dat (.agg [(di 1),(.sl qmc 1 true),(di 0),(di 0),(di 0),(di 0),(.lit (.slice none 0 0)),(.lit (.slice none 0 0)),(di 0),(di 0),(di 0),(di 0),(di 0),(di 0),(di 1),(di 0),qzd,(.lit (.slice none 0 0)),(.sl (ds [0,0,0,0]) 1 true),(.lit (.slice none 0 0)),(.lit (.slice none 0 0)),(.lit (.slice none 0 0)),(di 0)]))],[],(.tup [(.ptr 0 0),(vi 0)]),qtv⟩
def xd1:Kn:=⟨363,[(.dat (.agg [(di 1),(.sl qmc 1 true),(di 0),(di 0),(di 0),(di 0),(.lit (.slice none 0 0)),(.lit (.slice none 0 0)),(di 0),(di 0),(di 0),(di 0),(di 0),(di 0),(di 1),(di 0),qzd,(.lit (.slice none 0 0)),(.sl (ds [0,0,0,0]) 1 true),(.lit (.slice none 0 0)),(.lit (.slice none 0 0)),(.lit (.slice none 0 0)),(di 1)]))],[],(.tup [(.ptr 0 0),(vi 0)]),qtw⟩
def xd2:Kn:=⟨437,[(.ptr 0 0),(vi 0)],qtv,(.tup []),[qx3,qyv,qpg,.cells [qaV,qaV],.cells [(vi 0)],.vec [(.ptr 10 0)],.vec [(.ptr 11 0)],qvH,.map [],qvD,qty,qvI,qbL,qnZ,qg5,.cells [(.mp 21),(vi 0)],.cells (vs [0,0,0,0]),qn0,qn1,qiA,qn2,.map [],qn3,qn4,qbL,qbL,.tip 5,.vec (vs [0,0,0,0,1,0,0,0])]⟩
def xd3:Kn:=⟨469,[(.ptr 0 0),(.dat (.sl (ds [0,0,0]) 1 false))],[qvJ,.cells [(.msl 2 0 60 60 1),qaV,(vi 0)],qbL],(.tup [qaV,(vi 11),(vi 0)]),[qvJ,.cells [(.msl 2 0 60 60 1),(.gsl (ds [13,0,11,0,48,0,49,0,50,0,1,0,2,0,3,0,2,0,1,1,2,1,3,0,1,2,2,0,3,0,58,0,1,3,2,0,3,0,4,0,1,4,2,0,3,1,5,0,3,0,1,5,2,0,3,1,5,1024,2,0,1,6,2,1,3,0,59,0,0,0,1,7,2,0,3,0,4,0,5,0,6,0,7,0,8,0,9,0,10,0]) 45 2 3),(vi 0)],qru,.tip 90]⟩
def xd4:Kn:=⟨438,[(.ptr 0 0)],[qx3,qyv,qpg,.cells [qaV,qaV],.cells [(vi 0)],.vec [(.ptr 10 0)],.vec [(.ptr 11 0)],qvK,.map [],qrv,qph,qvL,.tip 5,qbL,qpi,qg5,.cells [(.mp 23),(vi 0)],.vec (vs [0,0,0,0,1,0,0,0]),.cells (vs [0,0,0,0]),qpj,qpk,qiA,qpl,.map [],qpm,qpn,qbL,qbL],(.tup []),[qx3,.cells [(vi 1),(vi 0),(.mp 8),(.gsl qtz 1 32 28)],qpg,.cells [(.gsl qtA 10 1 29),(.gsl [(di 9),(di 10)] 1 2 30)],.cells [(vi 0)],.vec [(.ptr 10 0)],.vec [(.ptr 11 0)],.map [((.int .i64 1),(.agg [(.gsl qtB 2 5 12),qaV]))],.map [],.cells [(.msl 13 0 60 60 1),qaV,(vi 45)],qph,qtC,.tip 10,qru,qpi,qg5,.cells [(.mp 23),(vi 0)],.vec (vs [0,0,0,0,1,0,0,0]),.cells (vs [0,0,0,0]),qpj,qpk,qiA,qpl,.map [],qpm,qpn,qbL,qbL,.tip 32,.tip 10,.tip 2]⟩
def xd5:Kn:=⟨389,[(.ptr 0 0)],qtv,(.tup []),[qvN,.cells [(vi 1),(vi 0),(.mp 8),(.gsl qtz 1 32 26)],qpg,.cells [(.gsl qtA 10 1 27),(.gsl [(di 9),(di 10)] 1 2 28)],.cells [(vi 0)],.vec [(.ptr 10 0)],.vec [(.ptr 11 0)],.map [((.int .i64 1),(.agg [(.gsl qtB 2 5 29),qaV]))],.map [],.cells [(.msl 12 0 60 60 1),qaV,(vi 45)],.cells [(.ptr 13 0),(.ptr 14 0),(.ptr 15 0),(vi 0),(vi 2),(.own 30 2 4),(vi 0),(vi 0),(vi 0),qaV,qaV,qaV,qaV],qvO,qru,qnZ,qg5,.cells [(.mp 21),(vi 0)],.cells (vs [0,0,0,0]),qn0,qn1,qiA,qn2,.map [],qn3,qn4,qbL,qbL,.tip 32,.tip 10,.tip 2,.tip 10,.vec (vs [0,0,0,0,1,0,0,0])]⟩
def xd6:Kn:=⟨437,[(.ptr 0 0),(vi 0)],qtw,(.tup []),[qrt,qn5,qpg,.cells [qaV,qaV],.cells [(vi 0)],.vec [(.ptr 10 0)],.vec [(.ptr 11 0)],qvH,.map [],qvD,qty,qvI,qbL,qnZ,qg5,.cells [(.mp 21),(vi 0)],.cells (vs [0,0,0,0]),qn0,qn1,qiA,qn2,.map [],qn3,qn4,qbL,qbL,.tip 5,.vec (vs [0,0,0,0,1,0,0,0])]⟩
def xd7:Kn:=⟨438,[(.ptr 0 0)],[qrt,qn5,qpg,.cells [qaV,qaV],.cells [(vi 0)],.vec [(.ptr 10 0)],.vec [(.ptr 11 0)],qvK,.map [],qrv,qph,qvL,.tip 5,qbL,qpi,qg5,.cells [(.mp 23),(vi 0)],.vec (vs [0,0,0,0,1,0,0,0]),.cells (vs [0,0,0,0]),qpj,qpk,qiA,qpl,.map [],qpm,qpn,qbL,qbL],(.tup []),[qrt,qn5,qpg,.cells [qaV,qaV],.cells [(vi 0)],.vec [(.ptr 10 0)],.vec [(.ptr 11 0)],qvQ,.map [],qrv,qph,qtC,.tip 10,qbL,qpi,qg5,.cells [(.mp 23),(vi 0)],.vec (vs [0,0,0,0,1,0,0,0]),.cells (vs [0,0,0,0]),qpj,qpk,qiA,qpl,.map [],qpm,qpn,qbL,qbL]⟩
def xd8:Kn:=⟨389,[(.ptr 0 0)],qtw,(.tup []),[qvR,qn5,qpg,.cells [qaV,qaV],.cells [(vi 0)],.vec [(.ptr 10 0)],.vec [(.ptr 11 0)],.map [((.int .i64 1),(.agg [(.gsl qvP 2 5 26),qaV]))],.map [],qvD,qty,qvO,qbL,qnZ,qg5,.cells [(.mp 21),(vi 0)],.cells (vs [0,0,0,0]),qn0,qn1,qiA,qn2,.map [],qn3,qn4,qbL,qbL,.tip 10,.vec (vs [0,0,0,0,1,0,0,0])]⟩
def xd9:Kn:=⟨390,[(.ptr 0 0)],qrw,(.dat qvM),qrw⟩
def xd10:Kn:=⟨390,[(.ptr 0 0)],qvS,qaV,qvS⟩
def xd11:Kn:=⟨391,[(.ptr 0 0)],qrw,(vi 1),qrw⟩
def xd12:Kn:=⟨366,[],[],(.dat (.lit (.bool true))),[]⟩
end Go.Pm
end
section
set_option maxRecDepth 100000
namespace Go.Pm
open F
theorem qv7:xd0.ok prX:=qaK kn_nil 2000 (by kernel_rfl)
end Go.Pm
end
section
set_option maxRecDepth 100000
namespace Go.Pm
open F
theorem qwU:xd1.ok prX:=qaK kn_nil 2000 (by kernel_rfl)
end Go.Pm
end
section
set_option maxRecDepth 100000
namespace Go.Pm
open F
theorem qv9:xd2.ok prX:=qaK kn_nil 2000 (by kernel_rfl)
theorem qwa:xd3.ok prX:=qaK kn_nil 2000 (by kernel_rfl)
end Go.Pm
end
section
set_option maxRecDepth 100000
namespace Go.Pm
open F
theorem qvw:xd4.ok prX:=qaK (kn_cons qwa kn_nil) 2000 (by kernel_rfl)
end Go.Pm
end
section
set_option maxRecDepth 100000
namespace Go.Pm
open F
theorem qxh:xd5.ok prX:=qaK (kn_cons qv9 (kn_cons qvw kn_nil)) 2000 (by kernel_rfl)
theorem qxi:xd6.ok prX:=qaK kn_nil 2000 (by kernel_rfl)
theorem qxj:xd7.ok prX:=qaK kn_nil 2000 (by kernel_rfl)
theorem qxk:xd8.ok prX:=qaK (kn_cons qxi (kn_cons qxj kn_nil)) 2000 (by kernel_rfl)
theorem qxl:xd9.ok prX:=qaK kn_nil 2000 (by kernel_rfl)
theorem qu4:xd10.ok prX:=qaK kn_nil 2000 (by kernel_rfl)
end Go.Pm
end
section
set_option maxRecDepth 100000
namespace Go.Pm
open F
theorem qt6:xd11.ok prX:=qaK kn_nil 2000 (by kernel_rfl)
theorem qt7:xd12.ok prX:=qaK (kn_cons qv7 (kn_cons qwU (kn_cons qxh (kn_cons qxk (kn_cons qxl (kn_cons qu4 (kn_cons qt6 kn_nil))))))) 2000 (by kernel_rfl)
end Go.Pm
end
