/- Statements: the checker, rows. Check, both. The rule language in plain Lean: one assignment of an expression, printed either way, and read back. No program in sight. The abstract machine's program, printed by a program of our own: group Law14. Chapter 14's law TypecheckPrinted. The abstract machine's program, printed by a program of our own: group 4n. The abstract machine's programs: tables of functions. Chapter 13's laws, over the whole table. Chapter 14's law TypecheckPrinted, over the whole table. -/
import Derived.Test.YtjdbkncfebebnaaDoorPmF4rn
import Derived.Test.YtjdbkncfebebnaaDoorPmFx
import Derived.Test.YtjdbkncfebebnaaDoorPmYh
import Derived.Test.YtjdbkncfebebnaaDoorPmF4
import Derived.Test.YtjdbkncfebebnaaDoorPmF3
import Derived.Test.YtjdbkncfebebnaaDoorPmOh
import Derived.KernelRfl
set_option linter.unusedSimpArgs false
set_option linter.unusedVariables false
section ST4e
namespace Go.Pm
open F
theorem qfV : ∀ (ss:Ss) (i:Nat) (cs:List D) (N:Nat) (fl:Bool),cs.drop (i*4)=ss.fo.cells->N=i+ss.fo.len->i+ss.fo.size<2^40 ->
  ∃ g,Z qaD (.loop 1 F37l0 (qkw i N (.sl cs N fl)) [.map qct,.cells [.mp 0]])=qpY N (.sl cs N fl) ss.well g
 | .nil,i,cs,N,fl,hc,hN,hb=>by
  simp only[Ss.fo,qbd,Nat.add_zero] at hN
  subst hN
  exact qol _ _
 | .assign f s e r,i,cs,N,fl,hc,hN,hb=>by
  simp only[Ss.fo,qav,qaN,qaq] at hc hN hb
  have:=qcg r.fo
  exact qeZ qnH hc (by omega) (by omega) fun _=>qfV r (i+1) cs N fl (qbr hc) (by omega) (by omega)
 | .store f s a b r,i,cs,N,fl,hc,hN,hb=>by
  simp only[Ss.fo,qav,qaN,qaq] at hc hN hb
  have:=qcg r.fo
  exact qeZ qpm hc (by omega) (by omega) fun _=>qfV r (i+1) cs N fl (qbr hc) (by omega) (by omega)
 | .effect f a b r,i,cs,N,fl,hc,hN,hb=>by
  simp only[Ss.fo,qav,qaN,qaq] at hc hN hb
  have:=qcg r.fo
  exact qeZ qnI hc (by omega) (by omega) fun _=>qfV r (i+1) cs N fl (qbr hc) (by omega) (by omega)
 | .stop r,i,cs,N,fl,hc,hN,hb=>by
  simp only[Ss.fo,qav,qaN,qaq] at hc hN hb
  have:=qcg r.fo
  have h:=qeZ (wr:=r.well) qru hc (by omega) (by omega) fun _=>qfV r (i+1) cs N fl (qbr hc) (by omega) (by omega)
  rw[Bool.true_and] at h
  exact h
 | .cond w f c b r,i,cs,N,fl,hc,hN,hb=>by
  simp only[Ss.fo,qav,qaN,qaq,qdz] at hc hN hb
  have:=qcg r.fo
  have hw:=qrv (c:=c) (f:=f) (s:=⟨#[]⟩) w (qfu (f:=false) (qfV b 0 b.fo.cells b.fo.len false rfl (by omega) (by omega)))
  exact qeZ hw hc (by omega) (by omega) fun _=>qfV r (i+1) cs N fl (qbr hc) (by omega) (by omega)
 | .block f b r,i,cs,N,fl,hc,hN,hb=>by
  simp only[Ss.fo,qav,qaN,qaq] at hc hN hb
  have:=qcg r.fo
  have hw:Z qaD (.call 30 [.agg [.mp 0],nd 7 0 ⟨#[]⟩ f b.fo] [.map qct])=some (.ret (.bool b.well) [.map qct]):=by
   refine qlP ?_
   have h:=qfu (f:=f) (qfV b 0 b.fo.cells b.fo.len f rfl (by omega) (by omega))
   cases hb:b.fo.len with
   | zero=>
    have hn:b = .nil:=by cases b<;>simp[Ss.fo] at hb; rfl
    subst hn
    exact qom
   | succ n=>rw[qmO,<- hb]; exact h
  exact qeZ hw hc (by omega) (by omega) fun _=>qfV r (i+1) cs N fl (qbr hc) (by omega) (by omega)
theorem qcC (f:Bool) (b:Ss) (h:b.fo.size<2^40):Z qaD (.call 30 [.agg [.mp 0],nd 7 0 ⟨#[]⟩ f b.fo] [.map qct])=some (.ret (.bool b.well) [.map qct]):=by
 refine qlP ?_
 have h:=qfu (f:=f) (qfV b 0 b.fo.cells b.fo.len f rfl (by omega) (by omega))
 cases hb:b.fo.len with
 | zero=>
  have hn:=qgr hb
  subst hn
  exact qom
 | succ n=>rw[qmO,<- hb]; exact h
section
variable {e a b c:E} {f:Bool} {s:ByteArray}
attribute [local simp] qae qac V.len qan
end
end Go.Pm
end ST4e
section ST4g
namespace Go.Pm
open F
abbrev cfr (r:D) (i:Int):Fr:=[(1,.ptr 0 0),(3,.ptr 1 0),(8,.dat r),(9,.int i)]
abbrev qit (a b c:Nd):S:=[qsd a b c,.cells [.mp 2],.map qct]
section
variable {a b c:Nd}
theorem qs3 {h:Hd} (hb:h.ks.size<2^25) (hw:h.well=true):Z qaD (.loop 0 F12l0 (cfr (ru h.nd b c) 0) (qit h.nd b c))=Z qaD (.loop 0 F12l0 (cfr (ru h.nd b c) 1) (qit h.nd b c)):=by
 have w1:=qag 1 (by omega)
 conv=>lhs; rw[qac]
 cases h with
 | none=>
  simp[qae,qb4,w1,Hd.k,Hd.f,Hd.ks,Nd.d]
  exact qam (by simp[Hd.k,Hd.f,Hd.ks,Nd.d])
 | some f q=>
  have h1:=qcC f q (by simp only[Hd.ks] at hb; omega)
  simp only[Hd.well] at hw
  simp only[hw] at h1
  simp[qae,qb4,w1,Hd.k,Hd.f,Hd.ks,Nd.d,h1]
  exact qam (by simp[Hd.k,Hd.f,Hd.ks,Nd.d])
theorem qqR {h:Hd} (hb:h.ks.size<2^25) (hw:h.well=false) : ∃ g,Z qaD (.loop 0 F12l0 (cfr (ru h.nd b c) 0) (qit h.nd b c))=some (.out .ret [(2,.int 13)] (qit h.nd b c++[g])):=by
 cases h with
 | none=>simp[Hd.well] at hw
 | some f q=>
  have h1:=qcC f q (by simp only[Hd.ks] at hb; omega)
  simp only[Hd.well] at hw
  simp only[hw] at h1
  refine⟨.cells [.int 7,.int 0,.str ⟨#[]⟩,.dat (kd f q.fo.len q.fo.cells)],?_⟩
  rw[qac]
  simp[qae,qb4,Hd.k,Hd.f,Hd.ks,Nd.d,h1]
theorem qs4 {h:Hd} (hb:h.ks.size<2^25) (hw:h.well=true):Z qaD (.loop 0 F12l0 (cfr (ru a h.nd c) 1) (qit a h.nd c))=Z qaD (.loop 0 F12l0 (cfr (ru a h.nd c) 2) (qit a h.nd c)):=by
 have w1:=qag 2 (by omega)
 conv=>lhs; rw[qac]
 cases h with
 | none=>
  simp[qae,qb4,w1,Hd.k,Hd.f,Hd.ks,Nd.d]
  exact qam (by simp[Hd.k,Hd.f,Hd.ks,Nd.d])
 | some f q=>
  have h1:=qcC f q (by simp only[Hd.ks] at hb; omega)
  simp only[Hd.well] at hw
  simp only[hw] at h1
  simp[qae,qb4,w1,Hd.k,Hd.f,Hd.ks,Nd.d,h1]
  exact qam (by simp[Hd.k,Hd.f,Hd.ks,Nd.d])
theorem qqS {h:Hd} (hb:h.ks.size<2^25) (hw:h.well=false) : ∃ g,Z qaD (.loop 0 F12l0 (cfr (ru a h.nd c) 1) (qit a h.nd c))=some (.out .ret [(2,.int 13)] (qit a h.nd c++[g])):=by
 cases h with
 | none=>simp[Hd.well] at hw
 | some f q=>
  have h1:=qcC f q (by simp only[Hd.ks] at hb; omega)
  simp only[Hd.well] at hw
  simp only[hw] at h1
  refine⟨.cells [.int 7,.int 0,.str ⟨#[]⟩,.dat (kd f q.fo.len q.fo.cells)],?_⟩
  rw[qac]
  simp[qae,qb4,Hd.k,Hd.f,Hd.ks,Nd.d,h1]
theorem qs5 {h:Hd} (hb:h.ks.size<2^25) (hw:h.well=true):Z qaD (.loop 0 F12l0 (cfr (ru a b h.nd) 2) (qit a b h.nd))=Z qaD (.loop 0 F12l0 (cfr (ru a b h.nd) 3) (qit a b h.nd)):=by
 have w1:=qag 3 (by omega)
 conv=>lhs; rw[qac]
 cases h with
 | none=>
  simp[qae,qb4,w1,Hd.k,Hd.f,Hd.ks,Nd.d]
  exact qam (by simp[Hd.k,Hd.f,Hd.ks,Nd.d])
 | some f q=>
  have h1:=qcC f q (by simp only[Hd.ks] at hb; omega)
  simp only[Hd.well] at hw
  simp only[hw] at h1
  simp[qae,qb4,w1,Hd.k,Hd.f,Hd.ks,Nd.d,h1]
  exact qam (by simp[Hd.k,Hd.f,Hd.ks,Nd.d])
theorem qqT {h:Hd} (hb:h.ks.size<2^25) (hw:h.well=false) : ∃ g,Z qaD (.loop 0 F12l0 (cfr (ru a b h.nd) 2) (qit a b h.nd))=some (.out .ret [(2,.int 13)] (qit a b h.nd++[g])):=by
 cases h with
 | none=>simp[Hd.well] at hw
 | some f q=>
  have h1:=qcC f q (by simp only[Hd.ks] at hb; omega)
  simp only[Hd.well] at hw
  simp only[hw] at h1
  refine⟨.cells [.int 7,.int 0,.str ⟨#[]⟩,.dat (kd f q.fo.len q.fo.cells)],?_⟩
  rw[qac]
  simp[qae,qb4,Hd.k,Hd.f,Hd.ks,Nd.d,h1]
theorem qs6:Z qaD (.loop 0 F12l0 (cfr (ru a b c) 3) (qit a b c))=some (.out (.exit 0) [(1,.ptr 0 0),(3,.ptr 1 0),(8,.dat (ru a b c)),(9,.int 3),(10,.bool false)] (qit a b c)):=by
 rw[qac]
 simp[qae,qb4]
end
def chk (a b c:Hd):Int:=if (a.well&&(b.well&&c.well))=true then (if 16<(rvars a.nd b.nd c.nd).length then 2 else 0) else 13
section
variable {a b c:Hd}
theorem qqU (ha:a.ks.size<2^25) (hb:b.ks.size<2^25) (hc:c.ks.size<2^25):if (a.well&&(b.well&&c.well))=true then Z qaD (.loop 0 F12l0 (cfr (ru a.nd b.nd c.nd) 0) (qit a.nd b.nd c.nd))=some (.out (.exit 0) [(1,.ptr 0 0),(3,.ptr 1 0),(8,.dat (ru a.nd b.nd c.nd)),(9,.int 3),(10,.bool false)] (qit a.nd b.nd c.nd))
  else∃g,Z qaD (.loop 0 F12l0 (cfr (ru a.nd b.nd c.nd) 0) (qit a.nd b.nd c.nd))=some (.out .ret [(2,.int 13)] (qit a.nd b.nd c.nd++[g])):=by
 cases wa:a.well with
 | false=>simpa using qqR ha wa
 | true=>
  rw[qs3 ha wa]
  cases wb:b.well with
  | false=>simpa using qqS hb wb
  | true=>
   rw[qs4 hb wb]
   cases wc:c.well with
   | false=>simpa using qqT hc wc
   | true=>rw[qs5 hc wc]; simpa using qs6
theorem qnk (ha:a.ks.size<2^25) (hb:b.ks.size<2^25) (hc:c.ks.size<2^25):Z qaD (.call 12 [.dat (ru a.nd b.nd c.nd)] [])=some (.ret (.int (chk a b c)) []):=by
 have h:=qqU ha hb hc
 have hv:=qgP qcp (qft (a:=a.nd) (b:=b.nd) (c:=c.nd) ha hb hc)
 have hg:Z qaD (.loop 0 F12l0 [(1,.ptr 0 0),(3,.ptr 2 0),(8,.dat (ru a.nd b.nd c.nd)),(9,.int 0)] [qsd a.nd b.nd c.nd,.map qct,.cells [.mp 1]])=Z qaD (.loop 0 F12l0 (cfr (ru a.nd b.nd c.nd) 0) (qit a.nd b.nd c.nd)):=qam (by simp[Nd.d,Hd.k,Hd.f,Hd.ks])
 rw[<- hg] at h
 refine qaa (pf:=F12) rfl rfl ?_
 unfold chk
 simp only[cfr,qit,qsd,ru,Nd.d,qvY,qwy,qvZ,qwz,qib,List.cons_append,List.nil_append] at h hv
 cases hw:(a.well&&(b.well&&c.well)) with
 | false=>
  rw[hw] at h
  obtain⟨g,h⟩:=h
  simp[F12,ru,Nd.d,h,qep]
 | true=>
  rw[hw,if_pos rfl] at h
  rw[if_pos rfl]
  by_cases h16:16<(rvars a.nd b.nd c.nd).length
  ·have h16':(16:Int)<(rvars a.nd b.nd c.nd).length:=by omega
   simp[F12,ru,Nd.d,h,qep,hv,h16,h16']
  ·have h16' : ¬ (16:Int)<(rvars a.nd b.nd c.nd).length:=by omega
   simp[F12,ru,Nd.d,h,qep,hv,h16,h16']
end
end Go.Pm
end ST4g
section SWa
namespace Go.Pm
theorem qcK (f:Bool) : ∀ (e:E) {r r':Fo},r.eqv r'=true->((e.fl f).fo r).eqv (e.fo r')=true
 | .int n,r,r',h=>by simp[E.fl,E.fo,Fo.eqv,h]
 | .bool n,r,r',h=>by simp[E.fl,E.fo,Fo.eqv,h]
 | .var s,r,r',h=>by simp[E.fl,E.fo,Fo.eqv,h]
 | .name s,r,r',h=>by simp[E.fl,E.fo,Fo.eqv,h]
 | .field _ s e,r,r',h=>by simp[E.fl,E.fo,Fo.eqv,h,qcK f e (r := .nil) (r' := .nil) rfl]
 | .un _ n e,r,r',h=>by simp[E.fl,E.fo,Fo.eqv,h,qcK f e (r := .nil) (r' := .nil) rfl]
 | .bin _ o a b,r,r',h=>by simp[E.fl,E.fo,Fo.eqv,h,qcK f a (qcK f b (r := .nil) (r' := .nil) rfl)]
theorem qcL (f fi fb:Bool) : ∀ (s:Ss),((s.fl f fi fb).fo).eqv s.fo=true
 | .nil=>rfl
 | .assign _ s e r=>by simp[Ss.fl,Ss.fo,Fo.eqv,qcK f e (r := .nil) (r' := .nil) rfl,qcL f fi fb r]
 | .store _ s a b r=>by simp[Ss.fl,Ss.fo,Fo.eqv,qcK f a (qcK f b (r := .nil) (r' := .nil) rfl),qcL f fi fb r]
 | .effect _ a b r=>by simp[Ss.fl,Ss.fo,Fo.eqv,qcK f a (qcK f b (r := .nil) (r' := .nil) rfl),qcL f fi fb r]
 | .stop r=>by simp[Ss.fl,Ss.fo,Fo.eqv,qcL f fi fb r]
 | .cond w _ c b r=>by cases w<;>simp[Ss.fl,Ss.fo,Fo.eqv,qcK f c (qcL f fi fb b),qcL f fi fb r]
 | .block _ b r=>by simp[Ss.fl,Ss.fo,Fo.eqv,qcL f fi fb b,qcL f fi fb r]
theorem qjC : ∀ {a b:Fo},a.eqv b=true->a.size=b.size
 | .nil,.nil,_=>rfl
 | .cons ..,.cons ..,h=>by
  simp only[Fo.eqv,Bool.and_eq_true] at h
  simp only[Fo.size,qjC h.2.1,qjC h.2.2]
 | .nil,.cons ..,h=>by cases h
 | .cons ..,.nil,h=>by cases h
end Go.Pm
end SWa
section SFLaw14
namespace Go.Pm.F
variable (C:Task->Option Res) (q:Nat) (fr:Fr) (σ : S)
def F10:PFun:=⟨0,[.tmp 0],.seq (rn [mx 0 kF] []) (.seq (rn [jj 8 (.build [zN,zN,eN,sN] [(0,1,(kk 8)),(1,1,(kk 1))]),jj 1 (.alloc [zN,zN,eN,sN]),st 4 1 8] [1]) (.seq (rn [jj 9 (.build [zN,zN,eN,sN] [(0,1,(kk 10)),(2,1,(.c (.string ⟨#[118]⟩)))]),jj 2 (.alloc [zN,zN,eN,sN]),st 4 2 9] [1,2]) (.seq (rn [la 10 4 1,la 11 4 1,jj 12 (.bslice 2 [zN,zN,eN,sN,zN,zN,eN,sN] [(0,4,(.t 10)),(4,4,(.t 11))]),jj 13 (.build [zN,zN,eN,sN] [(0,1,(kk 14)),(2,1,(.c (.string ⟨#[43]⟩))),(3,1,(.t 12))]),jj 3 (.alloc [zN,zN,eN,sN]),st 4 3 13] [1,2,3]) (.seq (rn [la 14 4 3,la 15 4 2,jj 16 (.bslice 2 [zN,zN,eN,sN,zN,zN,eN,sN] [(0,4,(.t 14)),(4,4,(.t 15))]),jj 17 (.build [zN,zN,eN,sN] [(0,1,(kk 14)),(2,1,(.c (.string ⟨#[60]⟩))),(3,1,(.t 16))]),jj 4 (.alloc [zN,zN,eN,sN]),st 4 4 17] [1,2,4]) (.seq (rn [la 18 4 1,jj 19 (.build [zN,zN,eN,sN] [(0,1,(kk 7))]),jj 20 (.build [zN,zN,eN,sN] [(0,1,(kk 7))]),jj 21 (.bslice 3 [zN,zN,eN,sN,zN,zN,eN,sN,zN,zN,eN,sN] [(0,4,(.t 18)),(4,4,(.t 19)),(8,4,(.t 20))]),jj 22 (.build [zN,zN,eN,sN] [(0,1,(kk 3)),(3,1,(.t 21))]),jj 5 (.alloc [zN,zN,eN,sN]),st 4 5 22] [2,4,5]) (.seq (rn [la 23 4 2,jj 24 (.bslice 1 [zN,zN,eN,sN] [(0,4,(.t 23))]),jj 25 (.build [zN,zN,eN,sN] [(0,1,(kk 1)),(2,1,(.c (.string ⟨#[119]⟩))),(3,1,(.t 24))]),jj 6 (.alloc [zN,zN,eN,sN]),st 4 6 25] [4,5,6]) (.seq (rn [la 26 4 6,cl 27 18 [26],cl 28 15 [27],mv 7 28] [4,5,6,7]) (.seq (rn [la 29 4 4,cl 30 8 [29],bk 31 .eql 30 2,mv 32 31,jt 33 32 (.load true 4 (.t 5)),jt 34 32 (.call 18 [(.t 33)]),jt 35 32 (.call 12 [(.t 34)]),jt 36 32 (.bin .eql (.t 35) (kk 13)),jj 37 (.pick (.t 32) (.t 36) kF),mv 38 37,jt 39 38 (.load true 4 (.t 6)),jt 40 38 (.call 18 [(.t 39)]),jt 41 38 (.call 12 [(.t 40)]),jt 42 38 (.bin .eql (.t 41) (kk 0)),jj 43 (.pick (.t 38) (.t 42) kF),mv 44 43,jt 45 44 (.mov (.t 7)),jt 46 44 (.bslice 2 [eN,eN] [(0,1,(.c (.string ⟨#[119]⟩))),(1,1,(.c (.string ⟨#[118]⟩)))]),jt 47 44 (.call 14 [(.t 45),(.t 46)]),jj 48 (.pick (.t 44) (.t 47) kF),mv 0 48] [0]) (.ret))))))))),false,false,false⟩
def F224:PFun:=⟨1,[.tmp 2],.seq (rn [mx 2 kF] [0]) (.seq (rn [mv 8 0,cl 9 11 [8],jj 3 (.alloc [zN,zN,eN,sN,zN,zN,eN,sN,zN,zN,eN,sN]),st 12 3 9] [3]) (.seq (rn [la 10 12 3,cl 11 231 [10],mv 4 11] [3,4]) (.seq (.seq (rn [mv 12 4,lz 13 12,bk 14 .gtr 13 2000] [3,4,14]) (.cond (.t 14) (.seq (rn [jj 15 (.call 10 []),mv 2 15] [2]) (.ret)) (.skip))) (.seq (rn [mv 17 4,cl 18 228 [17],mv 16 18,ex 19 16 0,ex 20 16 1,ex 21 16 2,jj 5 (.alloc [zN,zN,eN,sN,zN,zN,eN,sN,zN,zN,eN,sN]),st 12 5 19,mv 6 20,mv 7 21] [3,5,7]) (.seq (.region (some []) [mv 22 7,bk 23 .eql 22 0,mv 24 23,jt 25 24 (.load true 12 (.t 5)),jt 26 24 (.call 12 [(.t 25)]),⟨some 27,.load true 12 (.t 3),some (24,true),[4]⟩,jt 28 24 (.call 12 [(.t 27)]),jt 29 24 (.bin .eql (.t 26) (.t 28)),jj 30 (.pick (.t 24) (.t 29) kF),mv 31 30,jt 32 31 (.load true 12 (.t 5)),jt 33 31 (.call 15 [(.t 32)]),⟨some 34,.load true 12 (.t 3),some (31,true),[11]⟩,jt 35 31 (.call 15 [(.t 34)]),jt 36 31 (.call 14 [(.t 33),(.t 35)]),jj 37 (.pick (.t 31) (.t 36) kF),mv 38 37,jt 39 38 (.call 10 []),jj 40 (.pick (.t 38) (.t 39) kF),mv 2 40] [2] [6,13,14,17]) (.ret)))))),false,false,false⟩
end Go.Pm.F
end SFLaw14
section ST8
namespace Go.Pm
open F
set_option maxHeartbeats 8000000
theorem qiz {s:ByteArray} (h:qnO s):s.size<=8:=by
 obtain⟨h1,h2,h3,h4⟩:=h
 have hl:(byl s).length=s.size:=by simp[byl]
 have hb:bs (byl s)=s:=qeH s
 rcases h1 with ⟨c,r,e,_,_,h⟩ | ⟨c,r,e,h,_⟩ | h | ⟨c,e,_⟩
 ·rw[hb] at h
  rw[<- hl]
  exact Nat.le_of_not_lt fun h8=>h ⟨h8,h3,h4⟩
 ·exfalso
  have hs:s=bs (c::r):=by rw[<- hb,e]
  rw[hs] at h2
  have h2':qaQ c=true:=h2
  simp only[qaQ,qas,Bool.and_eq_true,decide_eq_true_eq] at h2' h
  omega
 ·rw[hb] at h
  have : ∀ s∈qdw,s.size<=8:=by decide
  exact this s h
 ·rw[<- hl,e]
  simp
theorem qhy {s:ByteArray} (h:s∈fieldNames):s.size<=8:=by
 have : ∀ s∈fieldNames,s.size<=8:=by decide
 exact this s h
theorem qbF : ∀ e:E,e.good->e.cost<=20*e.size
 | .int n,h=>by have:=qpH (n:=n.toNat) (by have:=h.2; omega); simp only[E.cost,qg4]; omega
 | .bool n,h=>by simp only[E.cost,qkp]; split<;>omega
 | .var s,h=>by have:=qiz h; simp only[E.cost,qg5]; omega
 | .name s,h=>by
  have:s.size<=5:=by rcases h with rfl | rfl | rfl<;>decide
  simp only[E.cost,qf4]; omega
 | .field _ s e,h=>by have:=qhy h.1; have:=qbF e h.2; simp only[E.cost,qeX]; omega
 | .un _ _ e,h=>by have:=qbF e h; simp only[E.cost,qjy]; omega
 | .bin _ o a b,h=>by
  have:=qbF a h.1
  have:=qbF b h.2
  have:o.str.size<=2:=by cases o<;>decide
  simp only[E.cost,qg6]; omega
theorem qbX : ∀ (s:Ss) (m:Option Nat),s.good m->s.cost<=40*s.fo.size
 | .nil,m,h=>Nat.zero_le _
 | .assign _ s e r,m,h=>by
  have:=qiz h.2.1
  have:=qbF e h.2.2.1
  have:=qbX r _ h.2.2.2
  simp only[Ss.cost,Ss.fo,qaq,qdz,qbg]; omega
 | .store _ s a b r,m,h=>by
  have:=qhy h.2.1
  have:=qbF a h.2.2.1
  have:=qbF b h.2.2.2.1
  have:=qbX r _ h.2.2.2.2
  simp only[Ss.cost,Ss.fo,qaq,qdz,qbg]; omega
 | .effect _ a b r,m,h=>by
  have:=qbF a h.2.1
  have:=qbF b h.2.2.1
  have:=qbX r _ h.2.2.2
  simp only[Ss.cost,Ss.fo,qaq,qdz,qbg]; omega
 | .stop r,m,h=>by
  have:=qbX r _ h.2
  simp only[Ss.cost,Ss.fo,qaq,qbg]; omega
 | .cond w _ c b r,m,h=>by
  have:=qbF c h.2.1
  have:=qbX b _ h.2.2.1
  have:=qbX r _ h.2.2.2
  simp only[Ss.cost,Ss.fo,qaq,qdz]
  split<;>omega
 | .block _ b r,m,h=>by
  obtain⟨n,_,h1,h2⟩:=h
  have:=qbX b _ h1
  have:=qbX r _ h2
  simp only[Ss.cost,Ss.fo,qaq]
  split<;>omega
theorem qkX {h:Hd} (ht:h.tr):h.cost<=200000:=by
 obtain⟨h1,h2⟩:=ht
 cases h with
 | none=>exact Nat.zero_le _
 | some f b=>
  have h3:=qbX b _ (h1 b rfl).1
  simp only[Hd.ks] at h2
  simp only[Hd.cost]
  omega
theorem qjk : ∀ {a b:Fo},a.eqv b=true->a.vars=b.vars
 | .nil,.nil,_=>rfl
 | .cons ..,.cons ..,h=>by
  simp only[Fo.eqv,Bool.and_eq_true,decide_eq_true_eq] at h
  simp only[Fo.vars,qjk h.2.1,qjk h.2.2,h.1.1,h.1.2.2]
 | .nil,.cons ..,h=>by cases h
 | .cons ..,.nil,h=>by cases h
theorem qtw (f:Bool) (e:E):(e.fl f).ty=e.ty:=by induction e<;>simp_all [E.fl,E.ty]
theorem qpf (f fi fb:Bool) (s:Ss):(s.fl f fi fb).well=s.well:=by
 induction s<;>simp_all [Ss.fl,Ss.well,qtw]
def Hd.re (h:Hd):Hd:=hdO (h.opt.map (·.fl true true false))
theorem qkY (h:Hd):h.re.well=h.well:=by
 cases h with
 | none=>rfl
 | some f b=>exact qpf true true false b
theorem qkZ (h:Hd):h.re.nd.vars=h.nd.vars:=by
 cases h with
 | none=>rfl
 | some f b=>
  have:=qjk (qcL true true false b)
  simp only[Hd.re,Hd.opt,Option.map_some,hdO,Nd.vars,qvY,qvZ,qib,Hd.k,Hd.ks,this]
  rfl
theorem qk0 (h:Hd):h.re.ks.size=h.ks.size:=by
 cases h with
 | none=>rfl
 | some f b=>exact qjC (qcL true true false b)
theorem qrl {prog:Nat->Option PFun} (h14:prog 14=some F14) (l:List ByteArray) (hl:l.length<2^40):Z prog (.call 14 [.dat (qks l),.dat (qks l)] [])=some (.ret (.bool true) []):=by
 have hloop : ∀ (k i:Nat),i+k=l.length->Z prog (.loop 0 F14l0 [(0,.dat (qks l)),(1,.dat (qks l)),(5,.int i)] [])=some (.out (.exit 0) [(0,.dat (qks l)),(1,.dat (qks l)),(5,.int l.length),(14,.bool false)] []):=by
  intro k
  induction k with
  | zero=>
   intro i hi
   obtain rfl:i=l.length:=by omega
   rw[qac]
   simp[qae,qj8]
  | succ k ih=>
   intro i hi
   have hlt:(i:Int)<l.length:=by omega
   have hne:l≠[]:=fun e=>by rw[e] at hi; simp at hi
   have w1:IntKind.i64.wrap ((i:Int)+1)=((i+1:Nat):Int):=by rw[qag _ (by omega)]; omega
   obtain⟨s,_,hc⟩:=qoe (l:=l) (p:=(i:Int)) ⟨by omega,hlt⟩
   have hat:=qnT (strC l) l.length false (i:Int) (by omega) (by omega)
   rw[<- qob hne] at hat
   simp only[Int.toNat_natCast] at hat hc
   have e:=ih (i+1) (by omega)
   rw[<- e]
   conv=>lhs; rw[qac]
   generalize ((i+1:Nat):Int)=i1 at *
   have es:eqS s s=true:=by rw[qbU]; simp
   simp[qae,qj8,hlt,hat,hc,w1,es,List.range_succ]
 have z:=hloop l.length 0 (by omega)
 refine qaa h14 rfl ?_
 have z':Z prog (.loop 0 F14l0 [(0,.dat (qks l)),(1,.dat (qks l)),(5,.int 0)] [])=_:=z
 simp[F14,z']
theorem qfS {prog:Nat->Option PFun} (H:Has prog) (hT:Sub tT prog) (h4:Sub qaD prog) (h14:prog 14=some F14) (hF:prog 224=some F224) (zl:Z prog (.call 10 [] [])=some (.ret (.bool true) []))
  {v:D} {xs:List Int} (hv:RowV v xs) (hx : ∀ x∈xs,I64 x):Z prog (.call 224 [.dat v] [])=some (.ret (.bool true) []):=by
 obtain⟨a,b,c,ha,hb,hc,zt⟩:=qtz hT H.b hv hx
 have hg : ∀ k,qgM (Hd.opts a b c k):=fun | 0=>ha.1 | 1=>hb.1 | _+2=>hc.1
 have hlen:(qe8 false (qb9 (Hd.opts a b c))).length<=600000:=by
  have:=qpI a b c
  have:=qkX ha
  have:=qkX hb
  have:=qkX hc
  omega
 have zp:=qgP H.q (qrX hg (by omega))
 obtain⟨P,hP⟩ : ∃ P,P=bs (qe8 false (qb9 (Hd.opts a b c))):=⟨_,rfl⟩
 have hPs:P.size=(qe8 false (qb9 (Hd.opts a b c))).length:=by rw[hP,qbh]
 have k0:=hv.one
 have k1:=hv.cells
 by_cases hbig:2000<P.size
 ·have hb1:(2000:Int)<P.size:=by omega
  rw[<- hP] at zp
  clear hP hlen hPs
  generalize a.nd=A at *
  generalize b.nd=B at *
  generalize c.nd=C at *
  simp only[ru] at zt zp
  refine qaa hF rfl ?_
  simp -implicitDefEqProofs [F224,k0,k1,zt,zp,hb1,zl,V.len,List.range_succ]
 ·have hb1 : ¬ (2000:Int)<P.size:=by omega
  obtain⟨r1,p1⟩:=qlf (f:=true) (fi:=true) (fb:=false) hg (by omega)
  rw[<- hP] at zp p1
  obtain⟨A,B,C,e1,e2,e3,z1⟩:=qv3 H (s:=P) (by omega) p1
  have f1:A=a.re.nd:=e1
  have f2:B=b.re.nd:=e2
  have f3:C=c.re.nd:=e3
  have s1:=qk0 a
  have s2:=qk0 b
  have s3:=qk0 c
  have t1:=ha.2
  have t2:=hb.2
  have t3:=hc.2
  have zc:=qgP h4 (qnk (a:=a) (b:=b) (c:=c) (by omega) (by omega) (by omega))
  have zc':=qgP h4 (qnk (a:=a.re) (b:=b.re) (c:=c.re) (by omega) (by omega) (by omega))
  have zv:=qgP h4 (qgP qcp (qft (a:=a.nd) (b:=b.nd) (c:=c.nd) (by rw[qib]; omega) (by rw[qib]; omega) (by rw[qib]; omega)))
  have zv':=qgP h4 (qgP qcp (qft (a:=a.re.nd) (b:=b.re.nd) (c:=c.re.nd) (by rw[qib]; omega) (by rw[qib]; omega) (by rw[qib]; omega)))
  have hr:rvars a.re.nd b.re.nd c.re.nd=rvars a.nd b.nd c.nd:=by rw[rvars,rvars,qkZ,qkZ,qkZ]
  have hk:chk a.re b.re c.re=chk a b c:=by rw[chk,chk,hr,qkY,qkY,qkY]
  rw[hk] at zc'
  rw[hr] at zv'
  have hrl:(rvars a.nd b.nd c.nd).length<2 ^ 40:=by
   have h1:=(qbZ (a.nd.vars++(b.nd.vars++c.nd.vars)) []).2
   have h2:=qch a.nd
   have h3:=qch b.nd
   have h4:=qch c.nd
   rw[qib] at h2 h3 h4
   simp only[List.length_append,List.length_nil] at h1
   rw[rvars]
   omega
  have zs:=qrl h14 (rvars a.nd b.nd c.nd) hrl
  rw[<- f1,<- f2,<- f3] at zc' zv'
  clear hP hlen hPs e1 e2 e3 f1 f2 f3 hr hk hrl p1 s1 s2 s3 t1 t2 t3 ha hb hc hg
  generalize rvars a.nd b.nd c.nd=R at *
  generalize chk a b c=q at *
  generalize a.nd=A' at *
  generalize b.nd=B' at *
  generalize c.nd=C' at *
  simp only[ru] at zt zp z1 zc zc' zv zv'
  refine qaa hF rfl ?_
  simp -implicitDefEqProofs [F224,k0,k1,zt,zp,z1,zc,zc',zv,zv',zs,hb1,zl,V.len,List.range_succ]
end Go.Pm
end ST8
section SF4n
namespace Go.Pm.F
variable (C:Task->Option Res) (q:Nat) (fr:Fr) (σ : S)
def F8:PFun:=⟨1,[.tmp 2],.seq (rn [bx 1 0,mx 2 (kk 0)] [1]) (.seq (.region (some []) [jj 3 (.call 26 []),⟨some 4,.load true 4 (.t 1),none,[0]⟩,cl 5 27 [3,4],mv 2 5] [2] [2]) (.ret)),false,false,false⟩
end Go.Pm.F
end SF4n
section STb13
namespace Go.Pm.F
def prog13d:Nat->Option PFun
 | 8=>some F8
 | 10=>some F10
 | 11=>some F11
 | 12=>some F12
 | 14=>some F14
 | 15=>some F15
 | 17=>some F17
 | 18=>some F18
 | 22=>some F22
 | 23=>some F23
 | 24=>some F24
 | 25=>some F25
 | 26=>some F26
 | 27=>some F27
 | 29=>some F29
 | 30=>some F30
 | 32=>some F32
 | 34=>some F34
 | 35=>some F35
 | 36=>some F36
 | 37=>some F37
 | 38=>some F38
 | 39=>some F39
 | 224=>some F224
 | 228=>some F228
 | 231=>some F231
 | 239=>some F239
 | 240=>some F240
 | 241=>some F241
 | 242=>some F242
 | 243=>some F243
 | 244=>some F244
 | 245=>some F245
 | 249=>some F249
 | 250=>some F250
 | 251=>some F251
 | 252=>some F252
 | 253=>some F253
 | 254=>some F254
 | 255=>some F255
 | 256=>some F256
 | 257=>some F257
 | 258=>some F258
 | 259=>some F259
 | 260=>some F260
 | 264=>some F264
 | 265=>some F265
 | 266=>some F266
 | 267=>some F267
 | 268=>some F268
 | 269=>some F269
 | 270=>some F270
 | 271=>some F271
 | 272=>some F272
 | 273=>some F273
 | 274=>some F274
 | 275=>some F275
 | 276=>some F276
 | 277=>some F277
 | 278=>some F278
 | 279=>some F279
 | 280=>some F280
 | 281=>some F281
 | 282=>some F282
 | 283=>some F283
 | 284=>some F284
 | 285=>some F285
 | 286=>some F286
 | 287=>some F287
 | 288=>some F288
 | 289=>some F289
 | 290=>some F290
 | 291=>some F291
 | 292=>some F292
 | 293=>some F293
 | 294=>some F294
 | 295=>some F295
 | 297=>some F297
 | 298=>some F298
 | 299=>some F299
 | 300=>some F300
 | 303=>some F303
 | 304=>some F304
 | 307=>some F307
 | 308=>some F308
 | 309=>some F309
 | _=>none
theorem qhY : ∀ f pf,tR f=some pf->prog13d f=some pf:=fun f pf h=>by
 unfold tR at h
 split at h<;>first | (cases h; rfl) | cases h
theorem qhZ : ∀ f pf,tS f=some pf->prog13d f=some pf:=fun f pf h=>by
 unfold tS at h
 split at h<;>first | (cases h; rfl) | cases h
theorem qh0 : ∀ f pf,tP f=some pf->prog13d f=some pf:=fun f pf h=>by
 unfold tP at h
 split at h<;>first | (cases h; rfl) | cases h
theorem qh1 : ∀ f pf,tQ f=some pf->prog13d f=some pf:=fun f pf h=>by
 unfold tQ at h
 split at h<;>first | (cases h; rfl) | cases h
theorem qfD : ∀ f pf,qd9 f=some pf->prog13d f=some pf:=fun f pf h=>by
 unfold qd9 at h
 split at h<;>first | (cases h; rfl) | cases h
theorem sub_base14_prog13d : ∀ f pf,qaD f=some pf->prog13d f=some pf:=fun f pf h=>by
 unfold qaD at h
 split at h<;>first | (cases h; rfl) | cases h
end Go.Pm.F
end STb13
section SUm
namespace Go.Pm
open F
theorem qh2:Sub tE prog13d:=fun f pf h=>by
 unfold tE at h
 split at h<;>first | (cases h; rfl) | cases h
theorem qh3:Sub tK prog13d:=fun f pf h=>by
 unfold tK at h
 split at h<;>first | (cases h; rfl) | cases h
theorem qhn:Sub tKd prog13d:=fun f pf h=>by
 unfold tKd at h
 split at h<;>first | (cases h; rfl) | cases h
theorem has13d:HasD prog13d:=⟨⟨qfD,qhY,qhZ,qh0,qh1,qh2,qh3⟩,qhn⟩
end Go.Pm
end SUm
section ST9
namespace Go.Pm
open F
theorem qic:Sub tT prog13d:=fun f pf h=>by
 unfold tT at h
 split at h<;>first | (cases h; rfl) | cases h
theorem sub_base14_prog13d:Sub qaD prog13d:=fun f pf h=>by
 unfold qaD at h
 split at h<;>first | (cases h; rfl) | cases h
theorem qmG:Z prog13d (.call 10 [] [])=some (.ret (.bool true) []):=qmR (n:=3000) (by kernel_rfl)
theorem printedLaw_Z {v:D} {xs:List Int} (hv:RowV v xs) (hx : ∀ x∈xs,I64 x) :
  Z prog13d (.call 224 [.dat v] [])=some (.ret (.bool true) []):=qfS has13d.toHas qic sub_base14_prog13d rfl rfl qmG hv hx
end Go.Pm
end ST9
