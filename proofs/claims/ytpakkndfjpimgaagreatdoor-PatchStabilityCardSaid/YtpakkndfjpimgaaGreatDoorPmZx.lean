/- Chapter 17: the rounds of PatchStability. F333 with its end folded. Chapter 17: the law PatchStability, walked. Chapter 17's law PatchStability, over the whole table. -/
import Derived.Test.YtpakkndfjpimgaaGreatDoorPmZg
import Derived.Test.YtpakkndfjpimgaaGreatDoorPmF7
set_option linter.unusedSimpArgs false
set_option linter.unusedVariables false
section SZx
namespace Go.Pm
open F
set_option maxHeartbeats 4000000
def qfc (k:Nat) (L:List Vr):S:=if L.length=1 then [.cells [.dat (.sl (vrC L) 1 true)]] else [.cells [.gsl (vrC L) L.length 5 (k+1)],.tip (vrC L).length]
theorem qco (L:List Vr):(∃ C,qas L=[.cells [.dat (.sl C 1 true)]] /\ ∀ k,qfc k L=[.cells [.dat (.sl C 1 true)]]) \/ ∃ C n m,qas L=[.cells [.gsl C n 5 1],.tip m] /\ ∀ k,qfc k L=[.cells [.gsl C n 5 (k+1)],.tip m]:=by
 unfold qas qfc
 split
 ·exact .inl ⟨_,rfl,fun _=>rfl⟩
 ·exact .inr ⟨_,_,_,rfl,fun _=>rfl⟩
section
variable {prog:Nat->Option PFun}
theorem qkU {L L':List Vr} {e t la i:Int} (hi : -2<=i) (hi':i<100) {k q:Nat} {v w:Vr} (za:Z prog (.call 323 [.ptr 0 0,.int i] (qas L))=some (.ret (.tup [.int k,qjd v]) (qas L))) (zb:Z prog (.call 323 [.ptr 0 0,.int i] (qas L'))=some (.ret (.tup [.int q,qjd w]) (qas L'))) (zs:Z prog (.call 346 [qjd w,qjd w] [])=some (.ret (.bool true) [])) (hla:la<=q) (hs : ¬ (e=0/\t<=i)->k=q/\v=w) :
  Z prog (.loop 0 F333l0 [(9,.ptr 0 0),(10,.ptr (qas L).length 0),(11,.int t),(13,.int e),(14,.int la),(15,.int i)] (qas L++qfc (qas L).length L')) =
  Z prog (.loop 0 F333l0 [(9,.ptr 0 0),(10,.ptr (qas L).length 0),(11,.int t),(13,.int e),(14,.int q),(15,.int (i+1))] (qas L++qfc (qas L).length L')):=by
 obtain⟨i1,hi1⟩ : ∃ i1,i1=i+1:=⟨_,rfl⟩
 have w1:IntKind.i64.wrap (i+1)=i1:=by rw[hi1]; exact qau _ (by omega)
 rw[<- hi1]
 have hge : ¬ (q:Int)<la:=by omega
 have o:=w.one
 have c:=w.cl
 have o':=v.one
 have c':=v.cl
 unfold qjd at za zb zs
 conv=>lhs; rw[qag]
 by_cases hc:e=0/\t<=i
 ·obtain⟨rfl,hti⟩:=hc
  have hnt : ¬ i<t:=by omega
  clear hs
  rcases qco L with ⟨C0,e0,-⟩ | ⟨C0,n0,m0,e0,-⟩<;>rcases qco L' with ⟨C',e',f'⟩ | ⟨C',n',m',e',f'⟩<;>rw[e0] at za<;>rw[e'] at zb<;>rw[e0,f']
  all_goals simp[qah,qbE,hi',hge,hnt,w1,za,zb,o,c,o',c',List.range_succ]
  all_goals exact qaF (by simp[gcF,List.range_succ])
 ·obtain⟨rfl,rfl⟩:=hs hc
  by_cases he:e=0
  ·subst he
   have hnt:i<t:=by omega
   clear hs hc o' c'
   rcases qco L with ⟨C0,e0,-⟩ | ⟨C0,n0,m0,e0,-⟩<;>rcases qco L' with ⟨C',e',f'⟩ | ⟨C',n',m',e',f'⟩<;>rw[e0] at za<;>rw[e'] at zb<;>rw[e0,f']
   all_goals simp[qah,qbE,hi',hge,hnt,w1,za,zb,zs,o,c,List.range_succ]
   all_goals exact qaF (by simp[gcF,List.range_succ])
  ·clear hs hc o' c'
   rcases qco L with ⟨C0,e0,-⟩ | ⟨C0,n0,m0,e0,-⟩<;>rcases qco L' with ⟨C',e',f'⟩ | ⟨C',n',m',e',f'⟩<;>rw[e0] at za<;>rw[e'] at zb<;>rw[e0,f']
   all_goals simp[qah,qbE,hi',hge,he,w1,za,zb,zs,o,c,List.range_succ]
   all_goals exact qaF (by simp[gcF,List.range_succ])
theorem qjy {C C':List D} {e t la:Int}:Z prog (.loop 0 F333l0 [(9,.ptr 0 0),(10,.ptr 1 0),(11,.int t),(13,.int e),(14,.int la),(15,.int 100)] [.cells [.dat (.sl C 1 true)],.cells [.dat (.sl C' 1 true)]]) =
  some (.out (.exit 0) [(9,.ptr 0 0),(10,.ptr 1 0),(11,.int t),(13,.int e),(14,.int la),(15,.int 100),(46,.bool false)] [.cells [.dat (.sl C 1 true)],.cells [.dat (.sl C' 1 true)]]):=by
 rw[qag]
 simp[qah,qbE,List.range_succ]
theorem qjz {C C':List D} {n m:Nat} {e t la:Int}:Z prog (.loop 0 F333l0 [(9,.ptr 0 0),(10,.ptr 1 0),(11,.int t),(13,.int e),(14,.int la),(15,.int 100)] [.cells [.dat (.sl C 1 true)],.cells [.gsl C' n 5 2],.tip m]) =
  some (.out (.exit 0) [(9,.ptr 0 0),(10,.ptr 1 0),(11,.int t),(13,.int e),(14,.int la),(15,.int 100),(46,.bool false)] [.cells [.dat (.sl C 1 true)],.cells [.gsl C' n 5 2],.tip m]):=by
 rw[qag]
 simp[qah,qbE,List.range_succ]
theorem qhH {C C':List D} {n m n' m':Nat} {e t la:Int}:Z prog (.loop 0 F333l0 [(9,.ptr 0 0),(10,.ptr 2 0),(11,.int t),(13,.int e),(14,.int la),(15,.int 100)] [.cells [.gsl C n 5 1],.tip m,.cells [.gsl C' n' 5 3],.tip m']) =
  some (.out (.exit 0) [(9,.ptr 0 0),(10,.ptr 1 0),(11,.int t),(13,.int e),(14,.int la),(15,.int 100),(46,.bool false)] [.cells [.gsl C n 5 2],.cells [.gsl C' n' 5 3],.tip m,.tip m']):=by
 rw[qag]
 simp[qah,qbE,List.range_succ]
section
variable (h23:prog 323=some F323) (h29:prog 329=some F329) (h30:prog 330=some F330) (h331:prog 331=some F331) (h346:prog 346=some F346)
include h23 h29 h30 h331 h346
theorem qi5 {L L':List Vr} (h:OkB L) (h':OkB L') (h0:0<L.length) (h0':0<L'.length) (hl:L.length<=1000) (hl':L'.length<=1000) {e t:Int} {j:Nat} (hc:(e=0/\L'=L++[vrB t j]/\lastT L<t)\/(e≠0/\L'=L)) : ∀ (n:Nat) (i la:Int),i+n=100 -> -2<=i->(∀ q,ForceAt L' i q->la<=q) ->
  ∃ la',Z prog (.loop 0 F333l0 [(9,.ptr 0 0),(10,.ptr (qas L).length 0),(11,.int t),(13,.int e),(14,.int la),(15,.int i)] (qas L++qfc (qas L).length L')) =
  Z prog (.loop 0 F333l0 [(9,.ptr 0 0),(10,.ptr (qas L).length 0),(11,.int t),(13,.int e),(14,.int la'),(15,.int 100)] (qas L++qfc (qas L).length L'))
 | 0,i,la,e1,h2,hq=>by
  obtain rfl:i=100:=by omega
  exact⟨la,rfl⟩
 | n+1,i,la,e1,h2,hq=>by
  obtain⟨k,hk⟩:=qgP h i
  obtain⟨q,hq1⟩:=qgP h' i
  have hkl:=qgQ h0 hk
  have hql:=qgQ h0' hq1
  have za:=qla h23 h29 h30 h331 h h0 hl hk hkl
  have zb:=qla h23 h29 h30 h331 h' h0' hl' hq1 hql
  have zs:=qjP h346 h' hql
  have hs : ¬ (e=0/\t<=i)->k=q/\L[k]=L'[q]:=by
   intro hn
   rcases hc with ⟨he,hL,-⟩ | ⟨he,hL⟩
   ·subst hL
    have hkq:=qh0 (v:=vrB t j) (by show i<t; omega) hk hq1
    subst hkq
    exact⟨rfl,by rw[List.getElem_append_left]⟩
   ·subst hL
    have a:=qdv (Int.le_refl i) hk hq1
    have b:=qdv (Int.le_refl i) hq1 hk
    obtain rfl:k=q:=by omega
    exact⟨rfl,rfl⟩
  rw[qkU h2 (by omega) za zb zs (hq q hq1) hs]
  exact qi5 h h' h0 h0' hl hl' hc n (i+1) q (by omega) (by omega) (fun r hr=>by
   have:=qdv (show i<=i+1 by omega) hq1 hr
   omega)
end
end
end Go.Pm
end SZx
section SZya
namespace Go.Pm
open F
set_option maxHeartbeats 4000000
def F333t:PC:=(.seq (rn [mv 83 13,bk 84 .eql 83 0,mv 85 84,jf 86 85 (.mov (.t 9)),jf 87 85 (.call 343 [(.t 86)]),jf 88 85 (.mov (.t 10)),jf 89 85 (.call 343 [(.t 88)]),jf 90 85 (.bin .eql (.t 87) (.t 89)),jf 91 85 (.mov (.t 90)),jt 92 91 (.mov (.t 9)),jt 93 91 (.call 320 [(.t 92)]),jt 94 91 (.mov (.t 10)),jt 95 91 (.call 320 [(.t 94)]),jt 96 91 (.call 58 [(.t 93),(.t 95)]),jf 97 85 (.pick (.t 91) (.t 96) kF),jj 98 (.pick (.t 85) kT (.t 97)),mv 99 98,jt 100 99 (.call 321 []),jj 101 (.pick (.t 99) (.t 100) kF),mv 8 101] [8]) (.ret))
theorem F333_t:F333=⟨4,[.tmp 8],.seq (rn [mx 8 kF] [0,1,2,3]) (.seq (rn [mv 20 0,mv 21 1,cl 22 347 [20,21],mv 9 22] [0,1,2,3,9]) (.seq (rn [mv 23 0,mv 24 1,cl 25 347 [23,24],mv 10 25] [2,3,9,10]) (.seq (.seq (rn [mv 26 9,jj 27 (.isnil true false (.t 26)),mv 28 27,jf 29 28 (.mov (.t 10)),jf 30 28 (.isnil true false (.t 29)),jj 31 (.pick (.t 28) kT (.t 30))] [2,3,9,10,31]) (.cond (.t 31) (.seq (rn [mx 8 kF] [8]) (.ret)) (.skip))) (.seq (rn [mv 32 2,jj 33 (.call 17 [(.t 32),(kk 100)]),mv 11 33] [3,9,10,11]) (.seq (rn [mv 34 3,cl 35 319 [34],mv 12 35] [3,9,10,11,12]) (.seq (.seq (rn [mv 36 3,bk 37 .rem 36 3,bk 38 .eql 37 0] [9,10,11,12,38]) (.cond (.t 38) (rn [mv 39 12,jj 40 (.bin .add (.t 39) (.c (.string ⟨#[125]⟩))),mv 12 40] [9,10,11,12]) (.skip))) (.seq (rn [mv 41 10,mv 42 11,mv 43 12,cl 44 318 [41,42,43],mv 13 44] [9,10,11,13]) (.seq (rn [mx 14 (kk (-1))] [9,10,11,13,14]) (.seq (.seq (rn [mx 15 (kk (-2))] [9,10,11,13,14,15]) (.block 0 (.loop F333l0))) F333t))))))))),false,false,false⟩:=rfl
end Go.Pm
end SZya
section SZy
namespace Go.Pm
open F
set_option maxHeartbeats 4000000
theorem qiP {L:List Vr} (h:2<=L.length) : ∃ C n m,qas L=[.cells [.gsl C n 5 1],.tip m] /\ ∀ k,qfc k L=[.cells [.gsl C n 5 (k+1)],.tip m]:=by
 unfold qas qfc
 rw[if_neg (by omega)]
 exact⟨_,_,_,rfl,fun _=>if_neg (by omega)⟩
theorem qlk {L:List Vr} (h:OkB L) {t:Int} {j:Nat} (hj:j<6) (ht:lastT L<t):OkB (L++[vrB t j]):=by
 refine⟨fun v hv=>?_,List.pairwise_append.2 ⟨h.2,by simp,fun a ha b hb=>?_⟩⟩
 ·rcases List.mem_append.1 hv with hv | hv
  ·exact h.1 v hv
  ·simp at hv
   exact⟨t,j,hj,hv⟩
 ·simp at hb
  subst hb
  have:=qdo h.2 a ha
  show a.t<t
  omega
section
variable {prog:Nat->Option PFun} {t la:Int} (hv:Z prog (.call 321 [] [])=some (.ret (.bool true) []))
include hv
theorem qg2 {σ : S}:run (Z prog) 0 F333t [(9,.ptr 0 0),(10,.ptr 1 0),(11,.int t),(13,.int 0),(14,.int la),(15,.int 100),(46,.bool false)] σ = some (.ret,[(8,.bool true)],σ):=by
 simp[F333t,hv,List.range_succ]
theorem qji {e ro:Int} (he : ¬ e=0) {C0 T:List D} {nT:Nat} (z43:Z prog (.call 343 [.ptr 0 0] [.cells [.dat (.sl C0 1 true)]])=some (.ret (.dat (.lit (.int .u64 ro))) [.cells [.dat (.sl C0 1 true)]]))
  (zv:Z prog (.call 320 [.ptr 0 0] [.cells [.dat (.sl C0 1 true)]])=some (.ret (.dat (.sl T nT false)) [.cells [.dat (.sl C0 1 true)]]))
  (z58:Z prog (.call 58 [.dat (.sl T nT false),.dat (.sl T nT false)] [])=some (.ret (.bool true) [])) :
  run (Z prog) 0 F333t [(9,.ptr 0 0),(10,.ptr 1 0),(11,.int t),(13,.int e),(14,.int la),(15,.int 100),(46,.bool false)] [.cells [.dat (.sl C0 1 true)],.cells [.dat (.sl C0 1 true)]]=some (.ret,[(8,.bool true)],[.cells [.dat (.sl C0 1 true)],.cells [.dat (.sl C0 1 true)]]):=by
 simp -implicitDefEqProofs [F333t,z43,zv,z58,hv,he,List.range_succ]
theorem qjj {e ro:Int} (he : ¬ e=0) {C0 T:List D} {n0 m0 nT:Nat} (z43:Z prog (.call 343 [.ptr 0 0] [.cells [.gsl C0 n0 5 1],.tip m0])=some (.ret (.dat (.lit (.int .u64 ro))) [.cells [.gsl C0 n0 5 1],.tip m0]))
  (zv:Z prog (.call 320 [.ptr 0 0] [.cells [.gsl C0 n0 5 1],.tip m0])=some (.ret (.dat (.sl T nT false)) [.cells [.gsl C0 n0 5 1],.tip m0]))
  (z58:Z prog (.call 58 [.dat (.sl T nT false),.dat (.sl T nT false)] [])=some (.ret (.bool true) [])) :
  run (Z prog) 0 F333t [(9,.ptr 0 0),(10,.ptr 1 0),(11,.int t),(13,.int e),(14,.int la),(15,.int 100),(46,.bool false)] [.cells [.gsl C0 n0 5 2],.cells [.gsl C0 n0 5 3],.tip m0,.tip m0]=some (.ret,[(8,.bool true)],[.cells [.gsl C0 n0 5 2],.cells [.gsl C0 n0 5 3],.tip m0,.tip m0]):=by
 simp -implicitDefEqProofs [F333t,z43,zv,z58,hv,he,List.range_succ]
end
section
variable {prog:Nat->Option PFun} (hH : ∀ k pf,tH k=some pf->prog k=some pf) (h7 : ∀ k pf,tB k=some pf->prog k=some pf)
include hH h7
theorem qdW (h17:prog 17=some F17) (h19:prog 319=some F319) (h23:prog 323=some F323) (h29:prog 329=some F329) (h30:prog 330=some F330) (h331:prog 331=some F331) (h333:prog 333=some F333) (h341:prog 341=some F341) (h343:prog 343=some F343) (h346:prog 346=some F346) (h347:prog 347=some F347) (h353:prog 353=some F353) (h58:prog 58=some F58)
  (hv:Z prog (.call 321 [] [])=some (.ret (.bool true) [])) {first tick source:Int} (hf:I64 first) (ht:I64 tick) (hso:I64 source) {d:D} {xs:List Int} (h:RowV d xs) (hx : ∀ x∈xs,I64 x) :
  Z prog (.call 333 [.int first,.dat d,.int tick,.int source] [])=some (.ret (.bool true) []):=by
 obtain⟨j,hj,hje,zs⟩:=qgO h17 h19 hso
 obtain⟨j0,hj0,hje0,-⟩:=qgO h17 h19 hf
 have zb:=qjB h7 h17 h19 h341 h347 hf h hx
 have zA:=qfm h17 (n:=tick) (m:=100) ht (by omega)
 have ej:((around first 60).tmod 6).toNat=j0:=by omega
 have ok:OkB (bkOf first xs):=by unfold bkOf; rw[ej]; exact qlo hj0 hx _
 have p0:0<(bkOf first xs).length:=by unfold bkOf; exact qgj _ _ _
 have p9:(bkOf first xs).length<=9:=by unfold bkOf; exact qi6 _ _ _
 have o:=h.one
 have c:=h.cells
 generalize bkOf first xs=L at *
 generalize around tick 100=t at *
 clear hje hje0 ej
 obtain⟨s,hs,hs3⟩ : ∃ s,(s=srcB j\/s=srcB j++⟨#[125]⟩)/\s=if source.tmod 3=0 then srcB j++⟨#[125]⟩ else srcB j:=by
  by_cases h3:source.tmod 3=0
  ·rw[if_pos h3]
   exact⟨_,.inr rfl,rfl⟩
  ·rw[if_neg h3]
   exact⟨_,.inl rfl,rfl⟩
 have hsz : ¬ (9223372036854775807:Int)<((srcB j).size:Int)+((⟨#[125]⟩:ByteArray).size:Int):=by
  obtain rfl | rfl | rfl | rfl | rfl | rfl:j=0\/j=1\/j=2\/j=3\/j=4\/j=5:=by omega
  all_goals decide
 obtain⟨e,L',z18,hc⟩:=qkH h7 p0 t hj hs
 have ok':OkB L':=by
  rcases hc with ⟨-,rfl,hl⟩ | ⟨-,rfl⟩
  ·exact qlk ok hj hl
  ·exact ok
 have p1:L'.length<=10/\0<L'.length:=by
  rcases hc with ⟨-,rfl,hl⟩ | ⟨-,rfl⟩
  ·simp; omega
  ·omega
 obtain⟨la,zl⟩:=qi5 h23 h29 h30 h331 h346 ok ok' p0 p1.2 (by omega) (by omega) hc 102 (-2) (-1) (by omega) (by omega) (fun q _=>by omega)
 clear hs
 refine qaX h333 rfl ?_
 rcases hc with ⟨rfl,hL,hlt⟩ | ⟨he,rfl⟩
 ·obtain⟨C',n',m',e',f'⟩:=qiP (L:=L') (by rw[hL]; simp; omega)
  clear hL hH h7 ok ok'
  rcases qco L with ⟨C0,e0,-⟩ | ⟨C0,n0,m0,e0,-⟩<;>rw[e0,e'] at z18<;>rw[e0,f'] at zl<;>rw[e0] at zb
  ·have z0:=zl.trans qjz
   simp at z0
   generalize srcB j=s0 at *
   by_cases h3:source.tmod 3=0
   ·rw[if_pos h3] at hs3
    subst hs3
    simp[F333_t,zb,zA,zs,h3,hsz,z18,z0,qg2 hv,o,c,List.range_succ]
    done
   ·rw[if_neg h3] at hs3
    subst hs3
    simp[F333_t,zb,zA,zs,h3,hsz,z18,z0,qg2 hv,o,c,List.range_succ]
    done
  ·have z0:=zl.trans qhH
   simp at z0
   generalize srcB j=s0 at *
   by_cases h3:source.tmod 3=0
   ·rw[if_pos h3] at hs3
    subst hs3
    simp[F333_t,zb,zA,zs,h3,hsz,z18,z0,qg2 hv,o,c,List.range_succ]
    done
   ·rw[if_neg h3] at hs3
    subst hs3
    simp[F333_t,zb,zA,zs,h3,hsz,z18,z0,qg2 hv,o,c,List.range_succ]
    done
 ·have z43:=qjO hH h343 h353 ok p0 (by omega)
  have zv:=qhg h7 p0 (by omega)
  have z58:=ql3 h58 (tks L') (by simp[tks]; omega)
  have hlt58:(tks L').length=L'.length:=by simp[tks]
  rw[hlt58] at z58
  clear hH h7 ok ok'
  generalize rootI L'=ro at *
  generalize intsC (tks L')=T at *
  generalize L'.length=nT at *
  generalize srcB j=s0 at *
  rcases qco L' with ⟨C0,e0,f0⟩ | ⟨C0,n0,m0,e0,f0⟩<;>rw[e0] at z18 z43 zv zb<;>rw[e0,f0] at zl
  ·have z0:=zl.trans qjy
   simp at z0
   by_cases h3:source.tmod 3=0
   ·rw[if_pos h3] at hs3
    subst hs3
    simp[F333_t,zb,zA,zs,h3,hsz,z18,z0,qji hv he z43 zv z58,o,c,List.range_succ]
    done
   ·rw[if_neg h3] at hs3
    subst hs3
    simp[F333_t,zb,zA,zs,h3,hsz,z18,z0,qji hv he z43 zv z58,o,c,List.range_succ]
    done
  ·have z0:=zl.trans qhH
   simp at z0
   by_cases h3:source.tmod 3=0
   ·rw[if_pos h3] at hs3
    subst hs3
    simp[F333_t,zb,zA,zs,h3,hsz,z18,z0,qjj hv he z43 zv z58,o,c,List.range_succ]
    done
   ·rw[if_neg h3] at hs3
    subst hs3
    simp[F333_t,zb,zA,zs,h3,hsz,z18,z0,qjj hv he z43 zv z58,o,c,List.range_succ]
    done
end
end Go.Pm
end SZy
section SBe
namespace Go.Pm
open F
theorem stab17_Z {first tick source:Int} (hf:I64 first) {d:D} {xs:List Int} (h:RowV d xs) (hx : ∀ x∈xs,I64 x) (ht:I64 tick) (hso:I64 source):Z prog17z (.call 333 [.int first,.dat d,.int tick,.int source] [])=some (.ret (.bool true) []):=
 qdW qiZ qiY rfl rfl rfl rfl rfl rfl rfl rfl rfl rfl rfl rfl rfl qho hf ht hso h hx
end Go.Pm
end SBe
