/- Chapter 17: the law PatchModel, walked. Chapter 17's law PatchModel, over the whole table. -/
import Derived.Test.YtpakkndfjpimgaaGreatDoorPmZj
set_option linter.unusedSimpArgs false
set_option linter.unusedVariables false
section SZv
namespace Go.Pm
open F
set_option maxHeartbeats 4000000
def rA (L:List Vr):D := .sl (intsC (tks L)) L.length false
def rB (L:List Vr):D := .sl (prC L) L.length false
theorem qhl (L:List Vr):V.one (.dat (rA L))=true:=rfl
theorem qgk (L:List Vr):V.one (.dat (rB L))=true:=rfl
theorem qfL (L:List Vr):V.cells (.dat (rA L))=[.dat (rA L)]:=rfl
theorem qed (L:List Vr):V.cells (.dat (rB L))=[.dat (rB L)]:=rfl
section
variable {prog:Nat->Option PFun}
theorem qmT {C T:List D} {n:Nat} {tick:Int} {A B:D}:Z prog (.loop 0 F332l0 [(2,.int tick),(7,.ptr 0 0),(9,.ptr 1 0),(11,.dat (.sl T n false)),(12,.int n)] [.cells [.dat (.sl C 1 true)],.cells [.dat A,.dat B]]) =
  some (.out (.exit 0) [(2,.int tick),(7,.ptr 0 0),(9,.ptr 1 0),(11,.dat (.sl T n false)),(12,.int n),(48,.bool false)] [.cells [.dat (.sl C 1 true)],.cells [.dat A,.dat B]]):=by
 rw[qad]
 simp[qag,qcO,V.len,List.range_succ]
theorem qmU {C T:List D} {N m n:Nat} {tick:Int} {A B:D}:Z prog (.loop 0 F332l0 [(2,.int tick),(7,.ptr 0 0),(9,.ptr 2 0),(11,.dat (.sl T n false)),(12,.int n)] [.cells [.gsl C N 5 1],.tip m,.cells [.dat A,.dat B]]) =
  some (.out (.exit 0) [(2,.int tick),(7,.ptr 0 0),(9,.ptr 1 0),(11,.dat (.sl T n false)),(12,.int n),(48,.bool false)] [.cells [.gsl C N 5 2],.cells [.dat A,.dat B],.tip m]):=by
 rw[qad]
 simp[qag,qcO,V.len,List.range_succ]
theorem qmc {C:List D} {tick:Int} {A B:D}:Z prog (.loop 0 F332l0 [(2,.int tick),(7,.ptr 0 0),(9,.ptr 1 0),(11,.dat (.lit (.slice none 0 0))),(12,.int 0)] [.cells [.dat (.sl C 1 true)],.cells [.dat A,.dat B]]) =
  some (.out (.exit 0) [(2,.int tick),(7,.ptr 0 0),(9,.ptr 1 0),(11,.dat (.lit (.slice none 0 0))),(12,.int 0),(48,.bool false)] [.cells [.dat (.sl C 1 true)],.cells [.dat A,.dat B]]):=by
 rw[qad]
 simp[qag,qcO,V.len,List.range_succ]
theorem qmd {C T:List D} {A B:D}:Z prog (.loop 0 F332l1 [(7,.ptr 0 0),(9,.ptr 1 0),(15,.dat (.sl T 4 true)),(16,.int (4:Nat))] [.cells [.dat (.sl C 1 true)],.cells [.dat A,.dat B]]) =
  some (.out (.exit 2) [(7,.ptr 0 0),(9,.ptr 1 0),(15,.dat (.sl T 4 true)),(16,.int 4),(102,.bool false)] [.cells [.dat (.sl C 1 true)],.cells [.dat A,.dat B]]):=by
 rw[qad]
 simp[qag,qdK,V.len,List.range_succ]
theorem qmV {C T:List D} {N m:Nat} {A B:D}:Z prog (.loop 0 F332l1 [(7,.ptr 0 0),(9,.ptr 2 0),(15,.dat (.sl T 4 true)),(16,.int (4:Nat))] [.cells [.gsl C N 5 1],.tip m,.cells [.dat A,.dat B]]) =
  some (.out (.exit 2) [(7,.ptr 0 0),(9,.ptr 1 0),(15,.dat (.sl T 4 true)),(16,.int 4),(102,.bool false)] [.cells [.gsl C N 5 2],.cells [.dat A,.dat B],.tip m]):=by
 rw[qad]
 simp[qag,qdK,V.len,List.range_succ]
theorem m1_g2 {C T:List D} {N m:Nat} {A B:D} {i:Int}:Z prog (.loop 0 F332l1 [(7,.ptr 0 0),(9,.ptr 1 0),(15,.dat (.sl T 4 true)),(16,.int i)] [.cells [.gsl C N 5 2],.cells [.dat A,.dat B],.tip m]) =
  Z prog (.loop 0 F332l1 [(7,.ptr 0 0),(9,.ptr 2 0),(15,.dat (.sl T 4 true)),(16,.int i)] [.cells [.gsl C N 5 1],.tip m,.cells [.dat A,.dat B]]):=
 qaO (by simp[gcF,List.range_succ])
end
section
variable {prog:Nat->Option PFun} (hH : ∀ k pf,tH k=some pf->prog k=some pf) (h7 : ∀ k pf,tB k=some pf->prog k=some pf) (h342:prog 342=some F342) (hb : ∀ j,j<10->Z prog (.call 352 [.str (srcB j)] [])=some (.ret (.tup [qd1 j,.int (qcR j)]) [])) (h343:prog 343=some F343) (h344:prog 344=some F344) (h349:prog 349=some F349) (h353:prog 353=some F353) (h58:prog 58=some F58)
include hH h7 h342 hb h343 h344 h349 h353 h58
theorem qhm {j0:Nat} (hj0:j0<6) {xs:List Int} (hx : ∀ x∈xs,I64 x) {n:Nat} (hn:n<=12) {tick:Int} : ∀ (k i:Nat),i+k=n ->
  Z prog (.loop 0 F332l0 [(2,.int tick),(7,.ptr 0 0),(9,.ptr (qaB (bkL j0 xs i)).length 0),(11,.dat (.sl (stC xs n) n false)),(12,.int i)] (qaB (bkL j0 xs i)++[.cells [.dat (rA (bkL j0 xs i)),.dat (rB (bkL j0 xs i))]])) =
  Z prog (.loop 0 F332l0 [(2,.int tick),(7,.ptr 0 0),(9,.ptr (qaB (bkL j0 xs n)).length 0),(11,.dat (.sl (stC xs n) n false)),(12,.int n)] (qaB (bkL j0 xs n)++[.cells [.dat (rA (bkL j0 xs n)),.dat (rB (bkL j0 xs n))]]))
 | 0,i,e=>by
  obtain rfl:i=n:=by omega
  rfl
 | k+1,i,e=>by
  rw[qkg hH h7 h342 hb h343 h344 h349 h353 (fun w hw=>qmM h58 w hw) hj0 hx (i:=i) (by omega) hn (A:=rA (bkL j0 xs i)) (B:=rB (bkL j0 xs i)) (A':=rA (bkL j0 xs (i+1))) (B':=rB (bkL j0 xs (i+1))) rfl rfl rfl (qhl _) (qgk _) (qgk _) (qed _)]
  exact qhm hj0 hx hn k (i+1) (by omega)
theorem qgl (h17:prog 17=some F17) (h19:prog 319=some F319) (h23:prog 323=some F323) (h29:prog 329=some F329) (h30:prog 330=some F330) (h331:prog 331=some F331) (h332:prog 332=some F332) (h340:prog 340=some F340) (h341:prog 341=some F341) (h345:prog 345=some F345) (h346:prog 346=some F346)
  (hv:Z prog (.call 321 [] [])=some (.ret (.bool true) [])) {first tick:Int} (hf:I64 first) (ht:I64 tick) {d:D} {xs:List Int} (h:RowV d xs) (hx : ∀ x∈xs,I64 x) :
  Z prog (.call 332 [.int first,.dat d,.int tick] [])=some (.ret (.bool true) []):=by
 obtain⟨j,hj,hje,zs⟩:=qjG h17 h19 hf
 have zt:=qkp h17 h19 h341 h hx
 have zn:=qmy h7 (qlX h7 0 hj) rfl
 have zr:=qmf h340 h342 (v:=vrB 0 j) (s:=srcB j) rfl (by
  have:=hb j (by omega)
  have e:qcR j=0:=by
   obtain rfl | rfl | rfl | rfl | rfl | rfl:j=0\/j=1\/j=2\/j=3\/j=4\/j=5:=by omega
   all_goals rfl
  rw[e] at this
  exact this)
 rw[show qc7 [vrB 0 j] = .agg [rA [vrB 0 j],rB [vrB 0 j]] from rfl] at zr
 have zA:=qfA h17 (n:=tick) (m:=90) ht (by omega)
 obtain⟨t5,w5⟩ : ∃ t5,IntKind.i64.wrap (around tick 90-5)=t5:=⟨_,rfl⟩
 have o:=h.one
 have c:=h.cells
 rw[qgW] at zn
 have L0:bkL j xs 0=[vrB 0 j]:=rfl
 have l2:=fun (m:Nat)=>qhp h23 h29 h30 h331 h345 h346 (qky hj hx m) (qfp j xs m) (by have:=qg4 j xs m; omega) (T:=[tick,t5,-1,0]) rfl (A:=rA (bkL j xs m)) (B:=rB (bkL j xs m)) rfl (qhl _) (qgk _) (qfL _) (qed _) 4 0 (by omega)
 have eT:intsC [tick,t5,-1,0]=[.lit (.int .i64 tick),.lit (.int .i64 t5),.lit (.int .i64 (-1)),.lit (.int .i64 0)]:=rfl
 rw[eT] at l2
 rw[show ((0:Nat):Int)=0 from rfl] at l2
 refine qaz h332 rfl ?_
 by_cases h0:min xs.length 12=0
 ·have e:stD xs = .lit (.slice none 0 0):=by unfold stD; rw[h0]
  rw[e] at zt
  have l2:=l2 0
  rw[L0,qgW] at l2
  have a1:=qhl [vrB 0 j]
  have b1:=qgk [vrB 0 j]
  have a2:=qfL [vrB 0 j]
  have b2:=qed [vrB 0 j]
  generalize rA [vrB 0 j]=A at *
  generalize rB [vrB 0 j]=B at *
  generalize vrC [vrB 0 j]=C at *
  generalize srcB j=s at *
  generalize around tick 90=t9 at *
  have z2:=l2.trans qmd
  have z0:=qmc (prog:=prog) (C:=C) (tick:=tick) (A:=A) (B:=B)
  clear l2 L0 hb hH h7
  simp at z2
  simp[F332,zs,zn,zr,zt,zA,w5,z0,z2,hv,a1,b1,a2,b2,List.range_succ]
  done
 ·obtain⟨k,hk⟩ : ∃ k,min xs.length 12=k+1:=⟨min xs.length 12-1,by omega⟩
  have e:stD xs = .sl (stC xs (k+1)) (k+1) false:=by unfold stD; rw[hk]
  rw[e] at zt
  have l1:=qhm hH h7 h342 hb h343 h344 h349 h353 h58 hj hx (n:=k+1) (by omega) (tick:=tick) (k+1) 0 (by omega)
  have l2:=l2 (k+1)
  rw[L0,qgW,show ((0:Nat):Int)=0 from rfl] at l1
  have a1:=qhl [vrB 0 j]
  have b1:=qgk [vrB 0 j]
  have a2:=qfL [vrB 0 j]
  have b2:=qed [vrB 0 j]
  generalize rA [vrB 0 j]=A at *
  generalize rB [vrB 0 j]=B at *
  generalize vrC [vrB 0 j]=C at *
  generalize srcB j=s at *
  generalize stC xs (k+1)=W at *
  generalize bkL j xs (k+1)=L' at *
  generalize rA L'=A' at *
  generalize rB L'=B' at *
  generalize around tick 90=t9 at *
  clear L0 hb hH h7
  rcases qfg L' with ⟨C',e'⟩ | ⟨C',n',m',e'⟩<;>rw[e'] at l1 l2
  ·have z0:=l1.trans qmT
   have z2:=l2.trans qmd
   simp at z0 z2
   simp[F332,zs,zn,zr,zt,zA,w5,z0,z2,hv,a1,b1,a2,b2,List.range_succ]
   done
  ·have z0:=l1.trans qmU
   have z2:=m1_g2.trans (l2.trans qmV)
   simp at z0 z2
   simp[F332,zs,zn,zr,zt,zA,w5,z0,z2,hv,a1,b1,a2,b2,List.range_succ]
   done
end
end Go.Pm
end SZv
section SBd
namespace Go.Pm
open F
theorem qiN : ∀ j,j<10->Z prog17z (.call 352 [.str (srcB j)] [])=some (.ret (.tup [qd1 j,.int (qcR j)]) [])
 | 0,_=>qcP qbn qkH
 | 1,_=>qcP qbn qkI
 | 2,_=>qcP qbn qkJ
 | 3,_=>qcP qbn qkK
 | 4,_=>qcP qbn qkL
 | 5,_=>qcP qbn qkM
 | 6,_=>qcP qbn qkN
 | 7,_=>qcP qbn qkO
 | 8,_=>qcP qbn qkP
 | 9,_=>qcP qbn qkQ
 | _+10,h=>by omega
theorem model17_Z {first tick:Int} (hf:I64 first) {d:D} {xs:List Int} (h:RowV d xs) (hx : ∀ x∈xs,I64 x) (ht:I64 tick):Z prog17z (.call 332 [.int first,.dat d,.int tick] [])=some (.ret (.bool true) []):=
 qgl qjv qju rfl qiN rfl rfl rfl rfl rfl rfl rfl rfl rfl rfl rfl rfl rfl rfl rfl rfl qhK hf ht h hx
end Go.Pm
end SBd
