/- Chapter 17: the law PatchBinding, walked. Chapter 17's law PatchBinding, over the whole table. -/
import Derived.Test.YtpakkndfjpimgaaGreatDoorPmZh
import Derived.Test.YtpakkndfjpimgaaGreatDoorPmY
set_option linter.unusedSimpArgs false
set_option linter.unusedVariables false
section SBc
namespace Go.Pm
open F
set_option maxHeartbeats 4000000
theorem qh2 (a b:ByteArray):eqS a b=decide (a=b):=by
 rw[Bool.eq_iff_iff]
 simp only[eqS,beq_iff_eq,decide_eq_true_eq,ByteArray.toList_eq]
 exact⟨fun h=>by cases a; cases b; simp only[Array.toList_inj] at h; rw[h],fun h=>by rw[h]⟩
theorem qiM {prog:Nat->Option PFun} (hH : ∀ k pf,tH k=some pf->prog k=some pf) (h353:prog 353=some F353) (t:Int) (K:Nat):qed prog hB (vrK t K):=by
 unfold qed hB
 have e:qj5 (vrK t K).c=qj8 K:=qij (qj8 K)
 rw[e]
 exact qgW hH h353 (l:=qj8 K) (n:=3) rfl (by omega) rfl
theorem qfm {prog:Nat->Option PFun} (hH : ∀ k pf,tH k=some pf->prog k=some pf) (h343:prog 343=some F343) (h353:prog 353=some F353) {L:List Vr} (h:OkB L) (hl:L.length<=900) (t:Int) (K:Nat) :
  Z prog (.call 343 [.ptr 0 0] (qaW (L++[vrK t K])))=some (.ret (.dat (.lit (.int .u64 (rootI (L++[vrK t K]))))) (qaW (L++[vrK t K]))):=
 qk1 hH h343 (by simp) (by simp; omega) (fun i hi=>by
  by_cases hiL:i<L.length
  ·rw[List.getElem_append_left hiL]
   obtain⟨t,j,hj,e⟩:=h.1 L[i] (List.getElem_mem hiL)
   rw[e]
   exact qi1 hH h353 t hj
  ·have e:(L++[vrK t K])[i]=vrK t K:=by
    rw[List.getElem_append_right (by omega)]
    simp
   rw[e]
   exact qiM hH h353 t K) rfl
theorem qgR (L:List Vr) (v:Vr):wdB hB (L++[v])=wdB hB L++[v.t,IntKind.i64.wrap (hB v)]:=by
 unfold wdB
 rw[List.flatMap_append]
 rfl
theorem qjl (L:List Vr) (v w:Vr):yB (L++[v])=yB (L++[w]):=by
 unfold yB
 rw[List.length_append,List.length_append]
 rfl
theorem qkp (t:Int) (K:Nat):hB (vrK t K)=sumI (qdT (qdT (qdT 0 30787916450984560) 7) (IntKind.u64.wrap ((9:Nat):Int))) ([-1,0,-1,1]++(K:Int)::[3,0,21,0]):=by
 unfold hB
 have e:qj5 (vrK t K).c=qj8 K:=qij (qj8 K)
 rw[e]
 rfl
theorem qlb (L:List Vr) {t u:Int} (ht:I64 t) (hu:I64 u) (K:Nat):rootI (L++[vrK t K])=rootI (L++[vrK u K])↔t=u:=by
 constructor
 ·intro h
  unfold rootI at h
  rw[qgR,qgR,qjl L (vrK t K) (vrK u K),qkp t,qkp u] at h
  exact qgP ht hu (qfi (ys:=[_]) h)
 ·intro h
  rw[h]
theorem qlc (L:List Vr) (t:Int) {K M:Nat} (hK:K<30) (hM:M<30):rootI (L++[vrK t K])=rootI (L++[vrK t M])↔K=M:=by
 constructor
 ·intro h
  unfold rootI at h
  rw[qgR,qgR,qjl L (vrK t K) (vrK t M)] at h
  have h:sumI (yB (L++[vrK t M])) ((wdB hB L++[t])++IntKind.i64.wrap (hB (vrK t K))::[])=sumI (yB (L++[vrK t M])) ((wdB hB L++[t])++IntKind.i64.wrap (hB (vrK t M))::[]):=by
   rw[List.append_assoc,List.append_assoc]
   exact h
  have h1:=qhQ (by rw[qkp]; exact qhR _ _) (by rw[qkp]; exact qhR _ _) (qfi h)
  rw[qkp,qkp] at h1
  have h2:=qgP (by unfold I64; omega) (by unfold I64; omega) (qfi h1)
  omega
 ·intro h
  rw[h]
theorem qiN (L:List Vr) (v:Vr):lastT (L++[v])=v.t:=by
 unfold lastT
 simp
theorem qh3 (j0:Nat) {xs:List Int} (hx : ∀ x∈xs,I64 x) : ∀ i:Nat,lastT (bkL j0 xs i)<=7*i
 | 0=>by simp[bkL,lastT,vrB]
 | i+1=>by
  have:=qh3 j0 hx i
  have:=qgr hx (i+1)
  unfold bkL qil
  split
  ·omega
  ·split
   ·omega
   ·split
    ·rw[qiN]
     show stT xs (i+1)<=_
     omega
    ·omega
theorem szK {K:Nat} (h:K<30):(¬ (9223372036854775807:Int)<((⟨#[111,110,32,116,105,99,107,123,118,97,61]⟩:ByteArray).size:Int)+((decK K).size:Int)) /\ ¬ (9223372036854775807:Int)<((⟨#[111,110,32,116,105,99,107,123,118,97,61]⟩:ByteArray).size:Int)+((decK K).size:Int)+((⟨#[59,125]⟩:ByteArray).size:Int):=by
 have e:(decK K).size<=2:=by
  unfold decK
  split
  ·exact Nat.le_succ 1
  ·exact Nat.le_refl 2
 have a:(⟨#[111,110,32,116,105,99,107,123,118,97,61]⟩:ByteArray).size=11:=rfl
 have b:(⟨#[59,125]⟩:ByteArray).size=2:=rfl
 rw[a,b]
 omega
section
variable {prog:Nat->Option PFun} {t1 t2 g1 g2 g3:Int} {P Q:ByteArray} {C1 C2 C3:List D} {n1 n2 n3 m1 m2 m3:Nat} (hv:Z prog (.call 321 [] [])=some (.ret (.bool true) []))
 (q1:Z prog (.call 343 [.ptr 0 0] [.cells [.gsl C1 n1 5 1],.tip m1])=some (.ret (.dat (.lit (.int .u64 g1))) [.cells [.gsl C1 n1 5 1],.tip m1]))
 (q2:Z prog (.call 343 [.ptr 0 0] [.cells [.gsl C2 n2 5 1],.tip m2])=some (.ret (.dat (.lit (.int .u64 g2))) [.cells [.gsl C2 n2 5 1],.tip m2]))
 (q3:Z prog (.call 343 [.ptr 0 0] [.cells [.gsl C3 n3 5 1],.tip m3])=some (.ret (.dat (.lit (.int .u64 g3))) [.cells [.gsl C3 n3 5 1],.tip m3]))
 (i2:g1=g2↔t1=t2) (i3:g1=g3↔P=Q)
include hv q1 q2 q3 i2 i3
theorem qnd:run (Z prog) 0 F334t [(13,.ptr 0 0),(14,.ptr 1 0),(15,.ptr 2 0),(16,.int t1),(17,.int t2),(18,.str P),(19,.str Q),(78,.bool false)] [.cells [.gsl C1 n1 5 3],.cells [.gsl C2 n2 5 4],.cells [.gsl C3 n3 5 5],.tip m1,.tip m2,.tip m3] =
  some (.ret,[(12,.bool true)],[.cells [.gsl C1 n1 5 3],.cells [.gsl C2 n2 5 4],.cells [.gsl C3 n3 5 5],.tip m1,.tip m2,.tip m3]):=by
 simp -implicitDefEqProofs [F334t,q1,q2,q3,i2,i3,qh2,hv,List.range_succ]
theorem qne:run (Z prog) 0 F334t [(13,.ptr 0 0),(14,.ptr 2 0),(15,.ptr 4 0),(16,.int t1),(17,.int t2),(18,.str P),(19,.str Q),(78,.bool false)] [.cells [.gsl C1 n1 5 1],.tip m1,.cells [.gsl C2 n2 5 3],.tip m2,.cells [.gsl C3 n3 5 5],.tip m3] =
  some (.ret,[(12,.bool true)],[.cells [.gsl C1 n1 5 1],.tip m1,.cells [.gsl C2 n2 5 3],.tip m2,.cells [.gsl C3 n3 5 5],.tip m3]):=by
 simp -implicitDefEqProofs [F334t,q1,q2,q3,i2,i3,qh2,hv,List.range_succ]
end
section
variable {prog:Nat->Option PFun} (hH : ∀ k pf,tH k=some pf->prog k=some pf) (h7 : ∀ k pf,tB k=some pf->prog k=some pf)
include hH h7
theorem qez (h17:prog 17=some F17) (h20 : ∀ k pf,t20 k=some pf->prog k=some pf) (h19:prog 319=some F319) (h334:prog 334=some F334) (h341:prog 341=some F341) (h343:prog 343=some F343) (h347:prog 347=some F347) (h353:prog 353=some F353)
  (hv:Z prog (.call 321 [] [])=some (.ret (.bool true) [])) {first one two x y:Int} (hf:I64 first) (ho:I64 one) (ht:I64 two) (hix:I64 x) (hiy:I64 y) {d:D} {xs:List Int} (h:RowV d xs) (hx : ∀ x∈xs,I64 x) :
  Z prog (.call 334 [.int first,.dat d,.int one,.int two,.int x,.int y] [])=some (.ret (.bool true) []):=by
 obtain⟨j0,hj0,hje0,-⟩:=qh4 h17 h19 hf
 have zb:=qjE h7 h17 h19 h341 h347 hf h hx
 have ej:((around first 60).tmod 6).toNat=j0:=by omega
 have ok:OkB (bkOf first xs):=by unfold bkOf; rw[ej]; exact qln hj0 hx _
 have p0:0<(bkOf first xs).length:=by unfold bkOf; exact qgg _ _ _
 have p9:(bkOf first xs).length<=9:=by unfold bkOf; exact qjf _ _ _
 have lt:lastT (bkOf first xs)<100:=by
  unfold bkOf
  have:=qh3 ((around first 60).tmod 6).toNat hx (min xs.length 12)
  omega
 have z1:=qc1 h17 (n:=one) (m:=50) ho (by omega)
 have r1:=qb0 ho (m:=50) (by omega)
 have z2:=qc1 h17 (n:=two) (m:=50) ht (by omega)
 have r2:=qb0 ht (m:=50) (by omega)
 have z3:=qc1 h17 (n:=x) (m:=30) hix (by omega)
 have r3:=qb0 hix (m:=30) (by omega)
 have z4:=qc1 h17 (n:=y) (m:=30) hiy (by omega)
 have r4:=qb0 hiy (m:=30) (by omega)
 have o:=h.one
 have c:=h.cells
 have zv:=qhg h7 p0 (by omega)
 generalize bkOf first xs=L at *
 generalize around one 50=a1 at *
 generalize around two 50=a2 at *
 generalize around x 30=a3 at *
 generalize around y 30=a4 at *
 obtain⟨K,rfl⟩ : ∃ K:Nat,a3=K:=⟨a3.toNat,by omega⟩
 obtain⟨M,rfl⟩ : ∃ M:Nat,a4=M:=⟨a4.toNat,by omega⟩
 have d1:=qe8 h20 (qjq K (by omega))
 have d2:=qe8 h20 (qjq M (by omega))
 obtain⟨t1,ht1⟩ : ∃ t1,t1=100+a1:=⟨_,rfl⟩
 obtain⟨t2,ht2⟩ : ∃ t2,t2=100+a2:=⟨_,rfl⟩
 have w1:IntKind.i64.wrap (100+a1)=t1:=by rw[ht1]; exact qaB _ (by omega)
 have w2:IntKind.i64.wrap (100+a2)=t2:=by rw[ht2]; exact qaB _ (by omega)
 by_cases h8:8<L.length
 ·have h8':(8:Int)<L.length:=by omega
  refine qbf h334 rfl ?_
  clear hH h7 ok lt
  rcases qds L with ⟨C,e⟩ | ⟨C,n,m,e⟩<;>rw[e] at zb zv
  all_goals
   generalize L.length=nL at *
   generalize intsC (tks L)=T at *
   simp[F334_t,zb,zv,h8',hv,o,c,V.len,List.range_succ]
   done
 ·have h8' : ¬ (8:Int)<L.length:=by omega
  have pk1:qjb prog (qb6 K) (vrK t1 K):=qe8 h7 (qik K (by omega))
  have pk2:qjb prog (qb6 K) (vrK t2 K):=qe8 h7 (qik K (by omega))
  have pk3:qjb prog (qb6 M) (vrK t1 M):=qe8 h7 (qik M (by omega))
  have e1:(vrK t1 K).t=t1:=rfl
  have e2:(vrK t2 K).t=t2:=rfl
  have e3:(vrK t1 M).t=t1:=rfl
  have k1:=qgD h7 p0 (by omega) (by rw[e1]; omega) pk1
  have k2:=qgD h7 p0 (by omega) (by rw[e2]; omega) pk2
  have k3:=qgD h7 p0 (by omega) (by rw[e3]; omega) pk3
  have q1:=qfm hH h343 h353 ok (by omega) t1 K
  have q2:=qfm hH h343 h353 ok (by omega) t2 K
  have q3:=qfm hH h343 h353 ok (by omega) t1 M
  have i2:=qlb L (t:=t1) (u:=t2) (by unfold I64; omega) (by unfold I64; omega) K
  have i3:=qlc L t1 (K:=K) (M:=M) (by omega) (by omega)
  have i4:qb6 K=qb6 M↔K=M:=⟨qj6 (by omega) (by omega),fun h=>by rw[h]⟩
  rw[e1] at k1
  rw[e2] at k2
  rw[e3] at k3
  rw[<- i4] at i3
  unfold qb6 at k1 k2 k3 i3
  obtain⟨C1,n1,m1,b1⟩ : ∃ C n m,qaW (L++[vrK t1 K])=[.cells [.gsl C n 5 1],.tip m]:=⟨_,_,_,qcM (by simp; omega)⟩
  obtain⟨C2,n2,m2,b2⟩ : ∃ C n m,qaW (L++[vrK t2 K])=[.cells [.gsl C n 5 1],.tip m]:=⟨_,_,_,qcM (by simp; omega)⟩
  obtain⟨C3,n3,m3,b3⟩ : ∃ C n m,qaW (L++[vrK t1 M])=[.cells [.gsl C n 5 1],.tip m]:=⟨_,_,_,qcM (by simp; omega)⟩
  rw[b1] at k1 q1
  rw[b2] at k2 q2
  rw[b3] at k3 q3
  generalize rootI (L++[vrK t1 K])=g1 at *
  generalize rootI (L++[vrK t2 K])=g2 at *
  generalize rootI (L++[vrK t1 M])=g3 at *
  have y1:=szK (K:=K) (by omega)
  have y2:=szK (K:=M) (by omega)
  clear pk1 pk2 pk3 e1 e2 e3 b1 b2 b3 hH h7 ok lt i4 h20 r1 r2 r3 r4 ht1 ht2
  generalize decK K=s1 at *
  generalize decK M=s2 at *
  refine qbf h334 rfl ?_
  rcases qds L with ⟨C,e⟩ | ⟨C,n,m,e⟩<;>rw[e] at zb zv k1 k2 k3
  all_goals
   generalize L.length=nL at *
   generalize intsC (tks L)=T at *
   simp[F334_t,zb,zv,h8',z1,z2,z3,z4,w1,w2,y1.1,y1.2,y2.1,y2.2,d1,d2,k1,k2,k3,qnd hv q1 q2 q3 i2 i3,qne hv q1 q2 q3 i2 i3,o,c,V.len,List.range_succ]
   done
end
end Go.Pm
end SBc
section SBf
namespace Go.Pm
open F
theorem qib : ∀ f pf,t20 f=some pf->prog17z f=some pf:=fun f pf h=>by
 unfold t20 at h
 split at h<;>first | (cases h; rfl) | cases h
theorem bind17_Z {first one two x y:Int} (hf:I64 first) {d:D} {xs:List Int} (h:RowV d xs) (hx : ∀ x∈xs,I64 x) (ho:I64 one) (ht:I64 two) (hix:I64 x) (hiy:I64 y):Z prog17z (.call 334 [.int first,.dat d,.int one,.int two,.int x,.int y] [])=some (.ret (.bool true) []):=
 qez qi9 qi8 rfl qib rfl rfl rfl rfl rfl rfl qho hf ho ht hix hiy h hx
end Go.Pm
end SBf
