/- Chapter 17: the loops of PatchOwnership. F358 with its end folded. Chapter 17: SameInts of two equal rows that lie in the store. Chapter 17: the end of PatchOwnership. Chapter 17: the law PatchOwnership, walked. Chapter 17's law PatchOwnership, over the whole table. -/
import Derived.Test.YtpakkndfjpimgaaGreatDoorPmZg
import Derived.Test.YtpakkndfjpimgaaGreatDoorPmF7
import Derived.Test.YtpakkndfjpimgaaGreatDoorPmY
import Derived.KernelRfl
set_option linter.unusedSimpArgs false
set_option linter.unusedVariables false
section SBh
namespace Go.Pm
open F
set_option maxHeartbeats 4000000
def set1 (B:List D) (k:Nat) (x:D):List D:=B.take k++x::B.drop (k+1)
theorem qa0 {B:List D} {k:Nat} (h:k<B.length) (x:D):(set1 B k x).length=B.length:=by simp[set1]; omega
theorem qcL (B:List D) (k:Nat) (x:D):(B.map V.dat).take k++V.dat x::(B.map V.dat).drop (k+1)=(set1 B k x).map V.dat:=by simp[set1]
section
variable {prog:Nat->Option PFun}
theorem qk5 {C:List D} {n nL i:Nat} {t a b e:Int} {T B:List D} (hi:i<n) (hn:n<=10000) (hB:B.length=n*2) :
  Z prog (.loop 0 F358l0 [(7,.ptr 0 0),(8,.ptr 1 0),(9,.int t),(11,.ptr 2 0),(12,.msl 3 0 nL nL 1),(13,.int i)] [.cells [.dat (.sl C 1 true)],.cells [.dat (.sl C 1 true)],.cells [.own 4 n 2,.int a,.int b,.int e],.cells (T.map .dat),.vec (B.map .dat)]) =
  Z prog (.loop 0 F358l0 [(7,.ptr 0 0),(8,.ptr 1 0),(9,.int t),(11,.ptr 2 0),(12,.msl 3 0 nL nL 1),(13,.int (i+1:Nat))] [.cells [.dat (.sl C 1 true)],.cells [.dat (.sl C 1 true)],.cells [.own 4 n 2,.int a,.int b,.int e],.cells (T.map .dat),.vec ((set1 (set1 B (i*2) (.lit (.int .i64 99))) (i*2+1) (.lit (.int .i64 (-1)))).map .dat)]):=by
 have h1:=qcL B (i*2) (.lit (.int .i64 99))
 have h2:=qcL (set1 B (i*2) (.lit (.int .i64 99))) (i*2+1) (.lit (.int .i64 (-1)))
 have g1:=qa0 (B:=B) (k:=i*2) (by omega) (.lit (.int .i64 99))
 have g2:=qa0 (B:=set1 B (i*2) (.lit (.int .i64 99))) (k:=i*2+1) (by omega) (.lit (.int .i64 (-1)))
 have w1:IntKind.i64.wrap ((i:Int)+1)=((i+1:Nat):Int):=by rw[qav _ (by omega)]; omega
 have hlt:(i:Int)<n:=by omega
 have k1:i*2+1<=n*2:=by omega
 have k2:i*2+1+1<=n*2:=by omega
 generalize set1 (set1 B (i*2) (.lit (.int .i64 99))) (i*2+1) (.lit (.int .i64 (-1)))=B2 at *
 generalize set1 B (i*2) (.lit (.int .i64 99))=B1 at *
 rw[hB] at g1
 rw[g1] at g2
 have a0:(B.map V.dat).length=n*2:=by simpa using hB
 have a1:(B1.map V.dat).length=n*2:=by simpa using g1
 have a2:(B2.map V.dat).length=n*2:=by simpa using g2
 have l0:=qac B
 have l1:=qac B1
 have l2:=qac B2
 have r0:=fun r=>qad r B
 have r1:=fun r=>qad r B1
 have r2:=fun r=>qad r B2
 have lT:=qac T
 have rT:=fun r=>qad r T
 generalize B.map V.dat=W at *
 generalize B1.map V.dat=W1 at *
 generalize B2.map V.dat=W2 at *
 generalize T.map V.dat=TT at *
 generalize ((i+1:Nat):Int)=i1 at *
 clear g1 g2 hB
 conv=>lhs; rw[qah]
 simp[qai,qbJ,V.len,qaf,hlt,hi,w1,h1,h2,a0,a1,a2,k1,k2,l0,l1,l2,r0,r1,r2,lT,rT,List.range_succ]
theorem qk6 {C:List D} {n nL:Nat} {t a b e:Int} {T B:List D} :
  Z prog (.loop 0 F358l0 [(7,.ptr 0 0),(8,.ptr 1 0),(9,.int t),(11,.ptr 2 0),(12,.msl 3 0 nL nL 1),(13,.int n)] [.cells [.dat (.sl C 1 true)],.cells [.dat (.sl C 1 true)],.cells [.own 4 n 2,.int a,.int b,.int e],.cells (T.map .dat),.vec (B.map .dat)]) =
  some (.out (.exit 0) [(7,.ptr 0 0),(8,.ptr 1 0),(9,.int t),(11,.ptr 2 0),(12,.msl 3 0 nL nL 1),(13,.int n),(45,.bool false)] [.cells [.dat (.sl C 1 true)],.cells [.dat (.sl C 1 true)],.cells [.own 4 n 2,.int a,.int b,.int e],.cells (T.map .dat),.vec (B.map .dat)]):=by
 have l0:=qac B
 have r0:=fun r=>qad r B
 have lT:=qac T
 have rT:=fun r=>qad r T
 generalize B.map V.dat=W at *
 generalize T.map V.dat=TT at *
 rw[qah]
 simp[qai,qbJ,V.len,l0,r0,lT,rT,List.range_succ]
theorem qjd {C:List D} {n nL:Nat} {t a b e:Int} {T:List D} (hn:n<=10000) : ∀ (k i:Nat) (B:List D),B.length=n*2->i+k=n -> ∃ B':List D,
  Z prog (.loop 0 F358l0 [(7,.ptr 0 0),(8,.ptr 1 0),(9,.int t),(11,.ptr 2 0),(12,.msl 3 0 nL nL 1),(13,.int i)] [.cells [.dat (.sl C 1 true)],.cells [.dat (.sl C 1 true)],.cells [.own 4 n 2,.int a,.int b,.int e],.cells (T.map .dat),.vec (B.map .dat)]) =
  some (.out (.exit 0) [(7,.ptr 0 0),(8,.ptr 1 0),(9,.int t),(11,.ptr 2 0),(12,.msl 3 0 nL nL 1),(13,.int n),(45,.bool false)] [.cells [.dat (.sl C 1 true)],.cells [.dat (.sl C 1 true)],.cells [.own 4 n 2,.int a,.int b,.int e],.cells (T.map .dat),.vec (B'.map .dat)])
 | 0,i,B,hB,h=>by
  obtain rfl:i=n:=by omega
  exact⟨B,qk6⟩
 | k+1,i,B,hB,h=>by
  rw[qk5 (by omega) hn hB]
  exact qjd hn k (i+1) _ (by rw[qa0 (by rw[qa0 (by omega)]; omega),qa0 (by omega)]; exact hB) (by omega)
theorem qk7 {C:List D} {nL:Nat} {t a b e:Int} {T:List D} :
  Z prog (.loop 0 F358l0 [(7,.ptr 0 0),(8,.ptr 1 0),(9,.int t),(11,.ptr 2 0),(12,.msl 3 0 nL nL 1),(13,.int 0)] [.cells [.dat (.sl C 1 true)],.cells [.dat (.sl C 1 true)],.cells [.dat (.lit (.slice none 0 0)),.int a,.int b,.int e],.cells (T.map .dat)]) =
  some (.out (.exit 0) [(7,.ptr 0 0),(8,.ptr 1 0),(9,.int t),(11,.ptr 2 0),(12,.msl 3 0 nL nL 1),(13,.int 0),(45,.bool false)] [.cells [.dat (.sl C 1 true)],.cells [.dat (.sl C 1 true)],.cells [.dat (.lit (.slice none 0 0)),.int a,.int b,.int e],.cells (T.map .dat)]):=by
 have lT:=qac T
 have rT:=fun r=>qad r T
 generalize T.map V.dat=TT at *
 rw[qah]
 simp[qai,qbJ,V.len,lT,rT,List.range_succ]
theorem qk8 {C:List D} {n i:Nat} {t:Int} {T:List D} (hi:i<n) (hn:n<=10000) (hT:T.length=n) :
  Z prog (.loop 0 F358l1 [(7,.ptr 0 0),(8,.ptr 1 0),(9,.int t),(12,.msl 2 0 n n 1),(14,.int i)] [.cells [.dat (.sl C 1 true)],.cells [.dat (.sl C 1 true)],.cells (T.map .dat)]) =
  Z prog (.loop 0 F358l1 [(7,.ptr 0 0),(8,.ptr 1 0),(9,.int t),(12,.msl 2 0 n n 1),(14,.int (i+1:Nat))] [.cells [.dat (.sl C 1 true)],.cells [.dat (.sl C 1 true)],.cells ((set1 T i (.lit (.int .i64 (-7)))).map .dat)]):=by
 have h1:=qcL T i (.lit (.int .i64 (-7)))
 have g1:=qa0 (B:=T) (k:=i) (by omega) (.lit (.int .i64 (-7)))
 have w1:IntKind.i64.wrap ((i:Int)+1)=((i+1:Nat):Int):=by rw[qav _ (by omega)]; omega
 have hlt:(i:Int)<n:=by omega
 have k1:i+1<=n:=hi
 generalize set1 T i (.lit (.int .i64 (-7)))=B1 at *
 rw[hT] at g1
 have a0:(T.map V.dat).length=n:=by simpa using hT
 have a1:(B1.map V.dat).length=n:=by simpa using g1
 have l0:=qac T
 have l1:=qac B1
 have r0:=fun r=>qad r T
 have r1:=fun r=>qad r B1
 generalize T.map V.dat=W at *
 generalize B1.map V.dat=W1 at *
 generalize ((i+1:Nat):Int)=i1 at *
 clear g1 hT
 conv=>lhs; rw[qah]
 simp[qai,qcP,V.len,qaf,hlt,hi,w1,h1,a0,a1,k1,l0,l1,r0,r1,List.range_succ]
theorem qk9 {C:List D} {n:Nat} {t:Int} {T:List D} :
  Z prog (.loop 0 F358l1 [(7,.ptr 0 0),(8,.ptr 1 0),(9,.int t),(12,.msl 2 0 n n 1),(14,.int n)] [.cells [.dat (.sl C 1 true)],.cells [.dat (.sl C 1 true)],.cells (T.map .dat)]) =
  some (.out (.exit 2) [(7,.ptr 0 0),(8,.ptr 1 0),(9,.int t),(12,.msl 2 0 n n 1),(14,.int n),(61,.bool false)] [.cells [.dat (.sl C 1 true)],.cells [.dat (.sl C 1 true)],.cells (T.map .dat)]):=by
 have l0:=qac T
 have r0:=fun r=>qad r T
 generalize T.map V.dat=W at *
 rw[qah]
 simp[qai,qcP,V.len,l0,r0,List.range_succ]
theorem qhW {C:List D} {n:Nat} {t:Int} (hn:n<=10000) : ∀ (k i:Nat) (T:List D),T.length=n->i+k=n -> ∃ T':List D,
  Z prog (.loop 0 F358l1 [(7,.ptr 0 0),(8,.ptr 1 0),(9,.int t),(12,.msl 2 0 n n 1),(14,.int i)] [.cells [.dat (.sl C 1 true)],.cells [.dat (.sl C 1 true)],.cells (T.map .dat)]) =
  some (.out (.exit 2) [(7,.ptr 0 0),(8,.ptr 1 0),(9,.int t),(12,.msl 2 0 n n 1),(14,.int n),(61,.bool false)] [.cells [.dat (.sl C 1 true)],.cells [.dat (.sl C 1 true)],.cells (T'.map .dat)])
 | 0,i,T,hT,h=>by
  obtain rfl:i=n:=by omega
  exact⟨T,qk9⟩
 | k+1,i,T,hT,h=>by
  rw[qk8 (by omega) hn hT]
  exact qhW hn k (i+1) _ (by rw[qa0 (by omega)]; exact hT) (by omega)
theorem qla {C:List D} {N m n nL i:Nat} {t a b e:Int} {T B:List D} (hi:i<n) (hn:n<=10000) (hB:B.length=n*2) :
  Z prog (.loop 0 F358l0 [(7,.ptr 0 0),(8,.ptr 1 0),(9,.int t),(11,.ptr 2 0),(12,.msl 3 0 nL nL 1),(13,.int i)] [.cells [.gsl C N 5 4],.cells [.gsl C N 5 5],.cells [.own 6 n 2,.int a,.int b,.int e],.cells (T.map .dat),.tip m,.tip m,.vec (B.map .dat)]) =
  Z prog (.loop 0 F358l0 [(7,.ptr 0 0),(8,.ptr 1 0),(9,.int t),(11,.ptr 2 0),(12,.msl 3 0 nL nL 1),(13,.int (i+1:Nat))] [.cells [.gsl C N 5 4],.cells [.gsl C N 5 5],.cells [.own 6 n 2,.int a,.int b,.int e],.cells (T.map .dat),.tip m,.tip m,.vec ((set1 (set1 B (i*2) (.lit (.int .i64 99))) (i*2+1) (.lit (.int .i64 (-1)))).map .dat)]):=by
 have h1:=qcL B (i*2) (.lit (.int .i64 99))
 have h2:=qcL (set1 B (i*2) (.lit (.int .i64 99))) (i*2+1) (.lit (.int .i64 (-1)))
 have g1:=qa0 (B:=B) (k:=i*2) (by omega) (.lit (.int .i64 99))
 have g2:=qa0 (B:=set1 B (i*2) (.lit (.int .i64 99))) (k:=i*2+1) (by omega) (.lit (.int .i64 (-1)))
 have w1:IntKind.i64.wrap ((i:Int)+1)=((i+1:Nat):Int):=by rw[qav _ (by omega)]; omega
 have hlt:(i:Int)<n:=by omega
 have k1:i*2+1<=n*2:=by omega
 have k2:i*2+1+1<=n*2:=by omega
 generalize set1 (set1 B (i*2) (.lit (.int .i64 99))) (i*2+1) (.lit (.int .i64 (-1)))=B2 at *
 generalize set1 B (i*2) (.lit (.int .i64 99))=B1 at *
 rw[hB] at g1
 rw[g1] at g2
 have a0:(B.map V.dat).length=n*2:=by simpa using hB
 have a1:(B1.map V.dat).length=n*2:=by simpa using g1
 have a2:(B2.map V.dat).length=n*2:=by simpa using g2
 have l0:=qac B
 have l1:=qac B1
 have l2:=qac B2
 have r0:=fun r=>qad r B
 have r1:=fun r=>qad r B1
 have r2:=fun r=>qad r B2
 have lT:=qac T
 have rT:=fun r=>qad r T
 generalize B.map V.dat=W at *
 generalize B1.map V.dat=W1 at *
 generalize B2.map V.dat=W2 at *
 generalize T.map V.dat=TT at *
 generalize ((i+1:Nat):Int)=i1 at *
 clear g1 g2 hB
 conv=>lhs; rw[qah]
 simp[qai,qbJ,V.len,qaf,hlt,hi,w1,h1,h2,a0,a1,a2,k1,k2,l0,l1,l2,r0,r1,r2,lT,rT,List.range_succ]
theorem qlb {C:List D} {N m n nL:Nat} {t a b e:Int} {T B:List D} :
  Z prog (.loop 0 F358l0 [(7,.ptr 0 0),(8,.ptr 1 0),(9,.int t),(11,.ptr 2 0),(12,.msl 3 0 nL nL 1),(13,.int n)] [.cells [.gsl C N 5 4],.cells [.gsl C N 5 5],.cells [.own 6 n 2,.int a,.int b,.int e],.cells (T.map .dat),.tip m,.tip m,.vec (B.map .dat)]) =
  some (.out (.exit 0) [(7,.ptr 0 0),(8,.ptr 1 0),(9,.int t),(11,.ptr 2 0),(12,.msl 3 0 nL nL 1),(13,.int n),(45,.bool false)] [.cells [.gsl C N 5 4],.cells [.gsl C N 5 5],.cells [.own 6 n 2,.int a,.int b,.int e],.cells (T.map .dat),.tip m,.tip m,.vec (B.map .dat)]):=by
 have l0:=qac B
 have r0:=fun r=>qad r B
 have lT:=qac T
 have rT:=fun r=>qad r T
 generalize B.map V.dat=W at *
 generalize T.map V.dat=TT at *
 rw[qah]
 simp[qai,qbJ,V.len,l0,r0,lT,rT,List.range_succ]
theorem qje {C:List D} {N m n nL:Nat} {t a b e:Int} {T:List D} (hn:n<=10000) : ∀ (k i:Nat) (B:List D),B.length=n*2->i+k=n -> ∃ B':List D,
  Z prog (.loop 0 F358l0 [(7,.ptr 0 0),(8,.ptr 1 0),(9,.int t),(11,.ptr 2 0),(12,.msl 3 0 nL nL 1),(13,.int i)] [.cells [.gsl C N 5 4],.cells [.gsl C N 5 5],.cells [.own 6 n 2,.int a,.int b,.int e],.cells (T.map .dat),.tip m,.tip m,.vec (B.map .dat)]) =
  some (.out (.exit 0) [(7,.ptr 0 0),(8,.ptr 1 0),(9,.int t),(11,.ptr 2 0),(12,.msl 3 0 nL nL 1),(13,.int n),(45,.bool false)] [.cells [.gsl C N 5 4],.cells [.gsl C N 5 5],.cells [.own 6 n 2,.int a,.int b,.int e],.cells (T.map .dat),.tip m,.tip m,.vec (B'.map .dat)])
 | 0,i,B,hB,h=>by
  obtain rfl:i=n:=by omega
  exact⟨B,qlb⟩
 | k+1,i,B,hB,h=>by
  rw[qla (by omega) hn hB]
  exact qje hn k (i+1) _ (by rw[qa0 (by rw[qa0 (by omega)]; omega),qa0 (by omega)]; exact hB) (by omega)
theorem qlc {C:List D} {N m nL:Nat} {t a b e:Int} {T:List D} :
  Z prog (.loop 0 F358l0 [(7,.ptr 0 0),(8,.ptr 1 0),(9,.int t),(11,.ptr 2 0),(12,.msl 3 0 nL nL 1),(13,.int 0)] [.cells [.gsl C N 5 4],.cells [.gsl C N 5 5],.cells [.dat (.lit (.slice none 0 0)),.int a,.int b,.int e],.cells (T.map .dat),.tip m,.tip m]) =
  some (.out (.exit 0) [(7,.ptr 0 0),(8,.ptr 1 0),(9,.int t),(11,.ptr 2 0),(12,.msl 3 0 nL nL 1),(13,.int 0),(45,.bool false)] [.cells [.gsl C N 5 4],.cells [.gsl C N 5 5],.cells [.dat (.lit (.slice none 0 0)),.int a,.int b,.int e],.cells (T.map .dat),.tip m,.tip m]):=by
 have lT:=qac T
 have rT:=fun r=>qad r T
 generalize T.map V.dat=TT at *
 rw[qah]
 simp[qai,qbJ,V.len,lT,rT,List.range_succ]
theorem qld {C:List D} {N m n i:Nat} {t:Int} {T:List D} (hi:i<n) (hn:n<=10000) (hT:T.length=n) :
  Z prog (.loop 0 F358l1 [(7,.ptr 0 0),(8,.ptr 1 0),(9,.int t),(12,.msl 2 0 n n 1),(14,.int i)] [.cells [.gsl C N 5 3],.cells [.gsl C N 5 4],.cells (T.map .dat),.tip m,.tip m]) =
  Z prog (.loop 0 F358l1 [(7,.ptr 0 0),(8,.ptr 1 0),(9,.int t),(12,.msl 2 0 n n 1),(14,.int (i+1:Nat))] [.cells [.gsl C N 5 3],.cells [.gsl C N 5 4],.cells ((set1 T i (.lit (.int .i64 (-7)))).map .dat),.tip m,.tip m]):=by
 have h1:=qcL T i (.lit (.int .i64 (-7)))
 have g1:=qa0 (B:=T) (k:=i) (by omega) (.lit (.int .i64 (-7)))
 have w1:IntKind.i64.wrap ((i:Int)+1)=((i+1:Nat):Int):=by rw[qav _ (by omega)]; omega
 have hlt:(i:Int)<n:=by omega
 have k1:i+1<=n:=hi
 generalize set1 T i (.lit (.int .i64 (-7)))=B1 at *
 rw[hT] at g1
 have a0:(T.map V.dat).length=n:=by simpa using hT
 have a1:(B1.map V.dat).length=n:=by simpa using g1
 have l0:=qac T
 have l1:=qac B1
 have r0:=fun r=>qad r T
 have r1:=fun r=>qad r B1
 generalize T.map V.dat=W at *
 generalize B1.map V.dat=W1 at *
 generalize ((i+1:Nat):Int)=i1 at *
 clear g1 hT
 conv=>lhs; rw[qah]
 simp[qai,qcP,V.len,qaf,hlt,hi,w1,h1,a0,a1,k1,l0,l1,r0,r1,List.range_succ]
theorem qle {C:List D} {N m n:Nat} {t:Int} {T:List D} :
  Z prog (.loop 0 F358l1 [(7,.ptr 0 0),(8,.ptr 1 0),(9,.int t),(12,.msl 2 0 n n 1),(14,.int n)] [.cells [.gsl C N 5 3],.cells [.gsl C N 5 4],.cells (T.map .dat),.tip m,.tip m]) =
  some (.out (.exit 2) [(7,.ptr 0 0),(8,.ptr 1 0),(9,.int t),(12,.msl 2 0 n n 1),(14,.int n),(61,.bool false)] [.cells [.gsl C N 5 3],.cells [.gsl C N 5 4],.cells (T.map .dat),.tip m,.tip m]):=by
 have l0:=qac T
 have r0:=fun r=>qad r T
 generalize T.map V.dat=W at *
 rw[qah]
 simp[qai,qcP,V.len,l0,r0,List.range_succ]
theorem qhX {C:List D} {N m n:Nat} {t:Int} (hn:n<=10000) : ∀ (k i:Nat) (T:List D),T.length=n->i+k=n -> ∃ T':List D,
  Z prog (.loop 0 F358l1 [(7,.ptr 0 0),(8,.ptr 1 0),(9,.int t),(12,.msl 2 0 n n 1),(14,.int i)] [.cells [.gsl C N 5 3],.cells [.gsl C N 5 4],.cells (T.map .dat),.tip m,.tip m]) =
  some (.out (.exit 2) [(7,.ptr 0 0),(8,.ptr 1 0),(9,.int t),(12,.msl 2 0 n n 1),(14,.int n),(61,.bool false)] [.cells [.gsl C N 5 3],.cells [.gsl C N 5 4],.cells (T'.map .dat),.tip m,.tip m])
 | 0,i,T,hT,h=>by
  obtain rfl:i=n:=by omega
  exact⟨T,qle⟩
 | k+1,i,T,hT,h=>by
  rw[qld (by omega) hn hT]
  exact qhX hn k (i+1) _ (by rw[qa0 (by omega)]; exact hT) (by omega)
theorem own_g1 {C:List D} {n nL:Nat} {t a b e:Int} {T B:List D} :
  Z prog (.loop 0 F358l0 [(7,.ptr 0 0),(8,.ptr 1 0),(9,.int t),(11,.ptr 3 0),(12,.msl 4 0 nL nL 1),(13,.int 0)] [.cells [.dat (.sl C 1 true)],.cells [.dat (.sl C 1 true)],.vec (B.map .dat),.cells [.own 2 n 2,.int a,.int b,.int e],.cells (T.map .dat)]) =
  Z prog (.loop 0 F358l0 [(7,.ptr 0 0),(8,.ptr 1 0),(9,.int t),(11,.ptr 2 0),(12,.msl 3 0 nL nL 1),(13,.int 0)] [.cells [.dat (.sl C 1 true)],.cells [.dat (.sl C 1 true)],.cells [.own 4 n 2,.int a,.int b,.int e],.cells (T.map .dat),.vec (B.map .dat)]):=by
 have l0:=qac B
 have r0:=fun r=>qad r B
 have lT:=qac T
 have rT:=fun r=>qad r T
 generalize B.map V.dat=W at *
 generalize T.map V.dat=TT at *
 exact qau (by simp[gcF,l0,r0,lT,rT,List.range_succ])
theorem qlf {C:List D} {q n:Nat} {t a b e:Int} {T B:List D} :
  Z prog (.loop 0 F358l1 [(7,.ptr 0 0),(8,.ptr 1 0),(9,.int t),(12,.msl 3 0 n n 1),(14,.int 0)] [.cells [.dat (.sl C 1 true)],.cells [.dat (.sl C 1 true)],.cells [.own 4 q 2,.int a,.int b,.int e],.cells (T.map .dat),.vec (B.map .dat)]) =
  Z prog (.loop 0 F358l1 [(7,.ptr 0 0),(8,.ptr 1 0),(9,.int t),(12,.msl 2 0 n n 1),(14,.int 0)] [.cells [.dat (.sl C 1 true)],.cells [.dat (.sl C 1 true)],.cells (T.map .dat)]):=by
 have l0:=qac B
 have r0:=fun r=>qad r B
 have lT:=qac T
 have rT:=fun r=>qad r T
 generalize B.map V.dat=W at *
 generalize T.map V.dat=TT at *
 exact qau (by simp[gcF,l0,r0,lT,rT,List.range_succ])
theorem qlg {C:List D} {n:Nat} {t a b e:Int} {T:List D} :
  Z prog (.loop 0 F358l1 [(7,.ptr 0 0),(8,.ptr 1 0),(9,.int t),(12,.msl 3 0 n n 1),(14,.int 0)] [.cells [.dat (.sl C 1 true)],.cells [.dat (.sl C 1 true)],.cells [.dat (.lit (.slice none 0 0)),.int a,.int b,.int e],.cells (T.map .dat)]) =
  Z prog (.loop 0 F358l1 [(7,.ptr 0 0),(8,.ptr 1 0),(9,.int t),(12,.msl 2 0 n n 1),(14,.int 0)] [.cells [.dat (.sl C 1 true)],.cells [.dat (.sl C 1 true)],.cells (T.map .dat)]):=by
 have lT:=qac T
 have rT:=fun r=>qad r T
 generalize T.map V.dat=TT at *
 exact qau (by simp[gcF,lT,rT,List.range_succ])
theorem own_g2 {C:List D} {N m n nL:Nat} {t a b e:Int} {T B:List D} :
  Z prog (.loop 0 F358l0 [(7,.ptr 0 0),(8,.ptr 2 0),(9,.int t),(11,.ptr 5 0),(12,.msl 6 0 nL nL 1),(13,.int 0)] [.cells [.gsl C N 5 1],.tip m,.cells [.gsl C N 5 3],.tip m,.vec (B.map .dat),.cells [.own 4 n 2,.int a,.int b,.int e],.cells (T.map .dat)]) =
  Z prog (.loop 0 F358l0 [(7,.ptr 0 0),(8,.ptr 1 0),(9,.int t),(11,.ptr 2 0),(12,.msl 3 0 nL nL 1),(13,.int 0)] [.cells [.gsl C N 5 4],.cells [.gsl C N 5 5],.cells [.own 6 n 2,.int a,.int b,.int e],.cells (T.map .dat),.tip m,.tip m,.vec (B.map .dat)]):=by
 have l0:=qac B
 have r0:=fun r=>qad r B
 have lT:=qac T
 have rT:=fun r=>qad r T
 generalize B.map V.dat=W at *
 generalize T.map V.dat=TT at *
 exact qau (by simp[gcF,l0,r0,lT,rT,List.range_succ])
theorem own_h2 {C:List D} {N m nL:Nat} {t a b e:Int} {T:List D} :
  Z prog (.loop 0 F358l0 [(7,.ptr 0 0),(8,.ptr 2 0),(9,.int t),(11,.ptr 4 0),(12,.msl 5 0 nL nL 1),(13,.int 0)] [.cells [.gsl C N 5 1],.tip m,.cells [.gsl C N 5 3],.tip m,.cells [.dat (.lit (.slice none 0 0)),.int a,.int b,.int e],.cells (T.map .dat)]) =
  Z prog (.loop 0 F358l0 [(7,.ptr 0 0),(8,.ptr 1 0),(9,.int t),(11,.ptr 2 0),(12,.msl 3 0 nL nL 1),(13,.int 0)] [.cells [.gsl C N 5 4],.cells [.gsl C N 5 5],.cells [.dat (.lit (.slice none 0 0)),.int a,.int b,.int e],.cells (T.map .dat),.tip m,.tip m]):=by
 have lT:=qac T
 have rT:=fun r=>qad r T
 generalize T.map V.dat=TT at *
 exact qau (by simp[gcF,lT,rT,List.range_succ])
theorem qlh {C:List D} {N m q n:Nat} {t a b e:Int} {T B:List D} :
  Z prog (.loop 0 F358l1 [(7,.ptr 0 0),(8,.ptr 1 0),(9,.int t),(12,.msl 3 0 n n 1),(14,.int 0)] [.cells [.gsl C N 5 4],.cells [.gsl C N 5 5],.cells [.own 6 q 2,.int a,.int b,.int e],.cells (T.map .dat),.tip m,.tip m,.vec (B.map .dat)]) =
  Z prog (.loop 0 F358l1 [(7,.ptr 0 0),(8,.ptr 1 0),(9,.int t),(12,.msl 2 0 n n 1),(14,.int 0)] [.cells [.gsl C N 5 3],.cells [.gsl C N 5 4],.cells (T.map .dat),.tip m,.tip m]):=by
 have l0:=qac B
 have r0:=fun r=>qad r B
 have lT:=qac T
 have rT:=fun r=>qad r T
 generalize B.map V.dat=W at *
 generalize T.map V.dat=TT at *
 exact qau (by simp[gcF,l0,r0,lT,rT,List.range_succ])
theorem qli {C:List D} {N m n:Nat} {t a b e:Int} {T:List D} :
  Z prog (.loop 0 F358l1 [(7,.ptr 0 0),(8,.ptr 1 0),(9,.int t),(12,.msl 3 0 n n 1),(14,.int 0)] [.cells [.gsl C N 5 4],.cells [.gsl C N 5 5],.cells [.dat (.lit (.slice none 0 0)),.int a,.int b,.int e],.cells (T.map .dat),.tip m,.tip m]) =
  Z prog (.loop 0 F358l1 [(7,.ptr 0 0),(8,.ptr 1 0),(9,.int t),(12,.msl 2 0 n n 1),(14,.int 0)] [.cells [.gsl C N 5 3],.cells [.gsl C N 5 4],.cells (T.map .dat),.tip m,.tip m]):=by
 have lT:=qac T
 have rT:=fun r=>qad r T
 generalize T.map V.dat=TT at *
 exact qau (by simp[gcF,lT,rT,List.range_succ])
end
end Go.Pm
end SBh
section SBia
namespace Go.Pm
open F
set_option maxHeartbeats 4000000
def F358t:PC:=(.seq (rn [la 79 4 16,la 80 4 18,cl 81 346 [79,80],mv 82 81,jt 83 82 (.mov (.t 7)),jt 84 82 (.call 343 [(.t 83)]),jt 85 82 (.mov (.t 8)),jt 86 82 (.call 343 [(.t 85)]),jt 87 82 (.bin .eql (.t 84) (.t 86)),jj 88 (.pick (.t 82) (.t 87) kF),mv 89 88,jt 90 89 (.mov (.t 7)),jt 91 89 (.call 354 [(.t 90)]),jt 92 89 (.mov (.t 8)),jt 93 89 (.call 354 [(.t 92)]),jt 94 89 (.call 58 [(.t 91),(.t 93)]),jj 95 (.pick (.t 89) (.t 94) kF),mv 96 95,jt 97 96 (.call 355 []),jj 98 (.pick (.t 96) (.t 97) kF),mv 6 98] [6]) (.ret))
theorem F358_t:F358=⟨3,[.tmp 6],.seq (rn [mx 6 kF] [0,1,2]) (.seq (rn [mv 19 0,mv 20 1,cl 21 347 [19,20],mv 7 21] [0,1,2,7]) (.seq (rn [mv 22 0,mv 23 1,cl 24 347 [22,23],mv 8 24] [2,7,8]) (.seq (.seq (rn [mv 25 7,jj 26 (.isnil true false (.t 25)),mv 27 26,jf 28 27 (.mov (.t 8)),jf 29 27 (.isnil true false (.t 28)),jj 30 (.pick (.t 27) kT (.t 29))] [2,7,8,30]) (.cond (.t 30) (.seq (rn [mx 6 kF] [6]) (.ret)) (.skip))) (.seq (rn [mv 31 2,jj 32 (.call 17 [(.t 31),(kk 90)]),mv 9 32] [7,8,9]) (.seq (rn [mv 34 7,mv 35 9,cl 36 356 [34,35],mv 33 36,ex 37 33 0,ex 38 33 1,jj 11 (.alloc [sN,zN,zN,zN]),mv 10 37,st 4 11 38] [7,8,9,11]) (.seq (rn [mv 39 7,cl 40 354 [39],mv 12 40] [7,8,9,11,12]) (.seq (.seq (rn [mx 13 (kk 0)] [7,8,9,11,12,13]) (.block 0 (.loop F358l0))) (.seq (.seq (rn [mx 14 (kk 0)] [7,8,9,12,14]) (.block 2 (.loop F358l1))) (.seq (rn [mv 68 7,mv 69 9,cl 70 356 [68,69],mv 67 70,ex 71 67 0,ex 72 67 1,jj 16 (.alloc [sN,zN,zN,zN]),mv 15 71,st 4 16 72] [7,8,9,16]) (.seq (rn [mv 74 8,mv 75 9,cl 76 356 [74,75],mv 73 76,ex 77 73 0,ex 78 73 1,jj 18 (.alloc [sN,zN,zN,zN]),mv 17 77,st 4 18 78] [7,8,16,18]) F358t)))))))))),false,false,false⟩:=rfl
end Go.Pm
end SBia
section SBj
namespace Go.Pm
open F
set_option maxHeartbeats 4000000
section
variable {prog:Nat->Option PFun}
theorem qjn {w:List Int} (hw:w.length<=1000) : ∀ (m i:Nat),i+m=w.length ->
  Z prog (.loop 2 F58l0 [(0,.msl 0 0 w.length w.length 1),(1,.msl 1 0 w.length w.length 1),(5,.int i)] [.cells ((intsC w).map .dat),.cells ((intsC w).map .dat)])=some (.out (.exit 0) [(0,.msl 0 0 w.length w.length 1),(1,.msl 1 0 w.length w.length 1),(5,.int w.length),(14,.bool false)] [.cells ((intsC w).map .dat),.cells ((intsC w).map .dat)])
 | 0,i,hi=>by
  obtain rfl:i=w.length:=by omega
  have l0:=qac (intsC w)
  have r0:=fun r=>qad r (intsC w)
  generalize (intsC w).map V.dat=W at *
  rw[qah]
  simp[qai,qf4,V.len,l0,r0,List.range_succ]
 | m+1,i,hi=>by
  have hi':i<w.length:=by omega
  have hlt:(i:Int)<w.length:=by omega
  have hc:qaj ((intsC w).map V.dat) i 1=some [.int w[i]]:=by
   unfold qaj intsC
   rw[List.map_map,<- List.map_drop,List.drop_eq_getElem_cons hi',List.map_cons]
   rfl
  have ha:((intsC w).map V.dat).length=w.length:=by simp[intsC]
  have w1:IntKind.i64.wrap ((i:Int)+1)=((i+1:Nat):Int):=by rw[qav _ (by omega)]; omega
  rw[<- qjn hw m (i+1) (by omega)]
  have l0:=qac (intsC w)
  have r0:=fun r=>qad r (intsC w)
  have k1:i+1<=w.length:=hi'
  generalize w[i]=x at *
  generalize ((i+1:Nat):Int)=i1 at *
  generalize (intsC w).map V.dat=W at *
  generalize w.length=n at *
  conv=>lhs; rw[qah]
  simp[qai,qf4,V.len,qaf,hlt,hi',hc,ha,k1,w1,l0,r0,List.range_succ]
theorem qly (h58:prog 58=some F58) (w:List Int) (hw:w.length<=1000):Z prog (.call 58 [.msl 0 0 w.length w.length 1,.msl 1 0 w.length w.length 1] [.cells ((intsC w).map .dat),.cells ((intsC w).map .dat)])=some (.ret (.bool true) [.cells ((intsC w).map .dat),.cells ((intsC w).map .dat)]):=by
 have e:=qjn (prog:=prog) hw w.length 0 (by omega)
 rw[show ((0:Nat):Int)=0 from rfl] at e
 have l0:=qac (intsC w)
 have r0:=fun r=>qad r (intsC w)
 refine qaZ h58 rfl ?_
 generalize (intsC w).map V.dat=W at *
 generalize w.length=n at *
 simp[F58,V.len,e,l0,r0,List.range_succ]
end
end Go.Pm
end SBj
section SBk
namespace Go.Pm
open F
set_option maxHeartbeats 4000000
section
variable {prog:Nat->Option PFun} (hv:Z prog (.call 355 [] [])=some (.ret (.bool true) []))
include hv
theorem qmc {C T S:List D} {nL:Nat} {va vb ve ro:Int} {B:List D} {n:Nat} (hB:B.length=n*2) (hone : ∀ x∈B,V.one (.dat x)=true) (hT:T.length=nL) (hoT : ∀ x∈T,V.one (.dat x)=true)
  (zs:Z prog (.call 346 [.dat (.agg [.sl B n false,.lit (.int .i64 va),.lit (.int .i64 vb),.lit (.int .i64 ve)]),.dat (.agg [.sl B n false,.lit (.int .i64 va),.lit (.int .i64 vb),.lit (.int .i64 ve)])] [])=some (.ret (.bool true) []))
  (z43:Z prog (.call 343 [.ptr 0 0] [.cells [.dat (.sl C 1 true)]])=some (.ret (.dat (.lit (.int .u64 ro))) [.cells [.dat (.sl C 1 true)]]))
  (zv:Z prog (.call 354 [.ptr 0 0] [.cells [.dat (.sl C 1 true)]])=some (.ret (.msl 1 0 nL nL 1) [.cells [.dat (.sl C 1 true)],.cells (T.map .dat)]))
  (z58:Z prog (.call 58 [.msl 0 0 nL nL 1,.msl 1 0 nL nL 1] [.cells (T.map .dat),.cells (T.map .dat)])=some (.ret (.bool true) [.cells (T.map .dat),.cells (T.map .dat)])) :
  run (Z prog) 0 F358t [(7,.ptr 0 0),(8,.ptr 1 0),(16,.ptr 4 0),(18,.ptr 6 0)] [.cells [.dat (.sl C 1 true)],.cells [.dat (.sl C 1 true)],.cells (S.map .dat),.vec (B.map .dat),.cells [.own 3 n 2,.int va,.int vb,.int ve],.vec (B.map .dat),.cells [.own 5 n 2,.int va,.int vb,.int ve]]=some (.ret,[(6,.bool true)],[.cells [.dat (.sl C 1 true)],.cells [.dat (.sl C 1 true)],.cells (S.map .dat),.froz B,.cells [.own 3 n 2,.int va,.int vb,.int ve],.froz B,.cells [.own 5 n 2,.int va,.int vb,.int ve],.cells (T.map .dat),.cells (T.map .dat)]):=by
 have lT:=qac T
 have rT:=fun r=>qad r T
 have adT:=qaF T
 have lS:=qac S
 have rS:=fun r=>qad r S
 have adS:=qaF S
 have lB:=qac B
 have rB:=fun r=>qad r B
 have adB:=qaF B
 have aT:(T.map V.dat).length=nL:=by simpa using hT
 have aB:(B.map V.dat).length=n*2:=by simpa using hB
 generalize T.map V.dat=TT at *
 generalize S.map V.dat=SS at *
 generalize B.map V.dat=BB at *
 simp -implicitDefEqProofs [F358t,hv,zs,z43,zv,z58,lT,rT,adT,lS,rS,adS,lB,rB,adB,aT,hT,hoT,aB,hB,hone,V.len,List.range_succ]
theorem qmd {C T S:List D} {N m nL:Nat} {va vb ve ro:Int} {B:List D} {n:Nat} (hB:B.length=n*2) (hone : ∀ x∈B,V.one (.dat x)=true) (hT:T.length=nL) (hoT : ∀ x∈T,V.one (.dat x)=true)
  (zs:Z prog (.call 346 [.dat (.agg [.sl B n false,.lit (.int .i64 va),.lit (.int .i64 vb),.lit (.int .i64 ve)]),.dat (.agg [.sl B n false,.lit (.int .i64 va),.lit (.int .i64 vb),.lit (.int .i64 ve)])] [])=some (.ret (.bool true) []))
  (z43:Z prog (.call 343 [.ptr 0 0] [.cells [.gsl C N 5 1],.tip m])=some (.ret (.dat (.lit (.int .u64 ro))) [.cells [.gsl C N 5 1],.tip m]))
  (zv:Z prog (.call 354 [.ptr 0 0] [.cells [.gsl C N 5 1],.tip m])=some (.ret (.msl 2 0 nL nL 1) [.cells [.gsl C N 5 1],.tip m,.cells (T.map .dat)]))
  (z58:Z prog (.call 58 [.msl 0 0 nL nL 1,.msl 1 0 nL nL 1] [.cells (T.map .dat),.cells (T.map .dat)])=some (.ret (.bool true) [.cells (T.map .dat),.cells (T.map .dat)])) :
  run (Z prog) 0 F358t [(7,.ptr 0 0),(8,.ptr 1 0),(16,.ptr 6 0),(18,.ptr 8 0)] [.cells [.gsl C N 5 3],.cells [.gsl C N 5 4],.cells (S.map .dat),.tip m,.tip m,.vec (B.map .dat),.cells [.own 5 n 2,.int va,.int vb,.int ve],.vec (B.map .dat),.cells [.own 7 n 2,.int va,.int vb,.int ve]]=some (.ret,[(6,.bool true)],[.cells [.gsl C N 5 3],.cells [.gsl C N 5 4],.cells (S.map .dat),.tip m,.tip m,.froz B,.cells [.own 5 n 2,.int va,.int vb,.int ve],.froz B,.cells [.own 7 n 2,.int va,.int vb,.int ve],.cells (T.map .dat),.cells (T.map .dat)]):=by
 have lT:=qac T
 have rT:=fun r=>qad r T
 have adT:=qaF T
 have lS:=qac S
 have rS:=fun r=>qad r S
 have adS:=qaF S
 have lB:=qac B
 have rB:=fun r=>qad r B
 have adB:=qaF B
 have aT:(T.map V.dat).length=nL:=by simpa using hT
 have aB:(B.map V.dat).length=n*2:=by simpa using hB
 generalize T.map V.dat=TT at *
 generalize S.map V.dat=SS at *
 generalize B.map V.dat=BB at *
 simp -implicitDefEqProofs [F358t,hv,zs,z43,zv,z58,lT,rT,adT,lS,rS,adS,lB,rB,adB,aT,hT,hoT,aB,hB,hone,V.len,List.range_succ]
theorem qme {C T S:List D} {nL:Nat} {va vb ve ro:Int} (hT:T.length=nL) (hoT : ∀ x∈T,V.one (.dat x)=true)
  (zs:Z prog (.call 346 [.dat (.agg [.lit (.slice none 0 0),.lit (.int .i64 va),.lit (.int .i64 vb),.lit (.int .i64 ve)]),.dat (.agg [.lit (.slice none 0 0),.lit (.int .i64 va),.lit (.int .i64 vb),.lit (.int .i64 ve)])] [])=some (.ret (.bool true) []))
  (z43:Z prog (.call 343 [.ptr 0 0] [.cells [.dat (.sl C 1 true)]])=some (.ret (.dat (.lit (.int .u64 ro))) [.cells [.dat (.sl C 1 true)]]))
  (zv:Z prog (.call 354 [.ptr 0 0] [.cells [.dat (.sl C 1 true)]])=some (.ret (.msl 1 0 nL nL 1) [.cells [.dat (.sl C 1 true)],.cells (T.map .dat)]))
  (z58:Z prog (.call 58 [.msl 0 0 nL nL 1,.msl 1 0 nL nL 1] [.cells (T.map .dat),.cells (T.map .dat)])=some (.ret (.bool true) [.cells (T.map .dat),.cells (T.map .dat)])) :
  run (Z prog) 0 F358t [(7,.ptr 0 0),(8,.ptr 1 0),(16,.ptr 3 0),(18,.ptr 4 0)] [.cells [.dat (.sl C 1 true)],.cells [.dat (.sl C 1 true)],.cells (S.map .dat),.cells [.dat (.lit (.slice none 0 0)),.int va,.int vb,.int ve],.cells [.dat (.lit (.slice none 0 0)),.int va,.int vb,.int ve]]=some (.ret,[(6,.bool true)],[.cells [.dat (.sl C 1 true)],.cells [.dat (.sl C 1 true)],.cells (S.map .dat),.cells [.dat (.lit (.slice none 0 0)),.int va,.int vb,.int ve],.cells [.dat (.lit (.slice none 0 0)),.int va,.int vb,.int ve],.cells (T.map .dat),.cells (T.map .dat)]):=by
 have lT:=qac T
 have rT:=fun r=>qad r T
 have adT:=qaF T
 have lS:=qac S
 have rS:=fun r=>qad r S
 have adS:=qaF S
 have aT:(T.map V.dat).length=nL:=by simpa using hT
 generalize T.map V.dat=TT at *
 generalize S.map V.dat=SS at *
 simp -implicitDefEqProofs [F358t,hv,zs,z43,zv,z58,lT,rT,adT,lS,rS,adS,aT,hT,hoT,V.len,List.range_succ]
theorem qmf {C T S:List D} {N m nL:Nat} {va vb ve ro:Int} (hT:T.length=nL) (hoT : ∀ x∈T,V.one (.dat x)=true)
  (zs:Z prog (.call 346 [.dat (.agg [.lit (.slice none 0 0),.lit (.int .i64 va),.lit (.int .i64 vb),.lit (.int .i64 ve)]),.dat (.agg [.lit (.slice none 0 0),.lit (.int .i64 va),.lit (.int .i64 vb),.lit (.int .i64 ve)])] [])=some (.ret (.bool true) []))
  (z43:Z prog (.call 343 [.ptr 0 0] [.cells [.gsl C N 5 1],.tip m])=some (.ret (.dat (.lit (.int .u64 ro))) [.cells [.gsl C N 5 1],.tip m]))
  (zv:Z prog (.call 354 [.ptr 0 0] [.cells [.gsl C N 5 1],.tip m])=some (.ret (.msl 2 0 nL nL 1) [.cells [.gsl C N 5 1],.tip m,.cells (T.map .dat)]))
  (z58:Z prog (.call 58 [.msl 0 0 nL nL 1,.msl 1 0 nL nL 1] [.cells (T.map .dat),.cells (T.map .dat)])=some (.ret (.bool true) [.cells (T.map .dat),.cells (T.map .dat)])) :
  run (Z prog) 0 F358t [(7,.ptr 0 0),(8,.ptr 1 0),(16,.ptr 5 0),(18,.ptr 6 0)] [.cells [.gsl C N 5 3],.cells [.gsl C N 5 4],.cells (S.map .dat),.tip m,.tip m,.cells [.dat (.lit (.slice none 0 0)),.int va,.int vb,.int ve],.cells [.dat (.lit (.slice none 0 0)),.int va,.int vb,.int ve]]=some (.ret,[(6,.bool true)],[.cells [.gsl C N 5 3],.cells [.gsl C N 5 4],.cells (S.map .dat),.tip m,.tip m,.cells [.dat (.lit (.slice none 0 0)),.int va,.int vb,.int ve],.cells [.dat (.lit (.slice none 0 0)),.int va,.int vb,.int ve],.cells (T.map .dat),.cells (T.map .dat)]):=by
 have lT:=qac T
 have rT:=fun r=>qad r T
 have adT:=qaF T
 have lS:=qac S
 have rS:=fun r=>qad r S
 have adS:=qaF S
 have aT:(T.map V.dat).length=nL:=by simpa using hT
 generalize T.map V.dat=TT at *
 generalize S.map V.dat=SS at *
 simp -implicitDefEqProofs [F358t,hv,zs,z43,zv,z58,lT,rT,adT,lS,rS,adS,aT,hT,hoT,V.len,List.range_succ]
end
end Go.Pm
end SBk
section SBi
namespace Go.Pm
open F
set_option maxHeartbeats 4000000
section
variable {prog:Nat->Option PFun} (hH : ∀ k pf,tH k=some pf->prog k=some pf) (h7 : ∀ k pf,tB k=some pf->prog k=some pf)
include hH h7
theorem qdY (h17:prog 17=some F17) (h19:prog 319=some F319) (h29:prog 329=some F329) (h30:prog 330=some F330) (h341:prog 341=some F341) (h343:prog 343=some F343) (h346:prog 346=some F346) (h347:prog 347=some F347) (h353:prog 353=some F353) (h354:prog 354=some F354) (h356:prog 356=some F356) (h357:prog 357=some F357) (h358:prog 358=some F358) (h58:prog 58=some F58)
  (hv:Z prog (.call 355 [] [])=some (.ret (.bool true) [])) {first tick:Int} (hf:I64 first) (ht:I64 tick) {d:D} {xs:List Int} (h:RowV d xs) (hx : ∀ x∈xs,I64 x) :
  Z prog (.call 358 [.int first,.dat d,.int tick] [])=some (.ret (.bool true) []):=by
 obtain⟨j0,hj0,hje0,-⟩:=qhY h17 h19 hf
 have zb:=qjy h7 h17 h19 h341 h347 hf h hx
 have zA:=qfo h17 (n:=tick) (m:=90) ht (by omega)
 have ej:((around first 60).tmod 6).toNat=j0:=by omega
 have ok:OkB (bkOf first xs):=by unfold bkOf; rw[ej]; exact qlv hj0 hx _
 have p0:0<(bkOf first xs).length:=by unfold bkOf; exact qgi _ _ _
 have p9:(bkOf first xs).length<=9:=by unfold bkOf; exact qi6 _ _ _
 have o:=h.one
 have c:=h.cells
 generalize bkOf first xs=L at *
 generalize around tick 90=t at *
 clear hje0 ej
 obtain⟨k,hk⟩:=qiC ok t
 have hkl:=qiD p0 hk
 have zs:=qjL h346 ok hkl
 have z43:=qjK hH h343 h353 ok p0 (by omega)
 have zv:=qj7 h354 p0 (by omega)
 have z58:=qly h58 (tks L) (by simp[tks]; omega)
 have hlT:(tks L).length=L.length:=by simp[tks]
 have hlC:(intsC (tks L)).length=L.length:=by simp[intsC,tks]
 rw[hlT] at z58
 have hoT : ∀ x∈intsC (tks L),V.one (.dat x)=true:=by simp[intsC]
 obtain⟨r,h1,h2,h3,e⟩:=hk
 obtain⟨tt,j,hj,ev⟩:=ok.1 L[k] (List.getElem_mem hkl)
 refine qaZ h358 rfl ?_
 by_cases hc0:qhB j=[]
 ·have ec:L[k].c = .lit (.slice none 0 0):=by rw[ev]; show qfI (qhB j)=_; rw[hc0]; rfl
  have za:=qj8 h29 h30 h356 (by omega) p0 h1 h2 h3 e hkl (by rw[ec]; exact qhl h357)
  unfold qlM at zs
  rw[ec] at zs za
  clear hH h7 ok ev ec h1 h2 h3
  generalize L[k].a=va at *
  generalize L[k].b=vb at *
  generalize L[k].e=ve at *
  generalize rootI L=ro at *
  generalize intsC (tks L)=T at *
  rcases qdt L with ⟨C,e⟩ | ⟨C,N,m,e⟩<;>rw[e] at zb za z43 zv
  ·obtain⟨T',z1⟩:=qhW (prog:=prog) (C:=C) (n:=L.length) (t:=t) (by omega) L.length 0 T hlC (by omega)
   rw[show ((0:Nat):Int)=0 from rfl] at z1
   have z0:=qk7 (prog:=prog) (C:=C) (nL:=L.length) (t:=t) (a:=va) (b:=vb) (e:=ve) (T:=T)
   have z1:=(qlg (a:=va) (b:=vb) (e:=ve)).trans z1
   have zt:=qme hv (S:=T') hlC hoT zs z43 zv z58
   have lT:=qac T
   have rT:=fun r=>qad r T
   have aT:(T.map V.dat).length=L.length:=by simpa using hlC
   have lT':=qac T'
   have rT':=fun r=>qad r T'
   generalize T.map V.dat=TT at *
   generalize T'.map V.dat=TT' at *
   generalize L.length=nL at *
   simp[F358_t,zb,zA,za,zv,z0,z1,zt,o,c,V.len,lT,rT,lT',rT',aT,List.range_succ]
   done
  ·obtain⟨T',z1⟩:=qhX (prog:=prog) (C:=C) (N:=N) (m:=m) (n:=L.length) (t:=t) (by omega) L.length 0 T hlC (by omega)
   rw[show ((0:Nat):Int)=0 from rfl] at z1
   have z0:=own_h2.trans (qlc (prog:=prog) (C:=C) (N:=N) (m:=m) (nL:=L.length) (t:=t) (a:=va) (b:=vb) (e:=ve) (T:=T))
   have z1:=(qli (a:=va) (b:=vb) (e:=ve)).trans z1
   have zt:=qmf hv (S:=T') hlC hoT zs z43 zv z58
   have lT:=qac T
   have rT:=fun r=>qad r T
   have aT:(T.map V.dat).length=L.length:=by simpa using hlC
   have lT':=qac T'
   have rT':=fun r=>qad r T'
   generalize T.map V.dat=TT at *
   generalize T'.map V.dat=TT' at *
   generalize L.length=nL at *
   simp[F358_t,zb,zA,za,zv,z0,z1,zt,o,c,V.len,lT,rT,lT',rT',aT,List.range_succ]
   done
 ·obtain⟨n,hn,hln⟩:=qfw j hj
  have hn0:0<n:=by
   rcases Nat.eq_zero_or_pos n with h0 | h0
   ·exact absurd (List.length_eq_zero_iff.1 (by omega)) hc0
   ·exact h0
  have ec:L[k].c = .sl (intsC (qhB j)) n false:=by
   rw[ev]
   show qfI (qhB j)=_
   unfold qfI
   split
   ·rename_i h0
    exact absurd h0 hc0
   ·rename_i x l h0
    rw[show (x::l).length / 2=n by rw[<- h0]; omega]
    rw[h0]
  have za:=qmg h29 h30 h356 (by omega) p0 h1 h2 h3 e hkl (by rw[ec]; exact qi0 h357 hn hn0 hln)
  have hone : ∀ x∈intsC (qhB j),V.one (.dat x)=true:=by simp[intsC]
  have hB:(intsC (qhB j)).length=n*2:=by simp[intsC]; omega
  unfold qlM at zs
  rw[ec] at zs
  have hn1:n<=10000:=hln
  clear hH h7 ok ev ec h1 h2 h3 hln
  generalize L[k].a=va at *
  generalize L[k].b=vb at *
  generalize L[k].e=ve at *
  generalize rootI L=ro at *
  generalize intsC (tks L)=T at *
  generalize intsC (qhB j)=B at *
  rcases qdt L with ⟨C,e⟩ | ⟨C,N,m,e⟩<;>rw[e] at zb za z43 zv
  ·obtain⟨B',z0⟩:=qjd (prog:=prog) (C:=C) (n:=n) (nL:=L.length) (t:=t) (a:=va) (b:=vb) (e:=ve) (T:=T) hn1 n 0 B hB (by omega)
   obtain⟨T',z1⟩:=qhW (prog:=prog) (C:=C) (n:=L.length) (t:=t) (by omega) L.length 0 T hlC (by omega)
   rw[show ((0:Nat):Int)=0 from rfl] at z0 z1
   have z0:=own_g1.trans z0
   have z1:=(qlf (q:=n) (a:=va) (b:=vb) (e:=ve) (B:=B')).trans z1
   have zt:=qmc hv (S:=T') hB hone hlC hoT zs z43 zv z58
   have lT:=qac T
   have rT:=fun r=>qad r T
   have lB:=qac B
   have rB:=fun r=>qad r B
   have aT:(T.map V.dat).length=L.length:=by simpa using hlC
   have aB:(B.map V.dat).length=n*2:=by simpa using hB
   have lT':=qac T'
   have rT':=fun r=>qad r T'
   have lB':=qac B'
   have rB':=fun r=>qad r B'
   generalize T.map V.dat=TT at *
   generalize B.map V.dat=BB at *
   generalize T'.map V.dat=TT' at *
   generalize B'.map V.dat=BB' at *
   generalize L.length=nL at *
   simp[F358_t,zb,zA,za,zv,z0,z1,zt,o,c,V.len,lT,rT,lB,rB,lT',rT',lB',rB',aT,aB,List.range_succ]
   done
  ·obtain⟨B',z0⟩:=qje (prog:=prog) (C:=C) (N:=N) (m:=m) (n:=n) (nL:=L.length) (t:=t) (a:=va) (b:=vb) (e:=ve) (T:=T) hn1 n 0 B hB (by omega)
   obtain⟨T',z1⟩:=qhX (prog:=prog) (C:=C) (N:=N) (m:=m) (n:=L.length) (t:=t) (by omega) L.length 0 T hlC (by omega)
   rw[show ((0:Nat):Int)=0 from rfl] at z0 z1
   have z0:=own_g2.trans z0
   have z1:=(qlh (q:=n) (a:=va) (b:=vb) (e:=ve) (B:=B')).trans z1
   have zt:=qmd hv (S:=T') hB hone hlC hoT zs z43 zv z58
   have lT:=qac T
   have rT:=fun r=>qad r T
   have lB:=qac B
   have rB:=fun r=>qad r B
   have aT:(T.map V.dat).length=L.length:=by simpa using hlC
   have aB:(B.map V.dat).length=n*2:=by simpa using hB
   have lT':=qac T'
   have rT':=fun r=>qad r T'
   have lB':=qac B'
   have rB':=fun r=>qad r B'
   generalize T.map V.dat=TT at *
   generalize B.map V.dat=BB at *
   generalize T'.map V.dat=TT' at *
   generalize B'.map V.dat=BB' at *
   generalize L.length=nL at *
   simp[F358_t,zb,zA,za,zv,z0,z1,zt,o,c,V.len,lT,rT,lB,rB,lT',rT',lB',rB',aT,aB,List.range_succ]
   done
end
end Go.Pm
end SBi
section SBl
namespace Go.Pm
open F
theorem qiH : ∀ f pf,tB f=some pf->prog17o f=some pf:=fun f pf h=>by
 unfold tB at h
 split at h<;>first | (cases h; rfl) | cases h
theorem qiI : ∀ f pf,tH f=some pf->prog17o f=some pf:=fun f pf h=>by
 unfold tH at h
 split at h<;>first | (cases h; rfl) | cases h
theorem qhe:Z prog17o (.call 355 [] [])=some (.ret (.bool true) []):=qe7 (n:=3000) (by kernel_rfl)
theorem own17_Z {first tick:Int} (hf:I64 first) {d:D} {xs:List Int} (h:RowV d xs) (hx : ∀ x∈xs,I64 x) (ht:I64 tick):Z prog17o (.call 358 [.int first,.dat d,.int tick] [])=some (.ret (.bool true) []):=
 qdY qiI qiH rfl rfl rfl rfl rfl rfl rfl rfl rfl rfl rfl rfl rfl rfl qhe hf ht h hx
end Go.Pm
end SBl
