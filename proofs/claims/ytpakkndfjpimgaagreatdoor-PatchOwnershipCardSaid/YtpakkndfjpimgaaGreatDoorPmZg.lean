/- Chapters 16 and 17: the hash of a row of words. Chapter 17: the hash of a program. Chapter 17: Root of a book. Chapter 17: Clone of a program's code; Same of a program and itself. Chapter 17's law PatchLimit. Chapter 17: the calls of Add that the laws make. Chapter 17: Add of a source that the laws build, on both sides. Chapter 17: a book after the laws' calls of Add. Chapter 17: the hashes of the laws' versions; ticks increase. Chapter 17: the contracts of the laws' books, joined. Chapter 17: At, Clone and Versions that hand back rows of one's own. -/
import Derived.Test.YtpakkndfjpimgaaGreatDoorPmF7
import Derived.KernelRfl
import Derived.Test.YtpakkndfjpimgaaGreatDoorPmY
set_option linter.unusedSimpArgs false
set_option linter.unusedVariables false
section SZg
namespace Go.Pm
open F
set_option maxHeartbeats 4000000
def qeZ (s w:Int):Int:=
 let m:=IntKind.u64.wrap (qg8 .u64 (· ^^^ ·) s w*11400714819323198485)
 qg8 .u64 (· ^^^ ·) m (m.tdiv 4294967296)
theorem qeD (n:Int):0<=IntKind.u64.wrap n/\IntKind.u64.wrap n<18446744073709551616:=by
 have:IntKind.u64.wrap n=n % 18446744073709551616:=by simp[IntKind.wrap,IntKind.bits,IntKind.signed]
 rw[this]; omega
theorem qlx (m:Int) (h:0<=m/\m<18446744073709551616):qjz .u64 m 32=m.tdiv 4294967296:=by
 rw[Int.tdiv_eq_ediv_of_nonneg h.1 (b:=4294967296)]
 show Int.fdiv _ (2 ^ min (32:Int).toNat IntKind.u64.bits)=_
 rw[Int.fdiv_eq_ediv_of_nonneg _ (by decide)]
 rfl
def qiU (s w:Int):Int:=IntKind.u64.wrap (qg8 .u64 (· ^^^ ·) s w*11400714819323198485)
theorem qhj (s w:Int):0<=qiU s w/\qiU s w<18446744073709551616:=qeD _
theorem qj3 (s w:Int):qeZ s w=qg8 .u64 (· ^^^ ·) (qiU s w) ((qiU s w).tdiv 4294967296):=by
 unfold qeZ qiU
 exact rfl
theorem qie (a b:Int):qfR .xor (.int .u64 a) (.int .u64 b)=some (.int .u64 (qg8 .u64 (· ^^^ ·) a b)):=by simp
theorem qj4 (a b:Int):qfR .mul (.int .u64 (qg8 .u64 (· ^^^ ·) a b)) (.int .u64 11400714819323198485)=some (.int .u64 (qiU a b)):=by simp[qiU]
theorem qj5 (a b:Int):qfR .shr (.int .u64 (qiU a b)) (.int .u64 32)=some (.int .u64 ((qiU a b).tdiv 4294967296)):=by simp[qlx _ (qhj a b)]
def F111K (K Q:Int):PFun:=⟨2,[.tmp 4],
 .seq (.region none [⟨some 4,.mov (.c (.int .u64 0)),none,[]⟩] [0,1])
 (.seq (.region none [⟨some 6,.mov (.t 0),none,[]⟩,
  ⟨some 7,.mov (.t 1),none,[]⟩,
  ⟨some 8,.bin .xor (.t 6) (.t 7),none,[]⟩,
  ⟨some 9,.bin .mul (.t 8) (.c (.int .u64 K)),none,[]⟩,
  ⟨some 5,.mov (.t 9),none,[]⟩] [5])
 (.seq (.region none [⟨some 10,.mov (.t 5),none,[]⟩,
  ⟨some 11,.mov (.t 5),none,[]⟩,
  ⟨some 12,.bin .shr (.t 11) (.c (.int .u64 Q)),none,[]⟩,
  ⟨some 13,.bin .xor (.t 10) (.t 12),none,[]⟩,
  ⟨some 4,.mov (.t 13),none,[]⟩] [4])
 (.ret))),false,false,false⟩
theorem qiV (C:Task->Option Res) {K Q s w x m z y:Int} (h1:qfR .xor (.int .u64 s) (.int .u64 w)=some (.int .u64 x)) (h2:qfR .mul (.int .u64 x) (.int .u64 K)=some (.int .u64 m)) (h3:qfR .shr (.int .u64 m) (.int .u64 Q)=some (.int .u64 z)) (h4:qfR .xor (.int .u64 m) (.int .u64 z)=some (.int .u64 y)) :
  qa7 C (F111K K Q) [.dat (.lit (.int .u64 s)),.dat (.lit (.int .u64 w))] []=some (.ret (.dat (.lit (.int .u64 y))) []):=by
 simp[F111K,-qfR,h1,h2,h3,h4]
theorem F111_K:F111=F111K 11400714819323198485 32:=rfl
theorem qg1 {prog:Nat->Option PFun} (h111:prog 111=some F111) (s w:Int):Z prog (.call 111 [.dat (.lit (.int .u64 s)),.dat (.lit (.int .u64 w))] [])=some (.ret (.dat (.lit (.int .u64 (qeZ s w)))) []):=by
 refine qaZ h111 rfl ?_
 rw[qj3,F111_K]
 exact qiV _ (qie s w) (qj4 s w) (qj5 s w) (qie _ _)
def foldI (B:Int) (ws:List Int):Int:=ws.foldl (fun s w=>qeZ s (IntKind.u64.wrap w)) B
def sumI (B:Int) (ws:List Int):Int:=qeZ (foldI B ws) 0
theorem qhk {B:Int} {ws:List Int} {i:Nat} (h:i<ws.length):qeZ (foldI B (ws.take i)) (IntKind.u64.wrap ws[i])=foldI B (ws.take (i+1)):=by
 unfold foldI
 rw[List.take_succ_eq_append_getElem h,List.foldl_append]
 rfl
section
variable {prog:Nat->Option PFun} (h111:prog 111=some F111)
include h111
theorem qjl {ws:List Int} {B:Int} (hl:ws.length<=100000) : ∀ (k i:Nat),i+k=ws.length -> ∃ fr,Z prog (.loop 0 F109l0 [(5,.dat (.lit (.int .u64 (foldI B (ws.take i))))),(12,.dat (.sl (intsC ws) ws.length false)),(13,.int ws.length),(14,.int i)] []) =
  some (.out (.exit 0) ((5,.dat (.lit (.int .u64 (foldI B ws))))::fr) [])
 | 0,i,h=>by
  obtain rfl:i=ws.length:=by omega
  rw[List.take_length]
  exact⟨_,by rw[qah]; simp[qai,qeT,List.range_succ]; rfl⟩
 | k+1,i,h=>by
  have hi:i<ws.length:=by omega
  obtain⟨fr,e⟩:=qjl hl k (i+1) (by omega)
  refine⟨fr,?_⟩
  rw[<- e]
  have m:=qg1 h111 (foldI B (ws.take i)) (IntKind.u64.wrap ws[i])
  rw[qhk hi] at m
  have hc:qaj (intsC ws) i 1=some [.lit (.int .i64 ws[i])]:=by
   unfold qaj intsC
   rw[<- List.map_drop,List.drop_eq_getElem_cons hi,List.map_cons]
   rfl
  have w1:IntKind.i64.wrap ((i:Int)+1)=((i+1:Nat):Int):=by rw[qav _ (by omega)]; omega
  have hlt:(i:Int)<ws.length:=by omega
  generalize ((i+1:Nat):Int)=i1 at *
  generalize foldI B (ws.take i)=s0 at *
  generalize foldI B (ws.take (i+1))=s1 at *
  generalize ws[i]=w at *
  generalize intsC ws=C at *
  generalize ws.length=n at *
  conv=>lhs; rw[qah]
  simp[qai,qeT,V.len,qaf,hlt,hi,hc,w1,m,List.range_succ]
theorem qjm (h109:prog 109=some F109) {s:ByteArray} {ws:List Int} {B:Int} (hl:ws.length<=100000) (hB:Z prog (.call 110 [.str s,.int ws.length] [])=some (.ret (.dat (.lit (.int .u64 B))) [])) :
  Z prog (.call 109 [.str s,.dat (.sl (intsC ws) ws.length false)] [])=some (.ret (.dat (.lit (.int .u64 (sumI B ws)))) []):=by
 obtain⟨fr,e⟩:=qjl h111 (B:=B) hl ws.length 0 (by omega)
 have m:=qg1 h111 (foldI B ws) 0
 rw[show qeZ (foldI B ws) 0=sumI B ws from rfl] at m
 rw[List.take_zero,show foldI B []=B from rfl,show ((0:Nat):Int)=0 from rfl] at e
 refine qaZ h109 rfl ?_
 generalize foldI B ws=s1 at *
 generalize sumI B ws=s2 at *
 generalize intsC ws=C at *
 generalize ws.length=n at *
 simp[F109,V.len,hB,e,m,List.range_succ]
end
def tH:Nat->Option PFun
 | 109=>some F109
 | 110=>some F110
 | 111=>some F111
 | 112=>some F112
 | 113=>some F113
 | _=>none
def qiW:ByteArray:=⟨#[98,111,111,107]⟩
def qlP:ByteArray:=⟨#[112,114,111,103,114,97,109]⟩
def qev (s:ByteArray) (n W:Int):S:=[.loop { fr:=[(0,.str s),(1,.int n),(5,.ptr 2 0),(8,.fn 113 [] [.ptr 1 0])],ps:=[9],assign:=F110a0,body:=F110b0,st:=0,pend:=none },.cells [.str s],.cells [.dat (.lit (.int .u64 W))]]
theorem qiX (n:Int):Z tH (.call 113 [.yld 0,.ptr 1 0] (qev qiW n 0))=some (.ret (.tup []) (qev qiW n 17196531580303950166)):=qe7 (n:=40) (by kernel_rfl)
theorem qiY (n:Int):Z tH (.call 113 [.yld 0,.ptr 1 0] (qev qlP n 0))=some (.ret (.tup []) (qev qlP n (qeZ 0 30787916450984560))):=qe7 (n:=40) (by kernel_rfl)
section
variable {prog:Nat->Option PFun} (hH : ∀ k pf,tH k=some pf->prog k=some pf)
include hH
theorem qif {s:ByteArray} {n W x y:Int} (hw:Z prog (.call 113 [.yld 0,.ptr 1 0] (qev s n 0))=some (.ret (.tup []) (qev s n W))) {m:Nat} (hm:s.size=m) (hx:qeZ W (IntKind.u64.wrap m)=x) (hy:qeZ x (IntKind.u64.wrap n)=y) :
  Z prog (.call 110 [.str s,.int n] [])=some (.ret (.dat (.lit (.int .u64 y))) []):=by
 have z112:Z prog (.call 112 [.str s] [])=some (.ret (.fn 113 [] [.ptr 0 0]) [.cells [.str s]]):=by
  refine qaZ (hH 112 F112 rfl) rfl ?_
  simp[F112,List.range_succ]
 have m1:=qg1 (hH 111 F111 rfl) W (IntKind.u64.wrap m)
 have m2:=qg1 (hH 111 F111 rfl) x (IntKind.u64.wrap n)
 rw[hx] at m1
 rw[hy] at m2
 unfold qev at hw
 refine qaZ (hH 110 F110 rfl) rfl ?_
 simp[F110,z112,hw,m1,m2,hm,V.len,List.range_succ]
end
end Go.Pm
end SZg
section SZh
namespace Go.Pm
open F
set_option maxHeartbeats 4000000
def hwD (a b e:Int) (l:List Int) (i:Nat):List V:=(intsC ([a,b,e]++l.take (2*i))).map .dat
theorem qjN {a b e:Int} {l:List Int} {i:Nat} (h:2*i<=l.length):(hwD a b e l i).length=3+2*i:=by simp[hwD,intsC]; omega
theorem qjO {a b e:Int} {l:List Int} {i:Nat} (h:2*i+1<l.length):hwD a b e l i++[.int l[2*i],.int l[2*i+1]]=hwD a b e l (i+1):=by
 have e1:l.take (2*(i+1))=l.take (2*i)++[l[2*i],l[2*i+1]]:=by
  rw[show 2*(i+1)=2*i+1+1 by omega,List.take_succ_eq_append_getElem h,List.take_succ_eq_append_getElem (by omega),List.append_assoc]
  rfl
 unfold hwD
 rw[e1]
 simp[intsC]
theorem qgT {l:List Int} {i:Nat} (h:2*i+1<l.length):qaj (intsC l) (i*2) 2=some [.lit (.int .i64 l[2*i]),.lit (.int .i64 l[2*i+1])]:=by
 unfold qaj intsC
 rw[<- List.map_drop,show i*2=2*i by omega,List.drop_eq_getElem_cons (by omega),List.drop_eq_getElem_cons h]
 rfl
theorem qd5 (a b e:Int) (l:List Int) (i:Nat):qam (hwD a b e l i)=[]:=by
 have h : ∀ (l:List V),(∀ v∈l,v.locs=[])->qam l=[]:=by
  intro l
  induction l with
  | nil=>intro _; rfl
  | cons v l ih=>intro h; simp[qam,h v (by simp),ih fun u hu=>h u (by simp[hu])]
 refine h _ fun v hv=>?_
 obtain⟨x,_,rfl⟩:=List.mem_map.1 hv
 rfl
theorem qfq (r:Nat->Nat) (a b e:Int) (l:List Int) (i:Nat):qbD r (hwD a b e l i)=hwD a b e l i:=by
 have h : ∀ (l:List V),(∀ v∈l,v.ren r=v)->qbD r l=l:=by
  intro l
  induction l with
  | nil=>intro _; rfl
  | cons v l ih=>intro h; simp[qbD,h v (by simp),ih fun u hu=>h u (by simp[hu])]
 refine h _ fun v hv=>?_
 obtain⟨x,_,rfl⟩:=List.mem_map.1 hv
 rfl
section
variable {prog:Nat->Option PFun} (hH : ∀ k pf,tH k=some pf->prog k=some pf) (h353:prog 353=some F353)
theorem qll {l:List Int} {n:Nat} {a b e:Int} (hn:l.length=2*n) (hl:n<=10000) : ∀ (k i:Nat),i+k=n -> ∃ fr,Z prog (.loop 0 F353l0 [(3,.own 0 (3+2*i) 1),(17,.dat (.sl (intsC l) n false)),(18,.int n),(19,.int i)] [.vec (hwD a b e l i)]) =
  some (.out (.exit 0) ((3,.own 0 (3+2*n) 1)::fr) [.vec (hwD a b e l n)])
 | 0,i,h=>by
  obtain rfl:i=n:=by omega
  have l1:=qd5 a b e l i
  have r1:=fun r=>qfq r a b e l i
  exact⟨_,by rw[qah]; simp[qai,qdx,V.len,l1,r1,List.range_succ]; rfl⟩
 | k+1,i,h=>by
  have hi:2*i+1<l.length:=by omega
  obtain⟨fr,z⟩:=qll (a:=a) (b:=b) (e:=e) hn hl k (i+1) (by omega)
  refine⟨fr,?_⟩
  rw[<- z]
  have hc:=qgT hi
  have hw:=qjO (a:=a) (b:=b) (e:=e) hi
  have w1:IntKind.i64.wrap ((i:Int)+1)=((i+1:Nat):Int):=by rw[qav _ (by omega)]; omega
  have hlt:(i:Int)<n:=by omega
  have hin:i<n:=by omega
  have hl1:=qjN (a:=a) (b:=b) (e:=e) (l:=l) (i:=i) (by omega)
  have l1:=qd5 a b e l i
  have r1:=fun r=>qfq r a b e l i
  have l2:=qd5 a b e l (i+1)
  have r2:=fun r=>qfq r a b e l (i+1)
  have e3:3+2*(i+1)=3+2*i+2:=by omega
  have rm:qas (3+2*i+2) 8:=by simp[qas]; omega
  rw[e3]
  generalize ((i+1:Nat):Int)=i1 at *
  generalize l[2*i]=x at *
  generalize l[2*i+1]=y at *
  generalize hwD a b e l i=W at *
  generalize hwD a b e l (i+1)=W' at *
  generalize intsC l=C at *
  generalize 3+2*i=m at *
  conv=>lhs; rw[qah]
  simp[qai,qdx,V.len,qaf,hlt,hin,hc,w1,hl1,hw,l1,r1,l2,r2,rm,List.range_succ]
  all_goals exact qau (by simp[gcF,l1,l2,r1,r2,List.range_succ])
include hH h353
theorem qiJ {l:List Int} {n:Nat} {a b e:Int} (hn:l.length=2*n) (hl:n<=10000) {y:Int} (hy:qeZ (qeZ (qeZ 0 30787916450984560) 7) (IntKind.u64.wrap ((3+2*n:Nat):Int))=y) :
  Z prog (.call 353 [.dat (.agg [qfI l,.lit (.int .i64 a),.lit (.int .i64 b),.lit (.int .i64 e)])] [])=some (.ret (.dat (.lit (.int .u64 (sumI y ([a,b,e]++l))))) []):=by
 have hlen:([a,b,e]++l).length=3+2*n:=by simp; omega
 have z:=qjm (hH 111 F111 rfl) (hH 109 F109 rfl) (s:=qlP) (ws:=[a,b,e]++l) (B:=y) (by omega) (qif hH (qip hH (qiY _)) (m:=7) rfl rfl (by rw[hlen]; exact hy))
 rw[hlen] at z
 have hd:=qaF (intsC ([a,b,e]++l))
 have hl1:(intsC ([a,b,e]++l)).length=3+2*n:=by simp[intsC]; omega
 have hone:((intsC ([a,b,e]++l)).all fun d=>V.one (.dat d))=true:=by simp[intsC]
 obtain⟨fr,zl⟩:=qll (prog:=prog) (a:=a) (b:=b) (e:=e) hn hl n 0 (by omega)
 have l1:=qd5 a b e l n
 have r1:=fun r=>qfq r a b e l n
 have hall:hwD a b e l n=(intsC ([a,b,e]++l)).map .dat:=by unfold hwD; rw[List.take_of_length_le (by omega)]
 have h0:hwD a b e l 0=[.int a,.int b,.int e]:=by simp[hwD,intsC]
 have w1:IntKind.i64.wrap (2*(n:Int))=((2*n:Nat):Int):=by rw[qav _ (by omega)]; omega
 have w2:IntKind.i64.wrap (3+((2*n:Nat):Int))=((3+2*n:Nat):Int):=by rw[qav _ (by omega)]; omega
 have c1:((3+2*n:Nat):Int)<=1099511627776:=by omega
 have c2:(8:Int)*((3+2*n:Nat):Int)<=281474976710656:=by omega
 have c3:(0:Int)<=((3+2*n:Nat):Int):=by omega
 rw[h0,show ((0:Nat):Int)=0 from rfl] at zl
 rw[hall] at zl l1 r1
 refine qaZ h353 rfl ?_
 unfold qlP at z
 cases l with
 | nil=>
  obtain rfl:n=0:=by simp at hn; omega
  simp only[qfI,intsC,List.map_nil,List.append_nil,List.map_cons,Nat.mul_zero,Nat.add_zero] at z ⊢
  generalize sumI y [a,b,e]=s1 at *
  have z0:Z prog (.loop 0 F353l0 [(3,.own 0 3 1),(17,.dat (.lit (.slice none 0 0))),(18,.int 0),(19,.int 0)] [.vec [.int a,.int b,.int e]])=some (.out (.exit 0) [(3,.own 0 3 1),(17,.dat (.lit (.slice none 0 0))),(18,.int 0),(19,.int 0),(20,.bool false)] [.vec [.int a,.int b,.int e]]):=by
   rw[qah]
   simp[qdx,qai,List.range_succ]
  have z1:Z prog (.loop 0 F353l0 [(3,.own 1 3 1),(17,.dat (.lit (.slice none 0 0))),(18,.int 0),(19,.int 0)] [.cells [.dat (.lit (.slice none 0 0)),.int a,.int b,.int e],.vec [.int a,.int b,.int e]])=_:=(qau (by simp[gcF,List.range_succ])).trans z0
  simp[F353,V.len,qaf,bound,qav,z,z1,qas,qbG,List.range_succ]
  done
 | cons x l=>
  have hq:(x::l).length / 2=n:=by omega
  simp only[qfI,hq] at zl ⊢
  simp only[Nat.mul_zero,Nat.add_zero] at zl
  generalize sumI y ([a,b,e]++x::l)=s1 at *
  generalize ((3+2*n:Nat):Int)=mI at *
  generalize 3+2*n=m at *
  generalize ((2*n:Nat):Int)=nI at *
  generalize intsC (x::l)=C at *
  generalize intsC ([a,b,e]++x::l)=C' at *
  have z1:Z prog (.loop 0 F353l0 [(3,.own 1 3 1),(17,.dat (.sl C n false)),(18,.int n),(19,.int 0)] [.cells [.dat (.sl C n false),.int a,.int b,.int e],.vec [.int a,.int b,.int e]])=_:=(qau (by simp[gcF,List.range_succ])).trans zl
  simp[F353,V.len,qaf,bound,z1,w1,w2,c1,c2,c3,z,zl,l1,r1,hd,hl1,hone,qas,qbG,List.range_succ]
  done
end
end Go.Pm
end SZh
section SZj
namespace Go.Pm
open F
set_option maxHeartbeats 4000000
def wdB (H:Vr->Int) (L:List Vr):List Int:=L.flatMap fun v=>[v.t,IntKind.i64.wrap (H v)]
theorem qgn (H:Vr->Int) : ∀ L:List Vr,(wdB H L).length=2*L.length
 | []=>rfl
 | v::L=>by
  have:=qgn H L
  simp[wdB] at this ⊢
  omega
def bwD (H:Vr->Int) (L:List Vr) (i:Nat):List V:=(intsC (wdB H (L.take i))).map .dat
theorem qhO {H:Vr->Int} {L:List Vr} {i:Nat} (h:i<=L.length):(bwD H L i).length=2*i:=by
 have:=qgn H (L.take i)
 simp[bwD,intsC]
 simp at this
 omega
theorem qhP {H:Vr->Int} {L:List Vr} {i:Nat} (h:i<L.length):bwD H L i++[.int L[i].t,.int (IntKind.i64.wrap (H L[i]))]=bwD H L (i+1):=by
 unfold bwD wdB
 rw[List.take_succ_eq_append_getElem h,List.flatMap_append]
 simp[intsC]
theorem qcg (H:Vr->Int) (L:List Vr) (i:Nat):qam (bwD H L i)=[]:=by
 have h : ∀ (l:List V),(∀ v∈l,v.locs=[])->qam l=[]:=by
  intro l
  induction l with
  | nil=>intro _; rfl
  | cons v l ih=>intro h; simp[qam,h v (by simp),ih fun u hu=>h u (by simp[hu])]
 refine h _ fun v hv=>?_
 obtain⟨x,_,rfl⟩:=List.mem_map.1 hv
 rfl
theorem qc2 (H:Vr->Int) (r:Nat->Nat) (L:List Vr) (i:Nat):qbD r (bwD H L i)=bwD H L i:=by
 have h : ∀ (l:List V),(∀ v∈l,v.ren r=v)->qbD r l=l:=by
  intro l
  induction l with
  | nil=>intro _; rfl
  | cons v l ih=>intro h; simp[qbD,h v (by simp),ih fun u hu=>h u (by simp[hu])]
 refine h _ fun v hv=>?_
 obtain⟨x,_,rfl⟩:=List.mem_map.1 hv
 rfl
section
variable {prog:Nat->Option PFun}
def qfk (prog:Nat->Option PFun) (H:Vr->Int) (v:Vr):Prop:=Z prog (.call 353 [.dat (.agg [v.c,.lit (.int .i64 v.a),.lit (.int .i64 v.b),.lit (.int .i64 v.e)])] [])=some (.ret (.dat (.lit (.int .u64 (H v)))) [])
theorem qjE {H:Vr->Int} {L:List Vr} {i:Nat} (h:i<L.length) (hl:L.length<=1000) (hh:qfk prog H L[i]) (g:Bool) :
  Z prog (.loop 1 F343l0 [(3,.own 1 (2*i) 1),(16,.dat (.sl (vrC L) L.length g)),(17,.int L.length),(18,.int i)] [.cells [.dat (.sl (vrC L) L.length g)],.vec (bwD H L i)]) =
  Z prog (.loop 1 F343l0 [(3,.own 1 (2*(i+1)) 1),(16,.dat (.sl (vrC L) L.length g)),(17,.int L.length),(18,.int (i+1:Nat))] [.cells [.dat (.sl (vrC L) L.length g)],.vec (bwD H L (i+1))]):=by
 have hc:=qfl h
 have o:=L[i].one
 have c:=L[i].cl
 unfold qfk at hh
 have hs:=qhP (H:=H) h
 have hw:=qhO (H:=H) (L:=L) (i:=i) (by omega)
 have w1:IntKind.i64.wrap ((i:Int)+1)=((i+1:Nat):Int):=by rw[qav _ (by omega)]; omega
 have hlt:(i:Int)<L.length:=by omega
 have e3:2*(i+1)=2*i+2:=by omega
 have rm:qas (2*i+2) 8:=by simp[qas]; omega
 have l1:=qcg H L i
 have l2:=qcg H L (i+1)
 have r1:=fun r=>qc2 H r L i
 have r2:=fun r=>qc2 H r L (i+1)
 rw[e3]
 generalize ((i+1:Nat):Int)=i1 at *
 generalize H L[i]=hv at *
 obtain⟨u,hu⟩ : ∃ u,IntKind.i64.wrap hv=u:=⟨_,rfl⟩
 rw[hu] at hs
 generalize L[i]=v at *
 generalize vrC L=C at *
 generalize bwD H L i=W at *
 generalize bwD H L (i+1)=W' at *
 generalize L.length=n at *
 generalize 2*i=m at *
 conv=>lhs; rw[qah]
 simp[qai,qcJ,V.len,qaf,hlt,h,hc,hh,hu,o,c,hw,hs,w1,rm,l1,l2,r1,r2,List.range_succ]
 all_goals exact qau (by simp[gcF,l1,l2,r1,r2,List.range_succ])
theorem qjF {H:Vr->Int} {L:List Vr} {i:Nat} (h:i<L.length) (hl:L.length<=1000) (hh:qfk prog H L[i]) (m0:Nat) :
  Z prog (.loop 2 F343l0 [(3,.own 2 (2*i) 1),(16,.gsl (vrC L) L.length 5 1),(17,.int L.length),(18,.int i)] [.cells [.gsl (vrC L) L.length 5 1],.tip m0,.vec (bwD H L i)]) =
  Z prog (.loop 2 F343l0 [(3,.own 2 (2*(i+1)) 1),(16,.gsl (vrC L) L.length 5 1),(17,.int L.length),(18,.int (i+1:Nat))] [.cells [.gsl (vrC L) L.length 5 1],.tip m0,.vec (bwD H L (i+1))]):=by
 have hc:=qfl h
 have o:=L[i].one
 have c:=L[i].cl
 unfold qfk at hh
 have hs:=qhP (H:=H) h
 have hw:=qhO (H:=H) (L:=L) (i:=i) (by omega)
 have w1:IntKind.i64.wrap ((i:Int)+1)=((i+1:Nat):Int):=by rw[qav _ (by omega)]; omega
 have hlt:(i:Int)<L.length:=by omega
 have e3:2*(i+1)=2*i+2:=by omega
 have rm:qas (2*i+2) 8:=by simp[qas]; omega
 have l1:=qcg H L i
 have l2:=qcg H L (i+1)
 have r1:=fun r=>qc2 H r L i
 have r2:=fun r=>qc2 H r L (i+1)
 rw[e3]
 generalize ((i+1:Nat):Int)=i1 at *
 generalize H L[i]=hv at *
 obtain⟨u,hu⟩ : ∃ u,IntKind.i64.wrap hv=u:=⟨_,rfl⟩
 rw[hu] at hs
 generalize L[i]=v at *
 generalize vrC L=C at *
 generalize bwD H L i=W at *
 generalize bwD H L (i+1)=W' at *
 generalize L.length=n at *
 generalize 2*i=m at *
 conv=>lhs; rw[qah]
 simp[qai,qcJ,V.len,qaf,hlt,h,hc,hh,hu,o,c,hw,hs,w1,rm,l1,l2,r1,r2,List.range_succ]
 all_goals exact qau (by simp[gcF,l1,l2,r1,r2,List.range_succ])
theorem qhQ {H:Vr->Int} {L:List Vr} (hl:L.length<=1000) (hh : ∀ i (h:i<L.length),qfk prog H L[i]) (g:Bool) : ∀ (k i:Nat),i+k=L.length->Z prog (.loop 1 F343l0 [(3,.own 1 (2*i) 1),(16,.dat (.sl (vrC L) L.length g)),(17,.int L.length),(18,.int i)] [.cells [.dat (.sl (vrC L) L.length g)],.vec (bwD H L i)]) =
  some (.out (.exit 0) [(3,.own 1 (2*L.length) 1),(16,.dat (.sl (vrC L) L.length g)),(17,.int L.length),(18,.int L.length),(19,.bool false)] [.cells [.dat (.sl (vrC L) L.length g)],.vec (bwD H L L.length)])
 | 0,i,h=>by
  obtain rfl:i=L.length:=by omega
  have l1:=qcg H L L.length
  have r1:=fun r=>qc2 H r L L.length
  rw[qah]
  simp[qai,qcJ,l1,r1,List.range_succ]
 | k+1,i,h=>by
  rw[qjE (by omega) hl (hh i (by omega))]
  exact qhQ hl hh g k (i+1) (by omega)
theorem qhR {H:Vr->Int} {L:List Vr} (hl:L.length<=1000) (hh : ∀ i (h:i<L.length),qfk prog H L[i]) (m0:Nat) : ∀ (k i:Nat),i+k=L.length->Z prog (.loop 2 F343l0 [(3,.own 2 (2*i) 1),(16,.gsl (vrC L) L.length 5 1),(17,.int L.length),(18,.int i)] [.cells [.gsl (vrC L) L.length 5 1],.tip m0,.vec (bwD H L i)]) =
  some (.out (.exit 0) [(3,.own 2 (2*L.length) 1),(16,.gsl (vrC L) L.length 5 1),(17,.int L.length),(18,.int L.length),(19,.bool false)] [.cells [.gsl (vrC L) L.length 5 1],.tip m0,.vec (bwD H L L.length)])
 | 0,i,h=>by
  obtain rfl:i=L.length:=by omega
  have l1:=qcg H L L.length
  have r1:=fun r=>qc2 H r L L.length
  rw[qah]
  simp[qai,qcJ,l1,r1,List.range_succ]
 | k+1,i,h=>by
  rw[qjF (by omega) hl (hh i (by omega))]
  exact qhR hl hh m0 k (i+1) (by omega)
theorem qkV (hH : ∀ k pf,tH k=some pf->prog k=some pf) (h343:prog 343=some F343) {H:Vr->Int} {L:List Vr} (h0:0<L.length) (hl:L.length<=1000) (hh : ∀ i (h:i<L.length),qfk prog H L[i]) {y:Int} (hy:qeZ (qeZ 17196531580303950166 4) (IntKind.u64.wrap ((2*L.length:Nat):Int))=y) :
  Z prog (.call 343 [.ptr 0 0] (qaT L))=some (.ret (.dat (.lit (.int .u64 (sumI y (wdB H L))))) (qaT L)):=by
 have hlen:=qgn H L
 have z:=qjm (hH 111 F111 rfl) (hH 109 F109 rfl) (s:=qiW) (ws:=wdB H L) (B:=y) (by omega) (qif hH (qip hH (qiX _)) (m:=4) rfl rfl (by rw[hlen]; exact hy))
 rw[hlen] at z
 unfold qiW at z
 have hd:=qaF (intsC (wdB H L))
 have hl1:(intsC (wdB H L)).length=2*L.length:=by simp[intsC,hlen]
 have hone:((intsC (wdB H L)).all fun d=>V.one (.dat d))=true:=by simp[intsC]
 have hall:bwD H L L.length=(intsC (wdB H L)).map .dat:=by unfold bwD; rw[List.take_length]
 have hz:bwD H L 0=[]:=rfl
 have l1:=qcg H L L.length
 have r1:=fun r=>qc2 H r L L.length
 have w1:IntKind.i64.wrap (2*(L.length:Int))=((2*L.length:Nat):Int):=by rw[qav _ (by omega)]; omega
 have c1:((2*L.length:Nat):Int)<=1099511627776:=by omega
 have c2:(8:Int)*((2*L.length:Nat):Int)<=281474976710656:=by omega
 have c3:(0:Int)<=((2*L.length:Nat):Int):=by omega
 rw[hall] at l1 r1
 refine qaZ h343 rfl ?_
 by_cases h1:L.length=1
 ·have e:qaT L=[.cells [.dat (.sl (vrC L) 1 true)]]:=if_pos h1
  have zl:=qhQ hl hh true L.length 0 (by omega)
  rw[hz,hall,show ((0:Nat):Int)=0 from rfl] at zl
  rw[e]
  simp only[h1,Nat.mul_one,Nat.mul_zero,show ((1:Nat):Int)=1 from rfl,show ((2:Nat):Int)=2 from rfl] at z zl hl1
  generalize sumI y (wdB H L)=s1 at *
  generalize intsC (wdB H L)=C' at *
  generalize vrC L=C at *
  simp[F343,V.len,qaf,qav,z,zl,l1,r1,hd,hl1,hone,qas,qbG,List.range_succ]
  done
 ·have zl:=qhR hl hh (vrC L).length L.length 0 (by omega)
  rw[hz,hall,show ((0:Nat):Int)=0 from rfl,Nat.mul_zero] at zl
  rw[qc7 (by omega)]
  clear hh
  generalize sumI y (wdB H L)=s1 at *
  generalize intsC (wdB H L)=C' at *
  generalize vrC L=C at *
  generalize ((2*L.length:Nat):Int)=mI at *
  generalize 2*L.length=m at *
  generalize L.length=n at *
  simp[F343,V.len,qaf,w1,c1,c2,c3,z,zl,l1,r1,hd,hl1,hone,qas,qbG,List.range_succ]
  done
end
end Go.Pm
end SZj
section SZk
namespace Go.Pm
open F
set_option maxHeartbeats 4000000
section
variable {prog:Nat->Option PFun}
theorem qi2 {l:List Int} {n:Nat} {a b e:Int} (hn:l.length=2*n) (hl:n<=10000) : ∀ (k i:Nat),i+k=n->Z prog (.loop 0 F346l0 [(2,.ptr 0 0),(3,.ptr 1 0),(5,.int i)] [.cells [.dat (.sl (intsC l) n false),.int a,.int b,.int e],.cells [.dat (.sl (intsC l) n false),.int a,.int b,.int e]]) =
  some (.out (.exit 0) [(2,.ptr 0 0),(3,.ptr 1 0),(5,.int n),(24,.bool false)] [.cells [.dat (.sl (intsC l) n false),.int a,.int b,.int e],.cells [.dat (.sl (intsC l) n false),.int a,.int b,.int e]])
 | 0,i,h=>by
  obtain rfl:i=n:=by omega
  rw[qah]
  simp[qai,qdw,V.len,List.range_succ]
 | k+1,i,h=>by
  rw[<- qi2 hn hl k (i+1) (by omega)]
  have hc:=qgT (l:=l) (i:=i) (by omega)
  have w1:IntKind.i64.wrap ((i:Int)+1)=((i+1:Nat):Int):=by rw[qav _ (by omega)]; omega
  have hlt:(i:Int)<n:=by omega
  have hin:i<n:=by omega
  have hi:2*i+1<l.length:=by omega
  generalize ((i+1:Nat):Int)=i1 at *
  generalize l[2*i]=x at *
  generalize l[2*i+1]=y at *
  generalize intsC l=C at *
  conv=>lhs; rw[qah]
  simp[qai,qdw,V.len,qaf,hlt,hin,hc,w1,List.range_succ]
  done
theorem qkq (h346:prog 346=some F346) {l:List Int} {n:Nat} {a b e:Int} (hn:l.length=2*n) (hl:n<=10000) :
  Z prog (.call 346 [.dat (.agg [qfI l,.lit (.int .i64 a),.lit (.int .i64 b),.lit (.int .i64 e)]),.dat (.agg [qfI l,.lit (.int .i64 a),.lit (.int .i64 b),.lit (.int .i64 e)])] [])=some (.ret (.bool true) []):=by
 refine qaZ h346 rfl ?_
 cases l with
 | nil=>
  have z0:Z prog (.loop 0 F346l0 [(2,.ptr 0 0),(3,.ptr 1 0),(5,.int 0)] [.cells [.dat (.lit (.slice none 0 0)),.int a,.int b,.int e],.cells [.dat (.lit (.slice none 0 0)),.int a,.int b,.int e]])=some (.out (.exit 0) [(2,.ptr 0 0),(3,.ptr 1 0),(5,.int 0),(24,.bool false)] [.cells [.dat (.lit (.slice none 0 0)),.int a,.int b,.int e],.cells [.dat (.lit (.slice none 0 0)),.int a,.int b,.int e]]):=by
   rw[qah]
   simp[qdw,qai,V.len,List.range_succ]
  simp[F346,qfI,V.len,z0,List.range_succ]
  done
 | cons x l=>
  have hq:(x::l).length / 2=n:=by omega
  have zl:=qi2 (prog:=prog) (a:=a) (b:=b) (e:=e) hn hl n 0 (by omega)
  rw[show ((0:Nat):Int)=0 from rfl] at zl
  simp only[qfI,hq]
  generalize intsC (x::l)=C at *
  simp[F346,V.len,zl,List.range_succ]
  done
end
end Go.Pm
end SZk
section SZd
namespace Go.Pm
open F
set_option maxHeartbeats 4000000
theorem qfo {prog:Nat->Option PFun} (h17:prog 17=some F17) {n m:Int} (h1:I64 n) (hm:1<=m):Z prog (.call 17 [.int n,.int m] [])=some (.ret (.int (around n m)) []):=by
 refine qaZ h17 rfl ?_
 unfold around
 have hm0 : ¬ m=0:=by omega
 by_cases h:n<0
 ·have w1:IntKind.i64.wrap (n+1)=n+1:=qav _ (by unfold I64 at h1; omega)
  have w2:IntKind.i64.wrap (-(n+1)) = -(n+1):=qav _ (by unfold I64 at h1; omega)
  simp[F17,h,hm0,w1,w2]
 ·simp[F17,h,hm0]
theorem qhY {prog:Nat->Option PFun} (h17:prog 17=some F17) (h19:prog 319=some F319) {n:Int} (h1:I64 n) : ∃ j:Nat,j<6/\(j:Int)=(around n 60).tmod 6/\Z prog (.call 319 [.int n] [])=some (.ret (.str (srcB j)) []):=by
 have z:=qfo h17 h1 (m:=60) (by omega)
 have r:=qfZ h1 (m:=60) (by omega)
 generalize around n 60=a at *
 have q1:=Int.tmod_nonneg 6 r.1
 have q2:=Int.tmod_lt_of_pos a (show (0:Int)<6 by omega)
 refine⟨(a.tmod 6).toNat,by omega,by omega,?_⟩
 generalize hj:a.tmod 6=j at *
 obtain rfl | rfl | rfl | rfl | rfl | rfl:j=0\/j=1\/j=2\/j=3\/j=4\/j=5:=by omega
 all_goals
  refine qaZ h19 rfl ?_
  simp[F319,z,hj,qaf,srcB,List.range_succ]
theorem qhZ (l:List Int):V.one (.dat (qfI l))=true:=by cases l<;>rfl
theorem qjf (l:List Int):V.cells (.dat (qfI l))=[.dat (qfI l)]:=by cases l<;>rfl
def vrB (t:Int) (j:Nat):Vr:=⟨t,qfI (qhB j),(qkc j).1,(qkc j).2.1,(qkc j).2.2,qhZ _,qjf _⟩
theorem qlj {prog:Nat->Option PFun} (h7 : ∀ k pf,tB k=some pf->prog k=some pf) (t:Int) {j:Nat} (hj:j<6):qko prog (srcB j) (vrB t j):=by
 have z:=qip h7 (qgI j (by omega))
 have e:qga j=0:=by
  obtain rfl | rfl | rfl | rfl | rfl | rfl:j=0\/j=1\/j=2\/j=3\/j=4\/j=5:=by omega
  all_goals rfl
 rw[e] at z
 exact z
section
variable {prog:Nat->Option PFun} (h7 : ∀ k pf,tB k=some pf->prog k=some pf) (h17:prog 17=some F17) (h19:prog 319=some F319)
include h7 h17 h19
omit h7 in
end
end Go.Pm
end SZd
section SZn
namespace Go.Pm
open F
set_option maxHeartbeats 4000000
def stN (xs:List Int) (i:Nat):Int:=around (xs.getD i 0) 1000000
def stG (n:Int):Nat:=if (n.tdiv 54).tmod 7=0 then 6+((n.tdiv 378).tmod 4).toNat else ((around (n.tdiv 9) 60).tmod 6).toNat
def stT (xs:List Int):Nat->Int
 | 0=>0
 | i+1=>stT xs i+(stN xs i).tmod 9-1
def stC (xs:List Int):Nat->List D
 | 0=>[]
 | i+1=>stC xs i++[.lit (.int .i64 (stT xs (i+1))),.lit (.string (srcB (stG (stN xs i))))]
theorem qfs (xs:List Int) : ∀ i,(stC xs i).length=i*2
 | 0=>rfl
 | i+1=>by simp[stC,qfs xs i]; omega
theorem qes {xs:List Int} (hx : ∀ x∈xs,I64 x) (i:Nat):0<=stN xs i/\stN xs i<1000000:=by
 refine qfZ ?_ (by omega)
 by_cases h:i<xs.length
 ·rw[List.getD_eq_getElem?_getD,List.getElem?_eq_getElem h]; exact hx _ (List.getElem_mem h)
 ·rw[List.getD_eq_getElem?_getD,List.getElem?_eq_none (by omega)]; unfold I64; simp
theorem qh5 {xs:List Int} (hx : ∀ x∈xs,I64 x) : ∀ i:Nat,-(i:Int)<=stT xs i/\stT xs i<=7*i
 | 0=>⟨by simp[stT],by simp[stT]⟩
 | i+1=>by
  have h:=qh5 hx i
  have r:=qes hx i
  have a:=Int.tmod_nonneg 9 r.1
  have b:=Int.tmod_lt_of_pos (stN xs i) (show (0:Int)<9 by omega)
  simp only[stT]
  omega
section
variable {prog:Nat->Option PFun} (h17:prog 17=some F17) (h19:prog 319=some F319)
include h17 h19
theorem qh6 {n:Int} (h1:I64 n):Z prog (.call 319 [.int n] [])=some (.ret (.str (srcB ((around n 60).tmod 6).toNat)) []):=by
 obtain⟨j,_,e,z⟩:=qhY h17 h19 h1
 rw[<- e]
 exact z
theorem qjP {xs:List Int} {i:Nat} (hx : ∀ x∈xs,I64 x) (hi:i<xs.length) (h12:i<12) (h0:0<i) :
  Z prog (.loop 0 F341l0 [(0,.dat (.sl (intsC xs) xs.length false)),(3,.gsl (stC xs i) i 2 0),(4,.int (stT xs i)),(5,.int i)] [.tip (i*2)]) =
  Z prog (.loop 0 F341l0 [(0,.dat (.sl (intsC xs) xs.length false)),(3,.gsl (stC xs (i+1)) (i+1) 2 0),(4,.int (stT xs (i+1))),(5,.int (i+1:Nat))] [.tip ((i+1)*2)]):=by
 have hc:qaj (intsC xs) i 1=some [.lit (.int .i64 xs[i])]:=by
  unfold qaj intsC
  rw[<- List.map_drop,List.drop_eq_getElem_cons hi,List.map_cons]
  rfl
 have hN:around xs[i] 1000000=stN xs i:=by unfold stN; rw[List.getD_eq_getElem?_getD,List.getElem?_eq_getElem hi]; rfl
 have zA:=qfo h17 (n:=xs[i]) (m:=1000000) (hx _ (List.getElem_mem hi)) (by omega)
 rw[hN] at zA
 have rN:=qes hx i
 have rT:=qh5 hx i
 have lC:=qfs xs i
 have q0:=Int.tmod_nonneg 9 rN.1
 have q1:=Int.tmod_lt_of_pos (stN xs i) (show (0:Int)<9 by omega)
 have w1:IntKind.i64.wrap ((i:Int)+1)=((i+1:Nat):Int):=by rw[qav _ (by omega)]; omega
 have w2:IntKind.i64.wrap (stT xs i+(stN xs i).tmod 9)=stT xs i+(stN xs i).tmod 9:=qav _ (by omega)
 have w3:IntKind.i64.wrap (stT xs i+(stN xs i).tmod 9-1)=stT xs (i+1):=qav _ (by omega)
 have hlt:(i:Int)<xs.length:=by omega
 have h12':(i:Int)<12:=by omega
 have rm:qas (i+1) 24:=by simp[qas]; omega
 have dv : ∀ k:Int,0<k->0<=(stN xs i).tdiv k/\(stN xs i).tdiv k<=stN xs i:=fun k hk=>⟨Int.tdiv_nonneg rN.1 (by omega),Int.tdiv_le_self _ rN.1⟩
 have d9:=dv 9 (by omega)
 have d54:=dv 54 (by omega)
 have d378:=dv 378 (by omega)
 have v9:IntKind.i64.wrap ((stN xs i).tdiv 9)=(stN xs i).tdiv 9:=qav _ (by omega)
 have v54:IntKind.i64.wrap ((stN xs i).tdiv 54)=(stN xs i).tdiv 54:=qav _ (by omega)
 have v378:IntKind.i64.wrap ((stN xs i).tdiv 378)=(stN xs i).tdiv 378:=qav _ (by omega)
 have zS:=qh6 h17 h19 (n:=(stN xs i).tdiv 9) (by unfold I64; omega)
 have e':stC xs (i+1)=stC xs i++[.lit (.int .i64 (stT xs (i+1))),.lit (.string (srcB (stG (stN xs i))))]:=rfl
 have e3:(i+1)*2=i*2+2:=by omega
 rw[e',e3]
 have q4:=Int.tmod_nonneg 4 d378.1
 have q5:=Int.tmod_lt_of_pos ((stN xs i).tdiv 378) (show (0:Int)<4 by omega)
 unfold stG
 generalize ((i+1:Nat):Int)=i1 at *
 generalize stT xs (i+1)=t1 at *
 generalize hs:srcB ((around ((stN xs i).tdiv 9) 60).tmod 6).toNat=sh at *
 generalize stN xs i=n at *
 generalize stT xs i=t0 at *
 generalize stC xs i=W at *
 clear hx hN e'
 generalize xs[i]=x at *
 generalize intsC xs=C at *
 generalize xs.length=m at *
 conv=>lhs; rw[qah]
 by_cases h7:(n.tdiv 54).tmod 7=0
 ·rw[if_pos h7]
  generalize hj:(n.tdiv 378).tmod 4=j at *
  obtain rfl | rfl | rfl | rfl:j=0\/j=1\/j=2\/j=3:=by omega
  all_goals simp[qai,qbg,V.len,qaf,qbW,qiv,hlt,h12',hi,hc,zA,zS,w1,w2,w3,v9,v54,v378,h7,hj,lC,rm,srcB,List.range_succ]
 ·rw[if_neg h7]
  simp[qai,qbg,V.len,qaf,qbW,qiv,hlt,h12',hi,hc,zA,zS,w1,w2,w3,v9,v54,v378,h7,lC,rm,hs,List.range_succ]
theorem qjQ {xs:List Int} (hx : ∀ x∈xs,I64 x) (hi:0<xs.length) :
  Z prog (.loop 0 F341l0 [(0,.dat (.sl (intsC xs) xs.length false)),(3,.dat (.lit (.slice none 0 0))),(4,.int 0),(5,.int 0)] []) =
  Z prog (.loop 0 F341l0 [(0,.dat (.sl (intsC xs) xs.length false)),(3,.gsl (stC xs 1) 1 2 0),(4,.int (stT xs 1)),(5,.int 1)] [.tip 2]):=by
 have hc:qaj (intsC xs) 0 1=some [.lit (.int .i64 xs[0])]:=by
  unfold qaj intsC
  rw[<- List.map_drop,List.drop_eq_getElem_cons hi,List.map_cons]
  rfl
 have hN:around xs[0] 1000000=stN xs 0:=by unfold stN; rw[List.getD_eq_getElem?_getD,List.getElem?_eq_getElem hi]; rfl
 have zA:=qfo h17 (n:=xs[0]) (m:=1000000) (hx _ (List.getElem_mem hi)) (by omega)
 rw[hN] at zA
 have rN:=qes hx 0
 have q0:=Int.tmod_nonneg 9 rN.1
 have q1:=Int.tmod_lt_of_pos (stN xs 0) (show (0:Int)<9 by omega)
 have w2:IntKind.i64.wrap ((stN xs 0).tmod 9)=(stN xs 0).tmod 9:=qav _ (by omega)
 have w3:IntKind.i64.wrap ((stN xs 0).tmod 9-1)=stT xs 1:=by rw[qav _ (by omega)]; simp[stT]
 have hlt:(0:Int)<xs.length:=by omega
 have dv : ∀ k:Int,0<k->0<=(stN xs 0).tdiv k/\(stN xs 0).tdiv k<=stN xs 0:=fun k hk=>⟨Int.tdiv_nonneg rN.1 (by omega),Int.tdiv_le_self _ rN.1⟩
 have d9:=dv 9 (by omega)
 have d54:=dv 54 (by omega)
 have d378:=dv 378 (by omega)
 have v9:IntKind.i64.wrap ((stN xs 0).tdiv 9)=(stN xs 0).tdiv 9:=qav _ (by omega)
 have v54:IntKind.i64.wrap ((stN xs 0).tdiv 54)=(stN xs 0).tdiv 54:=qav _ (by omega)
 have v378:IntKind.i64.wrap ((stN xs 0).tdiv 378)=(stN xs 0).tdiv 378:=qav _ (by omega)
 have zS:=qh6 h17 h19 (n:=(stN xs 0).tdiv 9) (by unfold I64; omega)
 have e':stC xs 1=[.lit (.int .i64 (stT xs 1)),.lit (.string (srcB (stG (stN xs 0))))]:=rfl
 rw[e']
 have q4:=Int.tmod_nonneg 4 d378.1
 have q5:=Int.tmod_lt_of_pos ((stN xs 0).tdiv 378) (show (0:Int)<4 by omega)
 unfold stG
 generalize stT xs 1=t1 at *
 generalize hs:srcB ((around ((stN xs 0).tdiv 9) 60).tmod 6).toNat=sh at *
 generalize stN xs 0=n at *
 clear hx hN e'
 generalize xs[0]=x at *
 generalize intsC xs=C at *
 generalize xs.length=m at *
 conv=>lhs; rw[qah]
 by_cases h7:(n.tdiv 54).tmod 7=0
 ·rw[if_pos h7]
  generalize hj:(n.tdiv 378).tmod 4=j at *
  obtain rfl | rfl | rfl | rfl:j=0\/j=1\/j=2\/j=3:=by omega
  all_goals simp[qai,qbg,V.len,qaf,qbW,qiv,hlt,hi,hc,zA,zS,qav,qas,w2,w3,v9,v54,v378,h7,hj,srcB,List.range_succ]
 ·rw[if_neg h7]
  simp[qai,qbg,V.len,qaf,qbW,qiv,hlt,hi,hc,zA,zS,qav,qas,w2,w3,v9,v54,v378,h7,hs,List.range_succ]
omit h17 h19 in
theorem qjR {xs:List Int} {i:Nat} (h : ¬ (i<xs.length/\i<12)):Z prog (.loop 0 F341l0 [(0,.dat (.sl (intsC xs) xs.length false)),(3,.gsl (stC xs i) i 2 0),(4,.int (stT xs i)),(5,.int i)] [.tip (i*2)]) =
  some (.out (.exit 0) [(0,.dat (.sl (intsC xs) xs.length false)),(3,.gsl (stC xs i) i 2 0),(4,.int (stT xs i)),(5,.int i),(15,.bool false)] [.tip (i*2)]):=by
 rw[qah]
 by_cases h1:(i:Int)<xs.length
 ·have h2 : ¬ (i:Int)<12:=by omega
  simp[qai,qbg,V.len,h1,h2,List.range_succ]
 ·simp[qai,qbg,V.len,h1,List.range_succ]
theorem qh7 {xs:List Int} (hx : ∀ x∈xs,I64 x) : ∀ (k i:Nat),i+k=min xs.length 12->0<i ->
  Z prog (.loop 0 F341l0 [(0,.dat (.sl (intsC xs) xs.length false)),(3,.gsl (stC xs i) i 2 0),(4,.int (stT xs i)),(5,.int i)] [.tip (i*2)]) =
  some (.out (.exit 0) [(0,.dat (.sl (intsC xs) xs.length false)),(3,.gsl (stC xs (min xs.length 12)) (min xs.length 12) 2 0),(4,.int (stT xs (min xs.length 12))),(5,.int (min xs.length 12:Nat)),(15,.bool false)] [.tip (min xs.length 12*2)])
 | 0,i,h,h0=>by
  rw[<- h]
  exact qjR (by omega)
 | k+1,i,h,h0=>by
  rw[qjP h17 h19 hx (by omega) (by omega) h0]
  exact qh7 hx k (i+1) (by omega) (by omega)
def stD (xs:List Int):D:=match min xs.length 12 with
 | 0 => .lit (.slice none 0 0)
 | k+1 => .sl (stC xs (k+1)) (k+1) false
theorem qjS (h341:prog 341=some F341) {d:D} {xs:List Int} (h:RowV d xs) (hx : ∀ x∈xs,I64 x):Z prog (.call 341 [.dat d] [])=some (.ret (.dat (stD xs)) []):=by
 refine qaZ h341 rfl ?_
 by_cases h0:xs.length=0
 ·have e:stD xs = .lit (.slice none 0 0):=by unfold stD; simp[h0]
  rw[e]
  rcases h with ⟨o,rfl,rfl⟩ | rfl
  ·have z0:Z prog (.loop 0 F341l0 [(0,.dat (.lit (.slice o 0 0))),(3,.dat (.lit (.slice none 0 0))),(4,.int 0),(5,.int 0)] [])=some (.out (.exit 0) [(0,.dat (.lit (.slice o 0 0))),(3,.dat (.lit (.slice none 0 0))),(4,.int 0),(5,.int 0),(15,.bool false)] []):=by
    rw[qah]
    simp[qai,qbg,V.len,List.range_succ]
   simp[F341,z0,List.range_succ]
   done
  ·obtain rfl:xs=[]:=List.length_eq_zero_iff.1 h0
   have z0:Z prog (.loop 0 F341l0 [(0,.dat (.sl [] 0 false)),(3,.dat (.lit (.slice none 0 0))),(4,.int 0),(5,.int 0)] [])=some (.out (.exit 0) [(0,.dat (.sl [] 0 false)),(3,.dat (.lit (.slice none 0 0))),(4,.int 0),(5,.int 0),(15,.bool false)] []):=by
    rw[qah]
    simp[qai,qbg,V.len,List.range_succ]
   simp[F341,intsC,z0,List.range_succ]
   done
 ·rcases h with ⟨o,rfl,rfl⟩ | rfl
  ·simp at h0
  have zl:=(qjQ h17 h19 hx (by omega)).trans (qh7 h17 h19 hx (min xs.length 12-1) 1 (by omega) (by omega))
  obtain⟨k,hk⟩ : ∃ k,min xs.length 12=k+1:=⟨min xs.length 12-1,by omega⟩
  have e:stD xs = .sl (stC xs (k+1)) (k+1) false:=by unfold stD; rw[hk]
  have lC:=qfs xs (k+1)
  rw[hk] at zl
  rw[e]
  generalize stC xs (k+1)=W at *
  generalize stT xs (k+1)=t at *
  generalize ((k+1:Nat):Int)=kI at *
  generalize k+1=k1 at *
  generalize intsC xs=C at *
  generalize xs.length=m at *
  simp[F341,zl,lC,List.range_succ]
  done
end
end Go.Pm
end SZn
section SZo
namespace Go.Pm
open F
set_option maxHeartbeats 4000000
def qin (L:List Vr) (t:Int) (j:Nat):List Vr:=if 8<L.length then L else if t<=lastT L then L else if qga j=0 then L++[vrB t j] else L
def addE (L:List Vr) (t:Int) (j:Nat):Int:=if 8<L.length then 2 else if t<=lastT L then 5 else qga j
theorem qiT {L:List Vr} {t:Int} {j:Nat} (h:0<L.length):0<(qin L t j).length:=by
 unfold qin
 split
 ·exact h
 ·split
  ·exact h
  ·split
   ·simp
   ·exact h
theorem qj1 {L:List Vr} {t:Int} {j:Nat} (h:L.length<=9):(qin L t j).length<=9:=by
 unfold qin
 split
 ·exact h
 ·split
  ·exact h
  ·split
   ·simp; omega
   ·exact h
theorem qjk : ∀ j,j<10->qga j=0->j<6
 | 0,_,_ | 1,_,_ | 2,_,_ | 3,_,_ | 4,_,_ | 5,_,_=>by omega
 | 6,_,h | 7,_,h | 8,_,h | 9,_,h=>absurd h (by decide)
 | n+10,h,_=>by omega
section
variable {prog:Nat->Option PFun} (h7 : ∀ k pf,tB k=some pf->prog k=some pf)
include h7
theorem qlw {L:List Vr} (h0:0<L.length) (t:Int) {j:Nat} (hj:j<10):Z prog (.call 318 [.ptr 0 0,.int t,.str (srcB j)] (qaT L))=some (.ret (.int (addE L t j)) (qaT (qin L t j))):=by
 unfold qin addE
 by_cases h8:8<L.length
 ·rw[if_pos h8,if_pos h8]
  exact qhv h7 h8 t _
 ·rw[if_neg h8,if_neg h8]
  by_cases ht:t<=lastT L
  ·rw[if_pos ht,if_pos ht]
   exact qhw h7 h0 (by omega) ht _
  ·rw[if_neg ht,if_neg ht]
   by_cases he:qga j=0
   ·rw[if_pos he,he]
    have:=qkp h7 h0 (by omega) (v:=vrB t j) (by show lastT L<t; omega) (qlj h7 t (qjk j hj he))
    exact this
   ·rw[if_neg he]
    exact qjp h7 h0 (by omega) (by omega) he ⟨_,_,_,_,rfl,qhZ _,qjf _,rfl,rfl,rfl,rfl,rfl,rfl⟩ (qip h7 (qgI j hj))
end
end Go.Pm
end SZo
section SZp
namespace Go.Pm
open F
set_option maxHeartbeats 4000000
def bkL (j0:Nat) (xs:List Int):Nat->List Vr
 | 0=>[vrB 0 j0]
 | i+1=>qin (bkL j0 xs i) (stT xs (i+1)) (stG (stN xs i))
theorem qgi (j0:Nat) (xs:List Int) : ∀ i,0<(bkL j0 xs i).length
 | 0=>by simp[bkL]
 | i+1=>qiT (qgi j0 xs i)
theorem qi6 (j0:Nat) (xs:List Int) : ∀ i,(bkL j0 xs i).length<=9
 | 0=>by simp[bkL]
 | i+1=>qj1 (qi6 j0 xs i)
theorem qi7 {n:Int} (h:0<=n/\n<1000000):stG n<10:=by
 unfold stG
 have a:=Int.tmod_lt_of_pos (n.tdiv 378) (show (0:Int)<4 by omega)
 have b:=Int.tmod_lt_of_pos (around (n.tdiv 9) 60) (show (0:Int)<6 by omega)
 split<;>omega
theorem qhF (xs:List Int) : ∀ k i,i<k->qaj (stC xs k) (i*2) 1=some [.lit (.int .i64 (stT xs (i+1)))]/\qaj (stC xs k) (i*2+1) 1=some [.lit (.string (srcB (stG (stN xs i))))]
 | 0,i,h=>by omega
 | k+1,i,h=>by
  have l:=qfs xs k
  by_cases hik:i<k
  ·obtain⟨h1,h2⟩:=qhF xs k i hik
   have e : ∀ o n:Nat,o+n<=(stC xs k).length->qaj (stC xs (k+1)) o n=qaj (stC xs k) o n:=by
    intro o n ho
    have he:((stC xs (k+1)).drop o).take n=((stC xs k).drop o).take n:=by
     show ((stC xs k++_).drop o).take n=_
     rw[List.drop_append_of_le_length (by omega),List.take_append_of_le_length (by rw[List.length_drop]; omega)]
    unfold qaj
    rw[he]
   exact⟨(e _ _ (by omega)).trans h1,(e _ _ (by omega)).trans h2⟩
  ·obtain rfl:i=k:=by omega
   have hd:(stC xs (i+1)).drop (i*2)=[.lit (.int .i64 (stT xs (i+1))),.lit (.string (srcB (stG (stN xs i))))]:=by
    show (stC xs i++_).drop (i*2)=_
    rw[<- l,List.drop_left]
   have hd1:(stC xs (i+1)).drop (i*2+1)=[.lit (.string (srcB (stG (stN xs i))))]:=by
    rw[<- List.drop_drop,hd]
    rfl
   unfold qaj
   rw[hd,hd1]
   exact⟨rfl,rfl⟩
section
variable {prog:Nat->Option PFun} (h7 : ∀ k pf,tB k=some pf->prog k=some pf)
include h7
theorem qjx {j0:Nat} {xs:List Int} (hx : ∀ x∈xs,I64 x) {n i:Nat} (hi:i<n) (hn:n<=12) :
  Z prog (.loop 0 F347l0 [(5,.ptr 0 0),(7,.dat (.sl (stC xs n) n false)),(8,.int i)] (qaT (bkL j0 xs i))) =
  Z prog (.loop 0 F347l0 [(5,.ptr 0 0),(7,.dat (.sl (stC xs n) n false)),(8,.int (i+1:Nat))] (qaT (bkL j0 xs (i+1)))):=by
 obtain⟨h1,h2⟩:=qhF xs n i hi
 have za:=qlw h7 (qgi j0 xs i) (stT xs (i+1)) (qi7 (qes hx i))
 have w1:IntKind.i64.wrap ((i:Int)+1)=((i+1:Nat):Int):=by rw[qav _ (by omega)]; omega
 have hlt:(i:Int)<n:=by omega
 rw[show qin (bkL j0 xs i) (stT xs (i+1)) (stG (stN xs i))=bkL j0 xs (i+1) from rfl] at za
 generalize addE (bkL j0 xs i) (stT xs (i+1)) (stG (stN xs i))=e at *
 generalize srcB (stG (stN xs i))=s at *
 generalize stT xs (i+1)=t at *
 generalize stC xs n=C at *
 generalize bkL j0 xs i=L at *
 generalize bkL j0 xs (i+1)=L' at *
 generalize ((i+1:Nat):Int)=i1 at *
 conv=>lhs; rw[qah]
 rcases qdt L with ⟨C0,e0⟩ | ⟨C0,n0,m0,e0⟩<;>rcases qdt L' with ⟨C',e'⟩ | ⟨C',n',m',e'⟩<;>rw[e0,e'] at za<;>rw[e0,e']
 all_goals simp[qai,qdH,V.len,qaf,hlt,hi,h1,h2,w1,za,List.range_succ]
 all_goals exact qau (by simp[gcF,List.range_succ])
theorem qhG {j0:Nat} {xs:List Int} (hx : ∀ x∈xs,I64 x) {n:Nat} (hn:n<=12) : ∀ (k i:Nat),i+k=n ->
  Z prog (.loop 0 F347l0 [(5,.ptr 0 0),(7,.dat (.sl (stC xs n) n false)),(8,.int i)] (qaT (bkL j0 xs i))) =
  some (.out (.exit 0) [(5,.ptr 0 0),(7,.dat (.sl (stC xs n) n false)),(8,.int n),(26,.bool false)] (qaT (bkL j0 xs n)))
 | 0,i,h=>by
  obtain rfl:i=n:=by omega
  rw[qah]
  rcases qdt (bkL j0 xs i) with ⟨C,e⟩ | ⟨C,n,m,e⟩<;>rw[e]<;>simp[qai,qdH,V.len,List.range_succ]
 | k+1,i,h=>by
  rw[qjx h7 hx (by omega) hn]
  exact qhG hx hn k (i+1) (by omega)
def bkOf (first:Int) (xs:List Int):List Vr:=bkL ((around first 60).tmod 6).toNat xs (min xs.length 12)
theorem qjy (h17:prog 17=some F17) (h19:prog 319=some F319) (h341:prog 341=some F341) (h347:prog 347=some F347) {first:Int} (hf:I64 first) {d:D} {xs:List Int} (h:RowV d xs) (hx : ∀ x∈xs,I64 x) :
  Z prog (.call 347 [.int first,.dat d] [])=some (.ret (.ptr 0 0) (qaT (bkOf first xs))):=by
 obtain⟨j,hj,hje,zs⟩:=qhY h17 h19 hf
 have zt:=qjS h17 h19 h341 h hx
 have zn:=qlS h7 (qlj h7 0 hj) rfl
 have ej:((around first 60).tmod 6).toNat=j:=by omega
 unfold bkOf
 rw[ej]
 rw[qgB] at zn
 have o:=h.one
 have c:=h.cells
 refine qaZ h347 rfl ?_
 generalize srcB j=s at *
 by_cases h0:min xs.length 12=0
 ·rw[h0]
  have e:stD xs = .lit (.slice none 0 0):=by unfold stD; rw[h0]
  rw[e] at zt
  rw[show bkL j xs 0=[vrB 0 j] from rfl,qgB]
  generalize vrC [vrB 0 j]=C at *
  have z0:Z prog (.loop 0 F347l0 [(5,.ptr 0 0),(7,.dat (.lit (.slice none 0 0))),(8,.int 0)] [.cells [.dat (.sl C 1 true)]])=some (.out (.exit 0) [(5,.ptr 0 0),(7,.dat (.lit (.slice none 0 0))),(8,.int 0),(26,.bool false)] [.cells [.dat (.sl C 1 true)]]):=by
   rw[qah]
   simp[qai,qdH,V.len,List.range_succ]
  simp[F347,zs,zn,zt,z0,List.range_succ]
  done
 ·obtain⟨k,hk⟩ : ∃ k,min xs.length 12=k+1:=⟨min xs.length 12-1,by omega⟩
  have e:stD xs = .sl (stC xs (k+1)) (k+1) false:=by unfold stD; rw[hk]
  have zl:=qhG h7 (j0:=j) hx (n:=k+1) (by omega) (k+1) 0 (by omega)
  rw[e] at zt
  rw[hk]
  rw[show bkL j xs 0=[vrB 0 j] from rfl,qgB,show ((0:Nat):Int)=0 from rfl] at zl
  generalize vrC [vrB 0 j]=C at *
  generalize stC xs (k+1)=W at *
  generalize bkL j xs (k+1)=L' at *
  rcases qdt L' with ⟨C',e'⟩ | ⟨C',n',m',e'⟩<;>rw[e'] at zl ⊢ <;> simp[F347,zs,zn,zt,zl,List.range_succ]
  done
end
end Go.Pm
end SZp
section SZq
namespace Go.Pm
open F
set_option maxHeartbeats 4000000
def qmr:D->Int
 | .lit (.int _ n)=>n
 | _=>0
def qls:D->List Int
 | .sl C _ _=>C.map qmr
 | _=>[]
theorem qlt (l:List Int):qls (qfI l)=l:=by
 cases l with
 | nil=>rfl
 | cons x l=>simp[qfI,qls,intsC,qmr,Function.comp_def]
def hB (v:Vr):Int:=sumI (qeZ (qeZ (qeZ 0 30787916450984560) 7) (IntKind.u64.wrap ((3+(qls v.c).length:Nat):Int))) ([v.a,v.b,v.e]++qls v.c)
theorem qfw : ∀ j,j<6 -> ∃ n,(qhB j).length=2*n/\n<=10000
 | 0,_=>⟨0,rfl,by omega⟩
 | 1,_=>⟨3,rfl,by omega⟩
 | 2,_=>⟨4,rfl,by omega⟩
 | 3,_=>⟨11,rfl,by omega⟩
 | 4,_=>⟨12,rfl,by omega⟩
 | 5,_=>⟨4,rfl,by omega⟩
 | j+6,h=>by omega
theorem qiS {prog:Nat->Option PFun} (hH : ∀ k pf,tH k=some pf->prog k=some pf) (h353:prog 353=some F353) (t:Int) {j:Nat} (hj:j<6):qfk prog hB (vrB t j):=by
 obtain⟨n,hn,hl⟩:=qfw j hj
 unfold qfk hB
 have e:qls (vrB t j).c=qhB j:=qlt _
 rw[e]
 exact qiJ hH h353 hn hl (by rw[hn])
def OkB (L:List Vr):Prop:=(∀ v∈L,∃ t j,j<6/\v=vrB t j)/\L.Pairwise (fun a b=>a.t<b.t)
theorem qeu : ∀ {L:List Vr},L.Pairwise (fun a b=>a.t<b.t) -> ∀ v∈L,v.t<=lastT L
 | [],_,v,h=>by simp at h
 | [a],_,v,h=>by simp at h; subst h; simp[lastT]
 | a::b::L,hp,v,h=>by
  have e:lastT (a::b::L)=lastT (b::L):=rfl
  rw[e]
  obtain⟨h1,h2⟩:=List.pairwise_cons.1 hp
  rcases List.mem_cons.1 h with rfl | h
  ·have:=h1 b (by simp)
   have:=qeu h2 b (by simp)
   omega
  ·exact qeu h2 v h
theorem qlu {L:List Vr} (h:OkB L) (t:Int) {j:Nat} (hj:j<10):OkB (qin L t j):=by
 unfold qin
 split
 ·exact h
 ·split
  ·exact h
  ·rename_i ht
   split
   ·rename_i he
    refine⟨fun v hv=>?_,List.pairwise_append.2 ⟨h.2,by simp,fun a ha b hb=>?_⟩⟩
    ·rcases List.mem_append.1 hv with hv | hv
     ·exact h.1 v hv
     ·simp at hv
      exact⟨t,j,qjk j hj he,hv⟩
    ·simp at hb
     subst hb
     have:=qeu h.2 a ha
     show a.t<t
     omega
   ·exact h
theorem qlv {j0:Nat} (h0:j0<6) {xs:List Int} (hx : ∀ x∈xs,I64 x) : ∀ i,OkB (bkL j0 xs i)
 | 0=>⟨fun v hv=>by simp[bkL] at hv; exact⟨0,j0,h0,hv⟩,by simp[bkL]⟩
 | i+1=>qlu (qlv h0 hx i) _ (qi7 (qes hx i))
theorem qid (tick:Int) : ∀ {L:List Vr},L.Pairwise (fun a b=>a.t<b.t) -> ∃ r,r<=L.length/\(∀ m (h:m<L.length),m<r->L[m].t<=tick)/\(∀ m (h:m<L.length),r<=m->tick<L[m].t)
 | [],_=>⟨0,by simp,fun m h=>by simp at h,fun m h=>by simp at h⟩
 | a::L,hp=>by
  obtain⟨h1,h2⟩:=List.pairwise_cons.1 hp
  by_cases ha:a.t<=tick
  ·obtain⟨r,k1,k2,k3⟩:=qid tick h2
   refine⟨r+1,by simp; omega,fun m h hm=>?_,fun m h hm=>?_⟩
   ·cases m with
    | zero=>exact ha
    | succ m=>exact k2 m (by simpa using h) (by omega)
   ·cases m with
    | zero=>omega
    | succ m=>exact k3 m (by simpa using h) (by omega)
  ·refine⟨0,by omega,fun m h hm=>by omega,fun m h hm=>?_⟩
   cases m with
   | zero=>show tick<a.t; omega
   | succ m=>
    have hm':m<L.length:=by simpa using h
    have:=h1 L[m] (List.getElem_mem hm')
    show tick<L[m].t
    omega
end Go.Pm
end SZq
section SZr
namespace Go.Pm
open F
set_option maxHeartbeats 4000000
def yB (L:List Vr):Int:=qeZ (qeZ 17196531580303950166 4) (IntKind.u64.wrap ((2*L.length:Nat):Int))
def rootI (L:List Vr):Int:=sumI (yB L) (wdB hB L)
section
variable {prog:Nat->Option PFun} (hH : ∀ k pf,tH k=some pf->prog k=some pf)
include hH
theorem qjK (h343:prog 343=some F343) (h353:prog 353=some F353) {L:List Vr} (h:OkB L) (h0:0<L.length) (hl:L.length<=1000):Z prog (.call 343 [.ptr 0 0] (qaT L))=some (.ret (.dat (.lit (.int .u64 (rootI L)))) (qaT L)):=
 qkV hH h343 h0 hl (fun i hi=>by obtain⟨t,j,hj,e⟩:=h.1 L[i] (List.getElem_mem hi); rw[e]; exact qiS hH h353 t hj) rfl
end
def qlM (v:Vr):V := .dat (.agg [v.c,.lit (.int .i64 v.a),.lit (.int .i64 v.b),.lit (.int .i64 v.e)])
def ForceAt (L:List Vr) (tick:Int) (k:Nat):Prop := ∃ r,r<=L.length/\(∀ m (h:m<L.length),m<r->L[m].t<=tick)/\(∀ m (h:m<L.length),r<=m->tick<L[m].t)/\k=r-1
theorem qiC {L:List Vr} (h:OkB L) (tick:Int) : ∃ k,ForceAt L tick k:=by
 obtain⟨r,h1,h2,h3⟩:=qid tick h.2
 exact⟨r-1,r,h1,h2,h3,rfl⟩
theorem qiD {L:List Vr} {tick:Int} {k:Nat} (h0:0<L.length) (h:ForceAt L tick k):k<L.length:=by
 obtain⟨r,h1,_,_,e⟩:=h
 omega
section
variable {prog:Nat->Option PFun}
theorem qjL (h346:prog 346=some F346) {L:List Vr} (h:OkB L) {k:Nat} (hkl:k<L.length):Z prog (.call 346 [qlM L[k],qlM L[k]] [])=some (.ret (.bool true) []):=by
 obtain⟨t,j,hj,ev⟩:=h.1 L[k] (List.getElem_mem hkl)
 obtain⟨n,hn,hln⟩:=qfw j hj
 rw[ev]
 exact qkq h346 hn hln
end
end Go.Pm
end SZr
section SBg
namespace Go.Pm
open F
set_option maxHeartbeats 4000000
theorem qac : ∀ B:List D,qam (B.map .dat)=[]
 | []=>rfl
 | d::B=>by simp[qam,qac B]
theorem qad (r:Nat->Nat) : ∀ B:List D,qbD r (B.map .dat)=B.map .dat
 | []=>rfl
 | d::B=>by simp[qbD,qad r B]
theorem F354_l0:F354l0=F320l0:=rfl
section
variable {prog:Nat->Option PFun}
theorem qj7 (h354:prog 354=some F354) {L:List Vr} (h0:0<L.length) (hl:L.length<=1000):Z prog (.call 354 [.ptr 0 0] (qaT L))=some (.ret (.msl (qaT L).length 0 L.length L.length 1) (qaT L++[.cells ((intsC (tks L)).map .dat)])):=by
 have hz:tkW L 0=List.replicate L.length (V.int 0):=by simp[tkW]
 have hrep:=qjc L.length
 have hall:=qjG L
 have hlen:(intsC (tks L)).length=L.length:=by simp[intsC,tks]
 have c1:(L.length:Int)<=1099511627776:=by omega
 have c2:(8:Int)*L.length<=281474976710656:=by omega
 refine qaZ h354 rfl ?_
 by_cases h1:L.length=1
 ·have e:qaT L=[.cells [.dat (.sl (vrC L) 1 true)]]:=if_pos h1
  have z:=qja (prog:=prog) hl true L.length 0 (by omega)
  rw[hall] at z
  rw[e]
  rw[hz,h1] at z
  rw[h1] at hrep hlen
  rw[<- F354_l0] at z
  generalize vrC L=C at *
  generalize intsC (tks L)=T at *
  simp only[Int.cast_ofNat_Int,List.replicate_one] at z hrep
  simp[F354,V.len,h1,hrep,z,hlen,qac,qad,List.range_succ]
  done
 ·have z:=qjb (prog:=prog) hl (vrC L).length L.length 0 (by omega)
  rw[hall] at z
  rw[qc7 (by omega)]
  rw[hz] at z
  rw[<- F354_l0] at z
  generalize vrC L=C at *
  generalize intsC (tks L)=T at *
  generalize L.length=n at *
  simp only[Int.cast_ofNat_Int] at z
  simp[F354,V.len,hrep,z,hlen,c1,c2,qac,qad,List.range_succ]
  done
theorem qhl (h357:prog 357=some F357):Z prog (.call 357 [.dat (.lit (.slice none 0 0))] [])=some (.ret (.dat (.lit (.slice none 0 0))) []):=by
 refine qaZ h357 rfl ?_
 simp[F357,V.len,List.range_succ]
theorem qi0 (h357:prog 357=some F357) {l:List Int} {n:Nat} (hn:l.length=2*n) (h0:0<n) (hl:n<=10000):Z prog (.call 357 [.dat (.sl (intsC l) n false)] [])=some (.ret (.own 0 n 2) [.vec ((intsC l).map .dat)]):=by
 refine qaZ h357 rfl ?_
 have hl1:(intsC l).length=n*2:=by simp[intsC] at hn ⊢; omega
 have hn0:n≠0:=by omega
 have rm:qas n 16:=by simp[qas]; omega
 have hone : ∀ x∈intsC l,V.one (.dat x)=true:=by simp[intsC]
 generalize intsC l=C at *
 simp[F357,V.len,appendO,qi8,rm,hn0,hl1,if_pos hone,qac,qad,List.range_succ]
end
section
variable {prog:Nat->Option PFun} (h29:prog 329=some F329) (h30:prog 330=some F330) (h356:prog 356=some F356)
include h29 h30 h356
theorem qj8 {L:List Vr} {tick:Int} {r k:Nat} (hl:L.length<=1000) (h0:0<L.length) (hr:r<=L.length) (hlo : ∀ m (h:m<L.length),m<r->L[m].t<=tick) (hhi : ∀ m (h:m<L.length),r<=m->tick<L[m].t)
  (hk:k=r-1) (hkl:k<L.length) (zc:Z prog (.call 357 [.dat L[k].c] [])=some (.ret (.dat L[k].c) [])) :
  Z prog (.call 356 [.ptr 0 0,.int tick] (qaT L))=some (.ret (.tup [.int k,.dat (.agg [L[k].c,.lit (.int .i64 L[k].a),.lit (.int .i64 L[k].b),.lit (.int .i64 L[k].e)])]) (qaT L)):=by
 have z:=qgH h29 h30 (tick:=tick) hl hr hlo hhi
 have hc:=qgG hkl
 have o:=L[k].one
 have c:=L[k].cl
 have w1:IntKind.i64.wrap ((r:Int)-1)=(r:Int)-1:=qav _ (by omega)
 have hmax:(if (r:Int)-1<0 then (0:Int) else (r:Int)-1)=(k:Int):=by split<;>omega
 have hlt:(k:Int)<L.length:=by omega
 refine qaZ h356 rfl ?_
 unfold atS at z
 by_cases h1:L.length=1
 ·have e:qaT L=[.cells [.dat (.sl (vrC L) 1 true)]]:=if_pos h1
  have e':atB L=[.cells [.dat (.sl (vrC L) 1 true)]]:=if_pos h1
  rw[e'] at z
  rw[e]
  obtain rfl:k=0:=by omega
  rw[h1] at z
  clear hlo hhi
  generalize L[0]=v at *
  generalize vrC L=C at *
  rw[show ((1:Nat):Int)=1 from rfl] at z
  rw[show ((0:Nat):Int)=0 from rfl] at hmax
  simp at hc
  simp[F356,V.len,qaf,qim,qgN,z,zc,hc,o,c,w1,hmax,List.range_succ]
  done
 ·rw[qlT (by omega)] at z
  rw[qc7 (by omega)]
  clear hlo hhi
  generalize L[k]=v at *
  generalize vrC L=C at *
  generalize L.length=n at *
  simp[F356,V.len,qaf,qim,qgN,z,zc,hc,o,c,w1,hmax,hlt,hkl,List.range_succ]
  done
theorem qmg {L:List Vr} {tick:Int} {r k:Nat} (hl:L.length<=1000) (h0:0<L.length) (hr:r<=L.length) (hlo : ∀ m (h:m<L.length),m<r->L[m].t<=tick) (hhi : ∀ m (h:m<L.length),r<=m->tick<L[m].t)
  (hk:k=r-1) (hkl:k<L.length) {n:Nat} {B:List D} (zc:Z prog (.call 357 [.dat L[k].c] [])=some (.ret (.own 0 n 2) [.vec (B.map .dat)])) :
  Z prog (.call 356 [.ptr 0 0,.int tick] (qaT L))=some (.ret (.tup [.int k,.agg [.own (qaT L).length n 2,.int L[k].a,.int L[k].b,.int L[k].e]]) (qaT L++[.vec (B.map .dat)])):=by
 have z:=qgH h29 h30 (tick:=tick) hl hr hlo hhi
 have hc:=qgG hkl
 have o:=L[k].one
 have c:=L[k].cl
 have w1:IntKind.i64.wrap ((r:Int)-1)=(r:Int)-1:=qav _ (by omega)
 have hmax:(if (r:Int)-1<0 then (0:Int) else (r:Int)-1)=(k:Int):=by split<;>omega
 have hlt:(k:Int)<L.length:=by omega
 refine qaZ h356 rfl ?_
 unfold atS at z
 by_cases h1:L.length=1
 ·have e:qaT L=[.cells [.dat (.sl (vrC L) 1 true)]]:=if_pos h1
  have e':atB L=[.cells [.dat (.sl (vrC L) 1 true)]]:=if_pos h1
  rw[e'] at z
  rw[e]
  obtain rfl:k=0:=by omega
  rw[h1] at z
  clear hlo hhi
  generalize L[0]=v at *
  generalize vrC L=C at *
  rw[show ((1:Nat):Int)=1 from rfl] at z
  rw[show ((0:Nat):Int)=0 from rfl] at hmax
  simp at hc
  simp[F356,V.len,qaf,qim,qgN,z,zc,hc,o,c,w1,hmax,qac,qad,List.range_succ]
  done
 ·rw[qlT (by omega)] at z
  rw[qc7 (by omega)]
  clear hlo hhi
  generalize L[k]=v at *
  generalize vrC L=C at *
  generalize L.length=nL at *
  simp[F356,V.len,qaf,qim,qgN,z,zc,hc,o,c,w1,hmax,hlt,hkl,qac,qad,List.range_succ]
  done
end
end Go.Pm
end SBg
