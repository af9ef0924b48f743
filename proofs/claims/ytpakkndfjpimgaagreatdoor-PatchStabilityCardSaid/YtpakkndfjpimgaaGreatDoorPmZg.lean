/- Chapters 16 and 17: the hash of a row of words. Chapter 17: the hash of a program. Chapter 17: Root of a book. Chapter 17: Clone of a program's code; Same of a program and itself. Chapter 17's laws over the whole table. Chapter 17's law PatchLimit. Chapter 17: the calls of Add that the laws make. Chapter 17: Add of a source that the laws build, on both sides. Chapter 17: a book after the laws' calls of Add. Chapter 17: the hashes of the laws' versions; ticks increase. Chapter 17: the contracts of the laws' books, joined. Chapter 17: SameInts of a row and itself. Chapter 17: Add of a source with a brace too many. -/
import Derived.Test.YtpakkndfjpimgaaGreatDoorPmF7
import Derived.KernelRfl
import Derived.Test.YtpakkndfjpimgaaGreatDoorPmY
set_option linter.unusedSimpArgs false
set_option linter.unusedVariables false
section SZg
namespace Go.Pm
open F
set_option maxHeartbeats 4000000
def qeW (s w:Int):Int:=
 let m:=IntKind.u64.wrap (qhb .u64 (· ^^^ ·) s w*11400714819323198485)
 qhb .u64 (· ^^^ ·) m (m.tdiv 4294967296)
theorem qeA (n:Int):0<=IntKind.u64.wrap n/\IntKind.u64.wrap n<18446744073709551616:=by
 have:IntKind.u64.wrap n=n % 18446744073709551616:=by simp[IntKind.wrap,IntKind.bits,IntKind.signed]
 rw[this]; omega
theorem qlp (m:Int) (h:0<=m/\m<18446744073709551616):qjC .u64 m 32=m.tdiv 4294967296:=by
 rw[Int.tdiv_eq_ediv_of_nonneg h.1 (b:=4294967296)]
 show Int.fdiv _ (2 ^ min (32:Int).toNat IntKind.u64.bits)=_
 rw[Int.fdiv_eq_ediv_of_nonneg _ (by decide)]
 rfl
def qiS (s w:Int):Int:=IntKind.u64.wrap (qhb .u64 (· ^^^ ·) s w*11400714819323198485)
theorem qhm (s w:Int):0<=qiS s w/\qiS s w<18446744073709551616:=qeA _
theorem qj7 (s w:Int):qeW s w=qhb .u64 (· ^^^ ·) (qiS s w) ((qiS s w).tdiv 4294967296):=by
 unfold qeW qiS
 exact rfl
theorem qig (a b:Int):qfT .xor (.int .u64 a) (.int .u64 b)=some (.int .u64 (qhb .u64 (· ^^^ ·) a b)):=by simp
theorem qj8 (a b:Int):qfT .mul (.int .u64 (qhb .u64 (· ^^^ ·) a b)) (.int .u64 11400714819323198485)=some (.int .u64 (qiS a b)):=by simp[qiS]
theorem qj9 (a b:Int):qfT .shr (.int .u64 (qiS a b)) (.int .u64 32)=some (.int .u64 ((qiS a b).tdiv 4294967296)):=by simp[qlp _ (qhm a b)]
def F111K (K Q:Int):PFun:=⟨2,[.tmp 4],
 .seq (.region none [⟨some 4,.mov (.c (.int .u64 0)),none,[]⟩] [0,1])
 (.seq (.region none [⟨some 6,.mov (.t 0),none,[]⟩,
  ⟨some 7,.mov (.t 1),none,[]⟩,
  ⟨some 8,.bin .xor (.t 6) (.t 7),none,[]⟩,
  ⟨some 9,.bin .mul (.t 8) (.c (.int .u64 K)),none,[]⟩,
  ⟨some 5,.mov (.t 9),none,[]⟩] [5])
 (.seq (.region none [⟨some 10,.mov (.t 5),none,[]⟩,
  ⟨some 11,.mov (.t 5),none,[]⟩,
  ⟨some 12,.bin .shr (.t 11) (.c (.int .u64 Q)),none,[]⟩,
  ⟨some 13,.bin .xor (.t 10) (.t 12),none,[]⟩,
  ⟨some 4,.mov (.t 13),none,[]⟩] [4])
 (.ret))),false,false,false⟩
theorem qiT (C:Task->Option Res) {K Q s w x m z y:Int} (h1:qfT .xor (.int .u64 s) (.int .u64 w)=some (.int .u64 x)) (h2:qfT .mul (.int .u64 x) (.int .u64 K)=some (.int .u64 m)) (h3:qfT .shr (.int .u64 m) (.int .u64 Q)=some (.int .u64 z)) (h4:qfT .xor (.int .u64 m) (.int .u64 z)=some (.int .u64 y)) :
  qa3 C (F111K K Q) [.dat (.lit (.int .u64 s)),.dat (.lit (.int .u64 w))] []=some (.ret (.dat (.lit (.int .u64 y))) []):=by
 simp[F111K,-qfT,h1,h2,h3,h4]
theorem F111_K:F111=F111K 11400714819323198485 32:=rfl
theorem qg4 {prog:Nat->Option PFun} (h111:prog 111=some F111) (s w:Int):Z prog (.call 111 [.dat (.lit (.int .u64 s)),.dat (.lit (.int .u64 w))] [])=some (.ret (.dat (.lit (.int .u64 (qeW s w)))) []):=by
 refine qaX h111 rfl ?_
 rw[qj7,F111_K]
 exact qiT _ (qig s w) (qj8 s w) (qj9 s w) (qig _ _)
def foldI (B:Int) (ws:List Int):Int:=ws.foldl (fun s w=>qeW s (IntKind.u64.wrap w)) B
def sumI (B:Int) (ws:List Int):Int:=qeW (foldI B ws) 0
theorem qhn {B:Int} {ws:List Int} {i:Nat} (h:i<ws.length):qeW (foldI B (ws.take i)) (IntKind.u64.wrap ws[i])=foldI B (ws.take (i+1)):=by
 unfold foldI
 rw[List.take_succ_eq_append_getElem h,List.foldl_append]
 rfl
section
variable {prog:Nat->Option PFun} (h111:prog 111=some F111)
include h111
theorem qjm {ws:List Int} {B:Int} (hl:ws.length<=100000) : ∀ (k i:Nat),i+k=ws.length -> ∃ fr,Z prog (.loop 0 F109l0 [(5,.dat (.lit (.int .u64 (foldI B (ws.take i))))),(12,.dat (.sl (intsC ws) ws.length false)),(13,.int ws.length),(14,.int i)] []) =
  some (.out (.exit 0) ((5,.dat (.lit (.int .u64 (foldI B ws))))::fr) [])
 | 0,i,h=>by
  obtain rfl:i=ws.length:=by omega
  rw[List.take_length]
  exact⟨_,by rw[qag]; simp[qah,qeQ,List.range_succ]; rfl⟩
 | k+1,i,h=>by
  have hi:i<ws.length:=by omega
  obtain⟨fr,e⟩:=qjm hl k (i+1) (by omega)
  refine⟨fr,?_⟩
  rw[<- e]
  have m:=qg4 h111 (foldI B (ws.take i)) (IntKind.u64.wrap ws[i])
  rw[qhn hi] at m
  have hc:qae (intsC ws) i 1=some [.lit (.int .i64 ws[i])]:=by
   unfold qae intsC
   rw[<- List.map_drop,List.drop_eq_getElem_cons hi,List.map_cons]
   rfl
  have w1:IntKind.i64.wrap ((i:Int)+1)=((i+1:Nat):Int):=by rw[qau _ (by omega)]; omega
  have hlt:(i:Int)<ws.length:=by omega
  generalize ((i+1:Nat):Int)=i1 at *
  generalize foldI B (ws.take i)=s0 at *
  generalize foldI B (ws.take (i+1))=s1 at *
  generalize ws[i]=w at *
  generalize intsC ws=C at *
  generalize ws.length=n at *
  conv=>lhs; rw[qag]
  simp[qah,qeQ,V.len,qaf,hlt,hi,hc,w1,m,List.range_succ]
theorem qjn (h109:prog 109=some F109) {s:ByteArray} {ws:List Int} {B:Int} (hl:ws.length<=100000) (hB:Z prog (.call 110 [.str s,.int ws.length] [])=some (.ret (.dat (.lit (.int .u64 B))) [])) :
  Z prog (.call 109 [.str s,.dat (.sl (intsC ws) ws.length false)] [])=some (.ret (.dat (.lit (.int .u64 (sumI B ws)))) []):=by
 obtain⟨fr,e⟩:=qjm h111 (B:=B) hl ws.length 0 (by omega)
 have m:=qg4 h111 (foldI B ws) 0
 rw[show qeW (foldI B ws) 0=sumI B ws from rfl] at m
 rw[List.take_zero,show foldI B []=B from rfl,show ((0:Nat):Int)=0 from rfl] at e
 refine qaX h109 rfl ?_
 generalize foldI B ws=s1 at *
 generalize sumI B ws=s2 at *
 generalize intsC ws=C at *
 generalize ws.length=n at *
 simp[F109,V.len,hB,e,m,List.range_succ]
end
def tH:Nat->Option PFun
 | 109=>some F109
 | 110=>some F110
 | 111=>some F111
 | 112=>some F112
 | 113=>some F113
 | _=>none
def qiU:ByteArray:=⟨#[98,111,111,107]⟩
def qlG:ByteArray:=⟨#[112,114,111,103,114,97,109]⟩
def qes (s:ByteArray) (n W:Int):S:=[.loop { fr:=[(0,.str s),(1,.int n),(5,.ptr 2 0),(8,.fn 113 [] [.ptr 1 0])],ps:=[9],assign:=F110a0,body:=F110b0,st:=0,pend:=none },.cells [.str s],.cells [.dat (.lit (.int .u64 W))]]
theorem qiV (n:Int):Z tH (.call 113 [.yld 0,.ptr 1 0] (qes qiU n 0))=some (.ret (.tup []) (qes qiU n 17196531580303950166)):=qdT (n:=40) (by kernel_rfl)
theorem qiW (n:Int):Z tH (.call 113 [.yld 0,.ptr 1 0] (qes qlG n 0))=some (.ret (.tup []) (qes qlG n (qeW 0 30787916450984560))):=qdT (n:=40) (by kernel_rfl)
section
variable {prog:Nat->Option PFun} (hH : ∀ k pf,tH k=some pf->prog k=some pf)
include hH
theorem qih {s:ByteArray} {n W x y:Int} (hw:Z prog (.call 113 [.yld 0,.ptr 1 0] (qes s n 0))=some (.ret (.tup []) (qes s n W))) {m:Nat} (hm:s.size=m) (hx:qeW W (IntKind.u64.wrap m)=x) (hy:qeW x (IntKind.u64.wrap n)=y) :
  Z prog (.call 110 [.str s,.int n] [])=some (.ret (.dat (.lit (.int .u64 y))) []):=by
 have z112:Z prog (.call 112 [.str s] [])=some (.ret (.fn 113 [] [.ptr 0 0]) [.cells [.str s]]):=by
  refine qaX (hH 112 F112 rfl) rfl ?_
  simp[F112,List.range_succ]
 have m1:=qg4 (hH 111 F111 rfl) W (IntKind.u64.wrap m)
 have m2:=qg4 (hH 111 F111 rfl) x (IntKind.u64.wrap n)
 rw[hx] at m1
 rw[hy] at m2
 unfold qes at hw
 refine qaX (hH 110 F110 rfl) rfl ?_
 simp[F110,z112,hw,m1,m2,hm,V.len,List.range_succ]
end
end Go.Pm
end SZg
section SZh
namespace Go.Pm
open F
set_option maxHeartbeats 4000000
def hwD (a b e:Int) (l:List Int) (i:Nat):List V:=(intsC ([a,b,e]++l.take (2*i))).map .dat
theorem qjR {a b e:Int} {l:List Int} {i:Nat} (h:2*i<=l.length):(hwD a b e l i).length=3+2*i:=by simp[hwD,intsC]; omega
theorem qjS {a b e:Int} {l:List Int} {i:Nat} (h:2*i+1<l.length):hwD a b e l i++[.int l[2*i],.int l[2*i+1]]=hwD a b e l (i+1):=by
 have e1:l.take (2*(i+1))=l.take (2*i)++[l[2*i],l[2*i+1]]:=by
  rw[show 2*(i+1)=2*i+1+1 by omega,List.take_succ_eq_append_getElem h,List.take_succ_eq_append_getElem (by omega),List.append_assoc]
  rfl
 unfold hwD
 rw[e1]
 simp[intsC]
theorem qgV {l:List Int} {i:Nat} (h:2*i+1<l.length):qae (intsC l) (i*2) 2=some [.lit (.int .i64 l[2*i]),.lit (.int .i64 l[2*i+1])]:=by
 unfold qae intsC
 rw[<- List.map_drop,show i*2=2*i by omega,List.drop_eq_getElem_cons (by omega),List.drop_eq_getElem_cons h]
 rfl
theorem qd3 (a b e:Int) (l:List Int) (i:Nat):qak (hwD a b e l i)=[]:=by
 have h : ∀ (l:List V),(∀ v∈l,v.locs=[])->qak l=[]:=by
  intro l
  induction l with
  | nil=>intro _; rfl
  | cons v l ih=>intro h; simp[qak,h v (by simp),ih fun u hu=>h u (by simp[hu])]
 refine h _ fun v hv=>?_
 obtain⟨x,_,rfl⟩:=List.mem_map.1 hv
 rfl
theorem qfo (r:Nat->Nat) (a b e:Int) (l:List Int) (i:Nat):qbH r (hwD a b e l i)=hwD a b e l i:=by
 have h : ∀ (l:List V),(∀ v∈l,v.ren r=v)->qbH r l=l:=by
  intro l
  induction l with
  | nil=>intro _; rfl
  | cons v l ih=>intro h; simp[qbH,h v (by simp),ih fun u hu=>h u (by simp[hu])]
 refine h _ fun v hv=>?_
 obtain⟨x,_,rfl⟩:=List.mem_map.1 hv
 rfl
section
variable {prog:Nat->Option PFun} (hH : ∀ k pf,tH k=some pf->prog k=some pf) (h353:prog 353=some F353)
theorem qlc {l:List Int} {n:Nat} {a b e:Int} (hn:l.length=2*n) (hl:n<=10000) : ∀ (k i:Nat),i+k=n -> ∃ fr,Z prog (.loop 0 F353l0 [(3,.own 0 (3+2*i) 1),(17,.dat (.sl (intsC l) n false)),(18,.int n),(19,.int i)] [.vec (hwD a b e l i)]) =
  some (.out (.exit 0) ((3,.own 0 (3+2*n) 1)::fr) [.vec (hwD a b e l n)])
 | 0,i,h=>by
  obtain rfl:i=n:=by omega
  have l1:=qd3 a b e l i
  have r1:=fun r=>qfo r a b e l i
  exact⟨_,by rw[qag]; simp[qah,qdt,V.len,l1,r1,List.range_succ]; rfl⟩
 | k+1,i,h=>by
  have hi:2*i+1<l.length:=by omega
  obtain⟨fr,z⟩:=qlc (a:=a) (b:=b) (e:=e) hn hl k (i+1) (by omega)
  refine⟨fr,?_⟩
  rw[<- z]
  have hc:=qgV hi
  have hw:=qjS (a:=a) (b:=b) (e:=e) hi
  have w1:IntKind.i64.wrap ((i:Int)+1)=((i+1:Nat):Int):=by rw[qau _ (by omega)]; omega
  have hlt:(i:Int)<n:=by omega
  have hin:i<n:=by omega
  have hl1:=qjR (a:=a) (b:=b) (e:=e) (l:=l) (i:=i) (by omega)
  have l1:=qd3 a b e l i
  have r1:=fun r=>qfo r a b e l i
  have l2:=qd3 a b e l (i+1)
  have r2:=fun r=>qfo r a b e l (i+1)
  have e3:3+2*(i+1)=3+2*i+2:=by omega
  have rm:qaq (3+2*i+2) 8:=by simp[qaq]; omega
  rw[e3]
  generalize ((i+1:Nat):Int)=i1 at *
  generalize l[2*i]=x at *
  generalize l[2*i+1]=y at *
  generalize hwD a b e l i=W at *
  generalize hwD a b e l (i+1)=W' at *
  generalize intsC l=C at *
  generalize 3+2*i=m at *
  conv=>lhs; rw[qag]
  simp[qah,qdt,V.len,qaf,hlt,hin,hc,w1,hl1,hw,l1,r1,l2,r2,rm,List.range_succ]
  all_goals exact qaF (by simp[gcF,l1,l2,r1,r2,List.range_succ])
include hH h353
theorem qiG {l:List Int} {n:Nat} {a b e:Int} (hn:l.length=2*n) (hl:n<=10000) {y:Int} (hy:qeW (qeW (qeW 0 30787916450984560) 7) (IntKind.u64.wrap ((3+2*n:Nat):Int))=y) :
  Z prog (.call 353 [.dat (.agg [qfA l,.lit (.int .i64 a),.lit (.int .i64 b),.lit (.int .i64 e)])] [])=some (.ret (.dat (.lit (.int .u64 (sumI y ([a,b,e]++l))))) []):=by
 have hlen:([a,b,e]++l).length=3+2*n:=by simp; omega
 have z:=qjn (hH 111 F111 rfl) (hH 109 F109 rfl) (s:=qlG) (ws:=[a,b,e]++l) (B:=y) (by omega) (qih hH (qhC hH (qiW _)) (m:=7) rfl rfl (by rw[hlen]; exact hy))
 rw[hlen] at z
 have hd:=qcI (intsC ([a,b,e]++l))
 have hl1:(intsC ([a,b,e]++l)).length=3+2*n:=by simp[intsC]; omega
 have hone:((intsC ([a,b,e]++l)).all fun d=>V.one (.dat d))=true:=by simp[intsC]
 obtain⟨fr,zl⟩:=qlc (prog:=prog) (a:=a) (b:=b) (e:=e) hn hl n 0 (by omega)
 have l1:=qd3 a b e l n
 have r1:=fun r=>qfo r a b e l n
 have hall:hwD a b e l n=(intsC ([a,b,e]++l)).map .dat:=by unfold hwD; rw[List.take_of_length_le (by omega)]
 have h0:hwD a b e l 0=[.int a,.int b,.int e]:=by simp[hwD,intsC]
 have w1:IntKind.i64.wrap (2*(n:Int))=((2*n:Nat):Int):=by rw[qau _ (by omega)]; omega
 have w2:IntKind.i64.wrap (3+((2*n:Nat):Int))=((3+2*n:Nat):Int):=by rw[qau _ (by omega)]; omega
 have c1:((3+2*n:Nat):Int)<=1099511627776:=by omega
 have c2:(8:Int)*((3+2*n:Nat):Int)<=281474976710656:=by omega
 have c3:(0:Int)<=((3+2*n:Nat):Int):=by omega
 rw[h0,show ((0:Nat):Int)=0 from rfl] at zl
 rw[hall] at zl l1 r1
 refine qaX h353 rfl ?_
 unfold qlG at z
 cases l with
 | nil=>
  obtain rfl:n=0:=by simp at hn; omega
  simp only[qfA,intsC,List.map_nil,List.append_nil,List.map_cons,Nat.mul_zero,Nat.add_zero] at z ⊢
  generalize sumI y [a,b,e]=s1 at *
  have z0:Z prog (.loop 0 F353l0 [(3,.own 0 3 1),(17,.dat (.lit (.slice none 0 0))),(18,.int 0),(19,.int 0)] [.vec [.int a,.int b,.int e]])=some (.out (.exit 0) [(3,.own 0 3 1),(17,.dat (.lit (.slice none 0 0))),(18,.int 0),(19,.int 0),(20,.bool false)] [.vec [.int a,.int b,.int e]]):=by
   rw[qag]
   simp[qdt,qah,List.range_succ]
  have z1:Z prog (.loop 0 F353l0 [(3,.own 1 3 1),(17,.dat (.lit (.slice none 0 0))),(18,.int 0),(19,.int 0)] [.cells [.dat (.lit (.slice none 0 0)),.int a,.int b,.int e],.vec [.int a,.int b,.int e]])=_:=(qaF (by simp[gcF,List.range_succ])).trans z0
  simp[F353,V.len,qaf,bound,qau,z,z1,qaq,qbB,List.range_succ]
  done
 | cons x l=>
  have hq:(x::l).length / 2=n:=by omega
  simp only[qfA,hq] at zl ⊢
  simp only[Nat.mul_zero,Nat.add_zero] at zl
  generalize sumI y ([a,b,e]++x::l)=s1 at *
  generalize ((3+2*n:Nat):Int)=mI at *
  generalize 3+2*n=m at *
  generalize ((2*n:Nat):Int)=nI at *
  generalize intsC (x::l)=C at *
  generalize intsC ([a,b,e]++x::l)=C' at *
  have z1:Z prog (.loop 0 F353l0 [(3,.own 1 3 1),(17,.dat (.sl C n false)),(18,.int n),(19,.int 0)] [.cells [.dat (.sl C n false),.int a,.int b,.int e],.vec [.int a,.int b,.int e]])=_:=(qaF (by simp[gcF,List.range_succ])).trans zl
  simp[F353,V.len,qaf,bound,z1,w1,w2,c1,c2,c3,z,zl,l1,r1,hd,hl1,hone,qaq,qbB,List.range_succ]
  done
end
end Go.Pm
end SZh
section SZj
namespace Go.Pm
open F
set_option maxHeartbeats 4000000
def wdB (H:Vr->Int) (L:List Vr):List Int:=L.flatMap fun v=>[v.t,IntKind.i64.wrap (H v)]
theorem qgo (H:Vr->Int) : ∀ L:List Vr,(wdB H L).length=2*L.length
 | []=>rfl
 | v::L=>by
  have:=qgo H L
  simp[wdB] at this ⊢
  omega
def bwD (H:Vr->Int) (L:List Vr) (i:Nat):List V:=(intsC (wdB H (L.take i))).map .dat
theorem qhR {H:Vr->Int} {L:List Vr} {i:Nat} (h:i<=L.length):(bwD H L i).length=2*i:=by
 have:=qgo H (L.take i)
 simp[bwD,intsC]
 simp at this
 omega
theorem qhS {H:Vr->Int} {L:List Vr} {i:Nat} (h:i<L.length):bwD H L i++[.int L[i].t,.int (IntKind.i64.wrap (H L[i]))]=bwD H L (i+1):=by
 unfold bwD wdB
 rw[List.take_succ_eq_append_getElem h,List.flatMap_append]
 simp[intsC]
theorem qcc (H:Vr->Int) (L:List Vr) (i:Nat):qak (bwD H L i)=[]:=by
 have h : ∀ (l:List V),(∀ v∈l,v.locs=[])->qak l=[]:=by
  intro l
  induction l with
  | nil=>intro _; rfl
  | cons v l ih=>intro h; simp[qak,h v (by simp),ih fun u hu=>h u (by simp[hu])]
 refine h _ fun v hv=>?_
 obtain⟨x,_,rfl⟩:=List.mem_map.1 hv
 rfl
theorem qcY (H:Vr->Int) (r:Nat->Nat) (L:List Vr) (i:Nat):qbH r (bwD H L i)=bwD H L i:=by
 have h : ∀ (l:List V),(∀ v∈l,v.ren r=v)->qbH r l=l:=by
  intro l
  induction l with
  | nil=>intro _; rfl
  | cons v l ih=>intro h; simp[qbH,h v (by simp),ih fun u hu=>h u (by simp[hu])]
 refine h _ fun v hv=>?_
 obtain⟨x,_,rfl⟩:=List.mem_map.1 hv
 rfl
section
variable {prog:Nat->Option PFun}
def qfi (prog:Nat->Option PFun) (H:Vr->Int) (v:Vr):Prop:=Z prog (.call 353 [.dat (.agg [v.c,.lit (.int .i64 v.a),.lit (.int .i64 v.b),.lit (.int .i64 v.e)])] [])=some (.ret (.dat (.lit (.int .u64 (H v)))) [])
theorem qjI {H:Vr->Int} {L:List Vr} {i:Nat} (h:i<L.length) (hl:L.length<=1000) (hh:qfi prog H L[i]) (g:Bool) :
  Z prog (.loop 1 F343l0 [(3,.own 1 (2*i) 1),(16,.dat (.sl (vrC L) L.length g)),(17,.int L.length),(18,.int i)] [.cells [.dat (.sl (vrC L) L.length g)],.vec (bwD H L i)]) =
  Z prog (.loop 1 F343l0 [(3,.own 1 (2*(i+1)) 1),(16,.dat (.sl (vrC L) L.length g)),(17,.int L.length),(18,.int (i+1:Nat))] [.cells [.dat (.sl (vrC L) L.length g)],.vec (bwD H L (i+1))]):=by
 have hc:=qfj h
 have o:=L[i].one
 have c:=L[i].cl
 unfold qfi at hh
 have hs:=qhS (H:=H) h
 have hw:=qhR (H:=H) (L:=L) (i:=i) (by omega)
 have w1:IntKind.i64.wrap ((i:Int)+1)=((i+1:Nat):Int):=by rw[qau _ (by omega)]; omega
 have hlt:(i:Int)<L.length:=by omega
 have e3:2*(i+1)=2*i+2:=by omega
 have rm:qaq (2*i+2) 8:=by simp[qaq]; omega
 have l1:=qcc H L i
 have l2:=qcc H L (i+1)
 have r1:=fun r=>qcY H r L i
 have r2:=fun r=>qcY H r L (i+1)
 rw[e3]
 generalize ((i+1:Nat):Int)=i1 at *
 generalize H L[i]=hv at *
 obtain⟨u,hu⟩ : ∃ u,IntKind.i64.wrap hv=u:=⟨_,rfl⟩
 rw[hu] at hs
 generalize L[i]=v at *
 generalize vrC L=C at *
 generalize bwD H L i=W at *
 generalize bwD H L (i+1)=W' at *
 generalize L.length=n at *
 generalize 2*i=m at *
 conv=>lhs; rw[qag]
 simp[qah,qcH,V.len,qaf,hlt,h,hc,hh,hu,o,c,hw,hs,w1,rm,l1,l2,r1,r2,List.range_succ]
 all_goals exact qaF (by simp[gcF,l1,l2,r1,r2,List.range_succ])
theorem qjJ {H:Vr->Int} {L:List Vr} {i:Nat} (h:i<L.length) (hl:L.length<=1000) (hh:qfi prog H L[i]) (m0:Nat) :
  Z prog (.loop 2 F343l0 [(3,.own 2 (2*i) 1),(16,.gsl (vrC L) L.length 5 1),(17,.int L.length),(18,.int i)] [.cells [.gsl (vrC L) L.length 5 1],.tip m0,.vec (bwD H L i)]) =
  Z prog (.loop 2 F343l0 [(3,.own 2 (2*(i+1)) 1),(16,.gsl (vrC L) L.length 5 1),(17,.int L.length),(18,.int (i+1:Nat))] [.cells [.gsl (vrC L) L.length 5 1],.tip m0,.vec (bwD H L (i+1))]):=by
 have hc:=qfj h
 have o:=L[i].one
 have c:=L[i].cl
 unfold qfi at hh
 have hs:=qhS (H:=H) h
 have hw:=qhR (H:=H) (L:=L) (i:=i) (by omega)
 have w1:IntKind.i64.wrap ((i:Int)+1)=((i+1:Nat):Int):=by rw[qau _ (by omega)]; omega
 have hlt:(i:Int)<L.length:=by omega
 have e3:2*(i+1)=2*i+2:=by omega
 have rm:qaq (2*i+2) 8:=by simp[qaq]; omega
 have l1:=qcc H L i
 have l2:=qcc H L (i+1)
 have r1:=fun r=>qcY H r L i
 have r2:=fun r=>qcY H r L (i+1)
 rw[e3]
 generalize ((i+1:Nat):Int)=i1 at *
 generalize H L[i]=hv at *
 obtain⟨u,hu⟩ : ∃ u,IntKind.i64.wrap hv=u:=⟨_,rfl⟩
 rw[hu] at hs
 generalize L[i]=v at *
 generalize vrC L=C at *
 generalize bwD H L i=W at *
 generalize bwD H L (i+1)=W' at *
 generalize L.length=n at *
 generalize 2*i=m at *
 conv=>lhs; rw[qag]
 simp[qah,qcH,V.len,qaf,hlt,h,hc,hh,hu,o,c,hw,hs,w1,rm,l1,l2,r1,r2,List.range_succ]
 all_goals exact qaF (by simp[gcF,l1,l2,r1,r2,List.range_succ])
theorem qhT {H:Vr->Int} {L:List Vr} (hl:L.length<=1000) (hh : ∀ i (h:i<L.length),qfi prog H L[i]) (g:Bool) : ∀ (k i:Nat),i+k=L.length->Z prog (.loop 1 F343l0 [(3,.own 1 (2*i) 1),(16,.dat (.sl (vrC L) L.length g)),(17,.int L.length),(18,.int i)] [.cells [.dat (.sl (vrC L) L.length g)],.vec (bwD H L i)]) =
  some (.out (.exit 0) [(3,.own 1 (2*L.length) 1),(16,.dat (.sl (vrC L) L.length g)),(17,.int L.length),(18,.int L.length),(19,.bool false)] [.cells [.dat (.sl (vrC L) L.length g)],.vec (bwD H L L.length)])
 | 0,i,h=>by
  obtain rfl:i=L.length:=by omega
  have l1:=qcc H L L.length
  have r1:=fun r=>qcY H r L L.length
  rw[qag]
  simp[qah,qcH,l1,r1,List.range_succ]
 | k+1,i,h=>by
  rw[qjI (by omega) hl (hh i (by omega))]
  exact qhT hl hh g k (i+1) (by omega)
theorem qhU {H:Vr->Int} {L:List Vr} (hl:L.length<=1000) (hh : ∀ i (h:i<L.length),qfi prog H L[i]) (m0:Nat) : ∀ (k i:Nat),i+k=L.length->Z prog (.loop 2 F343l0 [(3,.own 2 (2*i) 1),(16,.gsl (vrC L) L.length 5 1),(17,.int L.length),(18,.int i)] [.cells [.gsl (vrC L) L.length 5 1],.tip m0,.vec (bwD H L i)]) =
  some (.out (.exit 0) [(3,.own 2 (2*L.length) 1),(16,.gsl (vrC L) L.length 5 1),(17,.int L.length),(18,.int L.length),(19,.bool false)] [.cells [.gsl (vrC L) L.length 5 1],.tip m0,.vec (bwD H L L.length)])
 | 0,i,h=>by
  obtain rfl:i=L.length:=by omega
  have l1:=qcc H L L.length
  have r1:=fun r=>qcY H r L L.length
  rw[qag]
  simp[qah,qcH,l1,r1,List.range_succ]
 | k+1,i,h=>by
  rw[qjJ (by omega) hl (hh i (by omega))]
  exact qhU hl hh m0 k (i+1) (by omega)
theorem qkZ (hH : ∀ k pf,tH k=some pf->prog k=some pf) (h343:prog 343=some F343) {H:Vr->Int} {L:List Vr} (h0:0<L.length) (hl:L.length<=1000) (hh : ∀ i (h:i<L.length),qfi prog H L[i]) {y:Int} (hy:qeW (qeW 17196531580303950166 4) (IntKind.u64.wrap ((2*L.length:Nat):Int))=y) :
  Z prog (.call 343 [.ptr 0 0] (qas L))=some (.ret (.dat (.lit (.int .u64 (sumI y (wdB H L))))) (qas L)):=by
 have hlen:=qgo H L
 have z:=qjn (hH 111 F111 rfl) (hH 109 F109 rfl) (s:=qiU) (ws:=wdB H L) (B:=y) (by omega) (qih hH (qhC hH (qiV _)) (m:=4) rfl rfl (by rw[hlen]; exact hy))
 rw[hlen] at z
 unfold qiU at z
 have hd:=qcI (intsC (wdB H L))
 have hl1:(intsC (wdB H L)).length=2*L.length:=by simp[intsC,hlen]
 have hone:((intsC (wdB H L)).all fun d=>V.one (.dat d))=true:=by simp[intsC]
 have hall:bwD H L L.length=(intsC (wdB H L)).map .dat:=by unfold bwD; rw[List.take_length]
 have hz:bwD H L 0=[]:=rfl
 have l1:=qcc H L L.length
 have r1:=fun r=>qcY H r L L.length
 have w1:IntKind.i64.wrap (2*(L.length:Int))=((2*L.length:Nat):Int):=by rw[qau _ (by omega)]; omega
 have c1:((2*L.length:Nat):Int)<=1099511627776:=by omega
 have c2:(8:Int)*((2*L.length:Nat):Int)<=281474976710656:=by omega
 have c3:(0:Int)<=((2*L.length:Nat):Int):=by omega
 rw[hall] at l1 r1
 refine qaX h343 rfl ?_
 by_cases h1:L.length=1
 ·have e:qas L=[.cells [.dat (.sl (vrC L) 1 true)]]:=if_pos h1
  have zl:=qhT hl hh true L.length 0 (by omega)
  rw[hz,hall,show ((0:Nat):Int)=0 from rfl] at zl
  rw[e]
  simp only[h1,Nat.mul_one,Nat.mul_zero,show ((1:Nat):Int)=1 from rfl,show ((2:Nat):Int)=2 from rfl] at z zl hl1
  generalize sumI y (wdB H L)=s1 at *
  generalize intsC (wdB H L)=C' at *
  generalize vrC L=C at *
  simp[F343,V.len,qaf,qau,z,zl,l1,r1,hd,hl1,hone,qaq,qbB,List.range_succ]
  done
 ·have zl:=qhU hl hh (vrC L).length L.length 0 (by omega)
  rw[hz,hall,show ((0:Nat):Int)=0 from rfl,Nat.mul_zero] at zl
  rw[qdH (by omega)]
  clear hh
  generalize sumI y (wdB H L)=s1 at *
  generalize intsC (wdB H L)=C' at *
  generalize vrC L=C at *
  generalize ((2*L.length:Nat):Int)=mI at *
  generalize 2*L.length=m at *
  generalize L.length=n at *
  simp[F343,V.len,qaf,w1,c1,c2,c3,z,zl,l1,r1,hd,hl1,hone,qaq,qbB,List.range_succ]
  done
end
end Go.Pm
end SZj
section SZk
namespace Go.Pm
open F
set_option maxHeartbeats 4000000
section
variable {prog:Nat->Option PFun}
theorem qjp (h331:prog 331=some F331) {l:List Int} {n:Nat} (hn:l.length=2*n) (hl:n<=10000):Z prog (.call 331 [.dat (qfA l)] [])=some (.ret (.dat (qfA l)) []):=by
 refine qaX h331 rfl ?_
 cases l with
 | nil=>simp[F331,qfA,V.len,List.range_succ]
 | cons x l=>
  have hq:(x::l).length / 2=n:=by omega
  have h0:0<n:=by simp at hn; omega
  have hl1:(intsC (x::l)).length=n*2:=by simp[intsC] at hn ⊢; omega
  have hn0:n≠0:=by omega
  have rm:qaq n 16:=by simp[qaq]; omega
  have hone:((intsC (x::l)).all fun d=>V.one (.dat d))=true:=by simp[intsC]
  simp only[qfA,hq]
  generalize intsC (x::l)=C at *
  simp[F331,V.len,qbJ,qio,rm,hn0,hl1,hone,List.range_succ]
  done
theorem qi1 {l:List Int} {n:Nat} {a b e:Int} (hn:l.length=2*n) (hl:n<=10000) : ∀ (k i:Nat),i+k=n->Z prog (.loop 0 F346l0 [(2,.ptr 0 0),(3,.ptr 1 0),(5,.int i)] [.cells [.dat (.sl (intsC l) n false),.int a,.int b,.int e],.cells [.dat (.sl (intsC l) n false),.int a,.int b,.int e]]) =
  some (.out (.exit 0) [(2,.ptr 0 0),(3,.ptr 1 0),(5,.int n),(24,.bool false)] [.cells [.dat (.sl (intsC l) n false),.int a,.int b,.int e],.cells [.dat (.sl (intsC l) n false),.int a,.int b,.int e]])
 | 0,i,h=>by
  obtain rfl:i=n:=by omega
  rw[qag]
  simp[qah,qds,V.len,List.range_succ]
 | k+1,i,h=>by
  rw[<- qi1 hn hl k (i+1) (by omega)]
  have hc:=qgV (l:=l) (i:=i) (by omega)
  have w1:IntKind.i64.wrap ((i:Int)+1)=((i+1:Nat):Int):=by rw[qau _ (by omega)]; omega
  have hlt:(i:Int)<n:=by omega
  have hin:i<n:=by omega
  have hi:2*i+1<l.length:=by omega
  generalize ((i+1:Nat):Int)=i1 at *
  generalize l[2*i]=x at *
  generalize l[2*i+1]=y at *
  generalize intsC l=C at *
  conv=>lhs; rw[qag]
  simp[qah,qds,V.len,qaf,hlt,hin,hc,w1,List.range_succ]
  done
theorem qks (h346:prog 346=some F346) {l:List Int} {n:Nat} {a b e:Int} (hn:l.length=2*n) (hl:n<=10000) :
  Z prog (.call 346 [.dat (.agg [qfA l,.lit (.int .i64 a),.lit (.int .i64 b),.lit (.int .i64 e)]),.dat (.agg [qfA l,.lit (.int .i64 a),.lit (.int .i64 b),.lit (.int .i64 e)])] [])=some (.ret (.bool true) []):=by
 refine qaX h346 rfl ?_
 cases l with
 | nil=>
  have z0:Z prog (.loop 0 F346l0 [(2,.ptr 0 0),(3,.ptr 1 0),(5,.int 0)] [.cells [.dat (.lit (.slice none 0 0)),.int a,.int b,.int e],.cells [.dat (.lit (.slice none 0 0)),.int a,.int b,.int e]])=some (.out (.exit 0) [(2,.ptr 0 0),(3,.ptr 1 0),(5,.int 0),(24,.bool false)] [.cells [.dat (.lit (.slice none 0 0)),.int a,.int b,.int e],.cells [.dat (.lit (.slice none 0 0)),.int a,.int b,.int e]]):=by
   rw[qag]
   simp[qds,qah,V.len,List.range_succ]
  simp[F346,qfA,V.len,z0,List.range_succ]
  done
 | cons x l=>
  have hq:(x::l).length / 2=n:=by omega
  have zl:=qi1 (prog:=prog) (a:=a) (b:=b) (e:=e) hn hl n 0 (by omega)
  rw[show ((0:Nat):Int)=0 from rfl] at zl
  simp only[qfA,hq]
  generalize intsC (x::l)=C at *
  simp[F346,V.len,zl,List.range_succ]
  done
end
end Go.Pm
end SZk
section SZz
namespace Go.Pm
open F
theorem qiY : ∀ f pf,tB f=some pf->prog17z f=some pf:=fun f pf h=>by
 unfold tB at h
 split at h<;>first | (cases h; rfl) | cases h
theorem qiZ : ∀ f pf,tH f=some pf->prog17z f=some pf:=fun f pf h=>by
 unfold tH at h
 split at h<;>first | (cases h; rfl) | cases h
theorem qho:Z prog17z (.call 321 [] [])=some (.ret (.bool true) []):=qdT (n:=3000) (by kernel_rfl)
end Go.Pm
end SZz
section SZd
namespace Go.Pm
open F
set_option maxHeartbeats 4000000
theorem qfm {prog:Nat->Option PFun} (h17:prog 17=some F17) {n m:Int} (h1:I64 n) (hm:1<=m):Z prog (.call 17 [.int n,.int m] [])=some (.ret (.int (around n m)) []):=by
 refine qaX h17 rfl ?_
 unfold around
 have hm0 : ¬ m=0:=by omega
 by_cases h:n<0
 ·have w1:IntKind.i64.wrap (n+1)=n+1:=qau _ (by unfold I64 at h1; omega)
  have w2:IntKind.i64.wrap (-(n+1)) = -(n+1):=qau _ (by unfold I64 at h1; omega)
  simp[F17,h,hm0,w1,w2]
 ·simp[F17,h,hm0]
theorem qgO {prog:Nat->Option PFun} (h17:prog 17=some F17) (h19:prog 319=some F319) {n:Int} (h1:I64 n) : ∃ j:Nat,j<6/\(j:Int)=(around n 60).tmod 6/\Z prog (.call 319 [.int n] [])=some (.ret (.str (srcB j)) []):=by
 have z:=qfm h17 h1 (m:=60) (by omega)
 have r:=qf1 h1 (m:=60) (by omega)
 generalize around n 60=a at *
 have q1:=Int.tmod_nonneg 6 r.1
 have q2:=Int.tmod_lt_of_pos a (show (0:Int)<6 by omega)
 refine⟨(a.tmod 6).toNat,by omega,by omega,?_⟩
 generalize hj:a.tmod 6=j at *
 obtain rfl | rfl | rfl | rfl | rfl | rfl:j=0\/j=1\/j=2\/j=3\/j=4\/j=5:=by omega
 all_goals
  refine qaX h19 rfl ?_
  simp[F319,z,hj,qaf,srcB,List.range_succ]
theorem qgq (l:List Int):V.one (.dat (qfA l))=true:=by cases l<;>rfl
theorem qhZ (l:List Int):V.cells (.dat (qfA l))=[.dat (qfA l)]:=by cases l<;>rfl
def vrB (t:Int) (j:Nat):Vr:=⟨t,qfA (qls j),(qke j).1,(qke j).2.1,(qke j).2.2,qgq _,qhZ _⟩
theorem qk9 {prog:Nat->Option PFun} (h7 : ∀ k pf,tB k=some pf->prog k=some pf) (t:Int) {j:Nat} (hj:j<6):qkq prog (srcB j) (vrB t j):=by
 have z:=qhC h7 (qgI j (by omega))
 have e:qfK j=0:=by
  obtain rfl | rfl | rfl | rfl | rfl | rfl:j=0\/j=1\/j=2\/j=3\/j=4\/j=5:=by omega
  all_goals rfl
 rw[e] at z
 exact z
section
variable {prog:Nat->Option PFun} (h7 : ∀ k pf,tB k=some pf->prog k=some pf) (h17:prog 17=some F17) (h19:prog 319=some F319)
include h7 h17 h19
omit h7 in
end
end Go.Pm
end SZd
section SZn
namespace Go.Pm
open F
set_option maxHeartbeats 4000000
def stN (xs:List Int) (i:Nat):Int:=around (xs.getD i 0) 1000000
def stG (n:Int):Nat:=if (n.tdiv 54).tmod 7=0 then 6+((n.tdiv 378).tmod 4).toNat else ((around (n.tdiv 9) 60).tmod 6).toNat
def stT (xs:List Int):Nat->Int
 | 0=>0
 | i+1=>stT xs i+(stN xs i).tmod 9-1
def stC (xs:List Int):Nat->List D
 | 0=>[]
 | i+1=>stC xs i++[.lit (.int .i64 (stT xs (i+1))),.lit (.string (srcB (stG (stN xs i))))]
theorem qfq (xs:List Int) : ∀ i,(stC xs i).length=i*2
 | 0=>rfl
 | i+1=>by simp[stC,qfq xs i]; omega
theorem qeq {xs:List Int} (hx : ∀ x∈xs,I64 x) (i:Nat):0<=stN xs i/\stN xs i<1000000:=by
 refine qf1 ?_ (by omega)
 by_cases h:i<xs.length
 ·rw[List.getD_eq_getElem?_getD,List.getElem?_eq_getElem h]; exact hx _ (List.getElem_mem h)
 ·rw[List.getD_eq_getElem?_getD,List.getElem?_eq_none (by omega)]; unfold I64; simp
theorem qh6 {xs:List Int} (hx : ∀ x∈xs,I64 x) : ∀ i:Nat,-(i:Int)<=stT xs i/\stT xs i<=7*i
 | 0=>⟨by simp[stT],by simp[stT]⟩
 | i+1=>by
  have h:=qh6 hx i
  have r:=qeq hx i
  have a:=Int.tmod_nonneg 9 r.1
  have b:=Int.tmod_lt_of_pos (stN xs i) (show (0:Int)<9 by omega)
  simp only[stT]
  omega
section
variable {prog:Nat->Option PFun} (h17:prog 17=some F17) (h19:prog 319=some F319)
include h17 h19
theorem qh7 {n:Int} (h1:I64 n):Z prog (.call 319 [.int n] [])=some (.ret (.str (srcB ((around n 60).tmod 6).toNat)) []):=by
 obtain⟨j,_,e,z⟩:=qgO h17 h19 h1
 rw[<- e]
 exact z
theorem qjT {xs:List Int} {i:Nat} (hx : ∀ x∈xs,I64 x) (hi:i<xs.length) (h12:i<12) (h0:0<i) :
  Z prog (.loop 0 F341l0 [(0,.dat (.sl (intsC xs) xs.length false)),(3,.gsl (stC xs i) i 2 0),(4,.int (stT xs i)),(5,.int i)] [.tip (i*2)]) =
  Z prog (.loop 0 F341l0 [(0,.dat (.sl (intsC xs) xs.length false)),(3,.gsl (stC xs (i+1)) (i+1) 2 0),(4,.int (stT xs (i+1))),(5,.int (i+1:Nat))] [.tip ((i+1)*2)]):=by
 have hc:qae (intsC xs) i 1=some [.lit (.int .i64 xs[i])]:=by
  unfold qae intsC
  rw[<- List.map_drop,List.drop_eq_getElem_cons hi,List.map_cons]
  rfl
 have hN:around xs[i] 1000000=stN xs i:=by unfold stN; rw[List.getD_eq_getElem?_getD,List.getElem?_eq_getElem hi]; rfl
 have zA:=qfm h17 (n:=xs[i]) (m:=1000000) (hx _ (List.getElem_mem hi)) (by omega)
 rw[hN] at zA
 have rN:=qeq hx i
 have rT:=qh6 hx i
 have lC:=qfq xs i
 have q0:=Int.tmod_nonneg 9 rN.1
 have q1:=Int.tmod_lt_of_pos (stN xs i) (show (0:Int)<9 by omega)
 have w1:IntKind.i64.wrap ((i:Int)+1)=((i+1:Nat):Int):=by rw[qau _ (by omega)]; omega
 have w2:IntKind.i64.wrap (stT xs i+(stN xs i).tmod 9)=stT xs i+(stN xs i).tmod 9:=qau _ (by omega)
 have w3:IntKind.i64.wrap (stT xs i+(stN xs i).tmod 9-1)=stT xs (i+1):=qau _ (by omega)
 have hlt:(i:Int)<xs.length:=by omega
 have h12':(i:Int)<12:=by omega
 have rm:qaq (i+1) 24:=by simp[qaq]; omega
 have dv : ∀ k:Int,0<k->0<=(stN xs i).tdiv k/\(stN xs i).tdiv k<=stN xs i:=fun k hk=>⟨Int.tdiv_nonneg rN.1 (by omega),Int.tdiv_le_self _ rN.1⟩
 have d9:=dv 9 (by omega)
 have d54:=dv 54 (by omega)
 have d378:=dv 378 (by omega)
 have v9:IntKind.i64.wrap ((stN xs i).tdiv 9)=(stN xs i).tdiv 9:=qau _ (by omega)
 have v54:IntKind.i64.wrap ((stN xs i).tdiv 54)=(stN xs i).tdiv 54:=qau _ (by omega)
 have v378:IntKind.i64.wrap ((stN xs i).tdiv 378)=(stN xs i).tdiv 378:=qau _ (by omega)
 have zS:=qh7 h17 h19 (n:=(stN xs i).tdiv 9) (by unfold I64; omega)
 have e':stC xs (i+1)=stC xs i++[.lit (.int .i64 (stT xs (i+1))),.lit (.string (srcB (stG (stN xs i))))]:=rfl
 have e3:(i+1)*2=i*2+2:=by omega
 rw[e',e3]
 have q4:=Int.tmod_nonneg 4 d378.1
 have q5:=Int.tmod_lt_of_pos ((stN xs i).tdiv 378) (show (0:Int)<4 by omega)
 unfold stG
 generalize ((i+1:Nat):Int)=i1 at *
 generalize stT xs (i+1)=t1 at *
 generalize hs:srcB ((around ((stN xs i).tdiv 9) 60).tmod 6).toNat=sh at *
 generalize stN xs i=n at *
 generalize stT xs i=t0 at *
 generalize stC xs i=W at *
 clear hx hN e'
 generalize xs[i]=x at *
 generalize intsC xs=C at *
 generalize xs.length=m at *
 conv=>lhs; rw[qag]
 by_cases h7:(n.tdiv 54).tmod 7=0
 ·rw[if_pos h7]
  generalize hj:(n.tdiv 378).tmod 4=j at *
  obtain rfl | rfl | rfl | rfl:j=0\/j=1\/j=2\/j=3:=by omega
  all_goals simp[qah,qbc,V.len,qaf,qbJ,qio,hlt,h12',hi,hc,zA,zS,w1,w2,w3,v9,v54,v378,h7,hj,lC,rm,srcB,List.range_succ]
 ·rw[if_neg h7]
  simp[qah,qbc,V.len,qaf,qbJ,qio,hlt,h12',hi,hc,zA,zS,w1,w2,w3,v9,v54,v378,h7,lC,rm,hs,List.range_succ]
theorem qjU {xs:List Int} (hx : ∀ x∈xs,I64 x) (hi:0<xs.length) :
  Z prog (.loop 0 F341l0 [(0,.dat (.sl (intsC xs) xs.length false)),(3,.dat (.lit (.slice none 0 0))),(4,.int 0),(5,.int 0)] []) =
  Z prog (.loop 0 F341l0 [(0,.dat (.sl (intsC xs) xs.length false)),(3,.gsl (stC xs 1) 1 2 0),(4,.int (stT xs 1)),(5,.int 1)] [.tip 2]):=by
 have hc:qae (intsC xs) 0 1=some [.lit (.int .i64 xs[0])]:=by
  unfold qae intsC
  rw[<- List.map_drop,List.drop_eq_getElem_cons hi,List.map_cons]
  rfl
 have hN:around xs[0] 1000000=stN xs 0:=by unfold stN; rw[List.getD_eq_getElem?_getD,List.getElem?_eq_getElem hi]; rfl
 have zA:=qfm h17 (n:=xs[0]) (m:=1000000) (hx _ (List.getElem_mem hi)) (by omega)
 rw[hN] at zA
 have rN:=qeq hx 0
 have q0:=Int.tmod_nonneg 9 rN.1
 have q1:=Int.tmod_lt_of_pos (stN xs 0) (show (0:Int)<9 by omega)
 have w2:IntKind.i64.wrap ((stN xs 0).tmod 9)=(stN xs 0).tmod 9:=qau _ (by omega)
 have w3:IntKind.i64.wrap ((stN xs 0).tmod 9-1)=stT xs 1:=by rw[qau _ (by omega)]; simp[stT]
 have hlt:(0:Int)<xs.length:=by omega
 have dv : ∀ k:Int,0<k->0<=(stN xs 0).tdiv k/\(stN xs 0).tdiv k<=stN xs 0:=fun k hk=>⟨Int.tdiv_nonneg rN.1 (by omega),Int.tdiv_le_self _ rN.1⟩
 have d9:=dv 9 (by omega)
 have d54:=dv 54 (by omega)
 have d378:=dv 378 (by omega)
 have v9:IntKind.i64.wrap ((stN xs 0).tdiv 9)=(stN xs 0).tdiv 9:=qau _ (by omega)
 have v54:IntKind.i64.wrap ((stN xs 0).tdiv 54)=(stN xs 0).tdiv 54:=qau _ (by omega)
 have v378:IntKind.i64.wrap ((stN xs 0).tdiv 378)=(stN xs 0).tdiv 378:=qau _ (by omega)
 have zS:=qh7 h17 h19 (n:=(stN xs 0).tdiv 9) (by unfold I64; omega)
 have e':stC xs 1=[.lit (.int .i64 (stT xs 1)),.lit (.string (srcB (stG (stN xs 0))))]:=rfl
 rw[e']
 have q4:=Int.tmod_nonneg 4 d378.1
 have q5:=Int.tmod_lt_of_pos ((stN xs 0).tdiv 378) (show (0:Int)<4 by omega)
 unfold stG
 generalize stT xs 1=t1 at *
 generalize hs:srcB ((around ((stN xs 0).tdiv 9) 60).tmod 6).toNat=sh at *
 generalize stN xs 0=n at *
 clear hx hN e'
 generalize xs[0]=x at *
 generalize intsC xs=C at *
 generalize xs.length=m at *
 conv=>lhs; rw[qag]
 by_cases h7:(n.tdiv 54).tmod 7=0
 ·rw[if_pos h7]
  generalize hj:(n.tdiv 378).tmod 4=j at *
  obtain rfl | rfl | rfl | rfl:j=0\/j=1\/j=2\/j=3:=by omega
  all_goals simp[qah,qbc,V.len,qaf,qbJ,qio,hlt,hi,hc,zA,zS,qau,qaq,w2,w3,v9,v54,v378,h7,hj,srcB,List.range_succ]
 ·rw[if_neg h7]
  simp[qah,qbc,V.len,qaf,qbJ,qio,hlt,hi,hc,zA,zS,qau,qaq,w2,w3,v9,v54,v378,h7,hs,List.range_succ]
omit h17 h19 in
theorem qjV {xs:List Int} {i:Nat} (h : ¬ (i<xs.length/\i<12)):Z prog (.loop 0 F341l0 [(0,.dat (.sl (intsC xs) xs.length false)),(3,.gsl (stC xs i) i 2 0),(4,.int (stT xs i)),(5,.int i)] [.tip (i*2)]) =
  some (.out (.exit 0) [(0,.dat (.sl (intsC xs) xs.length false)),(3,.gsl (stC xs i) i 2 0),(4,.int (stT xs i)),(5,.int i),(15,.bool false)] [.tip (i*2)]):=by
 rw[qag]
 by_cases h1:(i:Int)<xs.length
 ·have h2 : ¬ (i:Int)<12:=by omega
  simp[qah,qbc,V.len,h1,h2,List.range_succ]
 ·simp[qah,qbc,V.len,h1,List.range_succ]
theorem qh8 {xs:List Int} (hx : ∀ x∈xs,I64 x) : ∀ (k i:Nat),i+k=min xs.length 12->0<i ->
  Z prog (.loop 0 F341l0 [(0,.dat (.sl (intsC xs) xs.length false)),(3,.gsl (stC xs i) i 2 0),(4,.int (stT xs i)),(5,.int i)] [.tip (i*2)]) =
  some (.out (.exit 0) [(0,.dat (.sl (intsC xs) xs.length false)),(3,.gsl (stC xs (min xs.length 12)) (min xs.length 12) 2 0),(4,.int (stT xs (min xs.length 12))),(5,.int (min xs.length 12:Nat)),(15,.bool false)] [.tip (min xs.length 12*2)])
 | 0,i,h,h0=>by
  rw[<- h]
  exact qjV (by omega)
 | k+1,i,h,h0=>by
  rw[qjT h17 h19 hx (by omega) (by omega) h0]
  exact qh8 hx k (i+1) (by omega) (by omega)
def stD (xs:List Int):D:=match min xs.length 12 with
 | 0 => .lit (.slice none 0 0)
 | k+1 => .sl (stC xs (k+1)) (k+1) false
theorem qjW (h341:prog 341=some F341) {d:D} {xs:List Int} (h:RowV d xs) (hx : ∀ x∈xs,I64 x):Z prog (.call 341 [.dat d] [])=some (.ret (.dat (stD xs)) []):=by
 refine qaX h341 rfl ?_
 by_cases h0:xs.length=0
 ·have e:stD xs = .lit (.slice none 0 0):=by unfold stD; simp[h0]
  rw[e]
  rcases h with ⟨o,rfl,rfl⟩ | rfl
  ·have z0:Z prog (.loop 0 F341l0 [(0,.dat (.lit (.slice o 0 0))),(3,.dat (.lit (.slice none 0 0))),(4,.int 0),(5,.int 0)] [])=some (.out (.exit 0) [(0,.dat (.lit (.slice o 0 0))),(3,.dat (.lit (.slice none 0 0))),(4,.int 0),(5,.int 0),(15,.bool false)] []):=by
    rw[qag]
    simp[qah,qbc,V.len,List.range_succ]
   simp[F341,z0,List.range_succ]
   done
  ·obtain rfl:xs=[]:=List.length_eq_zero_iff.1 h0
   have z0:Z prog (.loop 0 F341l0 [(0,.dat (.sl [] 0 false)),(3,.dat (.lit (.slice none 0 0))),(4,.int 0),(5,.int 0)] [])=some (.out (.exit 0) [(0,.dat (.sl [] 0 false)),(3,.dat (.lit (.slice none 0 0))),(4,.int 0),(5,.int 0),(15,.bool false)] []):=by
    rw[qag]
    simp[qah,qbc,V.len,List.range_succ]
   simp[F341,intsC,z0,List.range_succ]
   done
 ·rcases h with ⟨o,rfl,rfl⟩ | rfl
  ·simp at h0
  have zl:=(qjU h17 h19 hx (by omega)).trans (qh8 h17 h19 hx (min xs.length 12-1) 1 (by omega) (by omega))
  obtain⟨k,hk⟩ : ∃ k,min xs.length 12=k+1:=⟨min xs.length 12-1,by omega⟩
  have e:stD xs = .sl (stC xs (k+1)) (k+1) false:=by unfold stD; rw[hk]
  have lC:=qfq xs (k+1)
  rw[hk] at zl
  rw[e]
  generalize stC xs (k+1)=W at *
  generalize stT xs (k+1)=t at *
  generalize ((k+1:Nat):Int)=kI at *
  generalize k+1=k1 at *
  generalize intsC xs=C at *
  generalize xs.length=m at *
  simp[F341,zl,lC,List.range_succ]
  done
end
end Go.Pm
end SZn
section SZo
namespace Go.Pm
open F
set_option maxHeartbeats 4000000
def qif (L:List Vr) (t:Int) (j:Nat):List Vr:=if 8<L.length then L else if t<=lastT L then L else if qfK j=0 then L++[vrB t j] else L
def addE (L:List Vr) (t:Int) (j:Nat):Int:=if 8<L.length then 2 else if t<=lastT L then 5 else qfK j
theorem qiR {L:List Vr} {t:Int} {j:Nat} (h:0<L.length):0<(qif L t j).length:=by
 unfold qif
 split
 ·exact h
 ·split
  ·exact h
  ·split
   ·simp
   ·exact h
theorem qj5 {L:List Vr} {t:Int} {j:Nat} (h:L.length<=9):(qif L t j).length<=9:=by
 unfold qif
 split
 ·exact h
 ·split
  ·exact h
  ·split
   ·simp; omega
   ·exact h
theorem qjk : ∀ j,j<10->qfK j=0->j<6
 | 0,_,_ | 1,_,_ | 2,_,_ | 3,_,_ | 4,_,_ | 5,_,_=>by omega
 | 6,_,h | 7,_,h | 8,_,h | 9,_,h=>absurd h (by decide)
 | n+10,h,_=>by omega
section
variable {prog:Nat->Option PFun} (h7 : ∀ k pf,tB k=some pf->prog k=some pf)
include h7
theorem qjl {L:List Vr} (h0:0<L.length) (t:Int) {j:Nat} (hj:j<10):Z prog (.call 318 [.ptr 0 0,.int t,.str (srcB j)] (qas L))=some (.ret (.int (addE L t j)) (qas (qif L t j))):=by
 unfold qif addE
 by_cases h8:8<L.length
 ·rw[if_pos h8,if_pos h8]
  exact qfE h7 h8 t _
 ·rw[if_neg h8,if_neg h8]
  by_cases ht:t<=lastT L
  ·rw[if_pos ht,if_pos ht]
   exact qfF h7 h0 (by omega) ht _
  ·rw[if_neg ht,if_neg ht]
   by_cases he:qfK j=0
   ·rw[if_pos he,he]
    have:=qkr h7 h0 (by omega) (v:=vrB t j) (by show lastT L<t; omega) (qk9 h7 t (qjk j hj he))
    exact this
   ·rw[if_neg he]
    exact qhz h7 h0 (by omega) (by omega) he ⟨_,_,_,_,rfl,qgq _,qhZ _,rfl,rfl,rfl,rfl,rfl,rfl⟩ (qhC h7 (qgI j hj))
end
end Go.Pm
end SZo
section SZp
namespace Go.Pm
open F
set_option maxHeartbeats 4000000
def bkL (j0:Nat) (xs:List Int):Nat->List Vr
 | 0=>[vrB 0 j0]
 | i+1=>qif (bkL j0 xs i) (stT xs (i+1)) (stG (stN xs i))
theorem qgj (j0:Nat) (xs:List Int) : ∀ i,0<(bkL j0 xs i).length
 | 0=>by simp[bkL]
 | i+1=>qiR (qgj j0 xs i)
theorem qi6 (j0:Nat) (xs:List Int) : ∀ i,(bkL j0 xs i).length<=9
 | 0=>by simp[bkL]
 | i+1=>qj5 (qi6 j0 xs i)
theorem qi7 {n:Int} (h:0<=n/\n<1000000):stG n<10:=by
 unfold stG
 have a:=Int.tmod_lt_of_pos (n.tdiv 378) (show (0:Int)<4 by omega)
 have b:=Int.tmod_lt_of_pos (around (n.tdiv 9) 60) (show (0:Int)<6 by omega)
 split<;>omega
theorem qhI (xs:List Int) : ∀ k i,i<k->qae (stC xs k) (i*2) 1=some [.lit (.int .i64 (stT xs (i+1)))]/\qae (stC xs k) (i*2+1) 1=some [.lit (.string (srcB (stG (stN xs i))))]
 | 0,i,h=>by omega
 | k+1,i,h=>by
  have l:=qfq xs k
  by_cases hik:i<k
  ·obtain⟨h1,h2⟩:=qhI xs k i hik
   have e : ∀ o n:Nat,o+n<=(stC xs k).length->qae (stC xs (k+1)) o n=qae (stC xs k) o n:=by
    intro o n ho
    have he:((stC xs (k+1)).drop o).take n=((stC xs k).drop o).take n:=by
     show ((stC xs k++_).drop o).take n=_
     rw[List.drop_append_of_le_length (by omega),List.take_append_of_le_length (by rw[List.length_drop]; omega)]
    unfold qae
    rw[he]
   exact⟨(e _ _ (by omega)).trans h1,(e _ _ (by omega)).trans h2⟩
  ·obtain rfl:i=k:=by omega
   have hd:(stC xs (i+1)).drop (i*2)=[.lit (.int .i64 (stT xs (i+1))),.lit (.string (srcB (stG (stN xs i))))]:=by
    show (stC xs i++_).drop (i*2)=_
    rw[<- l,List.drop_left]
   have hd1:(stC xs (i+1)).drop (i*2+1)=[.lit (.string (srcB (stG (stN xs i))))]:=by
    rw[<- List.drop_drop,hd]
    rfl
   unfold qae
   rw[hd,hd1]
   exact⟨rfl,rfl⟩
section
variable {prog:Nat->Option PFun} (h7 : ∀ k pf,tB k=some pf->prog k=some pf)
include h7
theorem qjA {j0:Nat} {xs:List Int} (hx : ∀ x∈xs,I64 x) {n i:Nat} (hi:i<n) (hn:n<=12) :
  Z prog (.loop 0 F347l0 [(5,.ptr 0 0),(7,.dat (.sl (stC xs n) n false)),(8,.int i)] (qas (bkL j0 xs i))) =
  Z prog (.loop 0 F347l0 [(5,.ptr 0 0),(7,.dat (.sl (stC xs n) n false)),(8,.int (i+1:Nat))] (qas (bkL j0 xs (i+1)))):=by
 obtain⟨h1,h2⟩:=qhI xs n i hi
 have za:=qjl h7 (qgj j0 xs i) (stT xs (i+1)) (qi7 (qeq hx i))
 have w1:IntKind.i64.wrap ((i:Int)+1)=((i+1:Nat):Int):=by rw[qau _ (by omega)]; omega
 have hlt:(i:Int)<n:=by omega
 rw[show qif (bkL j0 xs i) (stT xs (i+1)) (stG (stN xs i))=bkL j0 xs (i+1) from rfl] at za
 generalize addE (bkL j0 xs i) (stT xs (i+1)) (stG (stN xs i))=e at *
 generalize srcB (stG (stN xs i))=s at *
 generalize stT xs (i+1)=t at *
 generalize stC xs n=C at *
 generalize bkL j0 xs i=L at *
 generalize bkL j0 xs (i+1)=L' at *
 generalize ((i+1:Nat):Int)=i1 at *
 conv=>lhs; rw[qag]
 rcases qe3 L with ⟨C0,e0⟩ | ⟨C0,n0,m0,e0⟩<;>rcases qe3 L' with ⟨C',e'⟩ | ⟨C',n',m',e'⟩<;>rw[e0,e'] at za<;>rw[e0,e']
 all_goals simp[qah,qdD,V.len,qaf,hlt,hi,h1,h2,w1,za,List.range_succ]
 all_goals exact qaF (by simp[gcF,List.range_succ])
theorem qhJ {j0:Nat} {xs:List Int} (hx : ∀ x∈xs,I64 x) {n:Nat} (hn:n<=12) : ∀ (k i:Nat),i+k=n ->
  Z prog (.loop 0 F347l0 [(5,.ptr 0 0),(7,.dat (.sl (stC xs n) n false)),(8,.int i)] (qas (bkL j0 xs i))) =
  some (.out (.exit 0) [(5,.ptr 0 0),(7,.dat (.sl (stC xs n) n false)),(8,.int n),(26,.bool false)] (qas (bkL j0 xs n)))
 | 0,i,h=>by
  obtain rfl:i=n:=by omega
  rw[qag]
  rcases qe3 (bkL j0 xs i) with ⟨C,e⟩ | ⟨C,n,m,e⟩<;>rw[e]<;>simp[qah,qdD,V.len,List.range_succ]
 | k+1,i,h=>by
  rw[qjA h7 hx (by omega) hn]
  exact qhJ hx hn k (i+1) (by omega)
def bkOf (first:Int) (xs:List Int):List Vr:=bkL ((around first 60).tmod 6).toNat xs (min xs.length 12)
theorem qjB (h17:prog 17=some F17) (h19:prog 319=some F319) (h341:prog 341=some F341) (h347:prog 347=some F347) {first:Int} (hf:I64 first) {d:D} {xs:List Int} (h:RowV d xs) (hx : ∀ x∈xs,I64 x) :
  Z prog (.call 347 [.int first,.dat d] [])=some (.ret (.ptr 0 0) (qas (bkOf first xs))):=by
 obtain⟨j,hj,hje,zs⟩:=qgO h17 h19 hf
 have zt:=qjW h17 h19 h341 h hx
 have zn:=qlJ h7 (qk9 h7 0 hj) rfl
 have ej:((around first 60).tmod 6).toNat=j:=by omega
 unfold bkOf
 rw[ej]
 rw[qgD] at zn
 have o:=h.one
 have c:=h.cells
 refine qaX h347 rfl ?_
 generalize srcB j=s at *
 by_cases h0:min xs.length 12=0
 ·rw[h0]
  have e:stD xs = .lit (.slice none 0 0):=by unfold stD; rw[h0]
  rw[e] at zt
  rw[show bkL j xs 0=[vrB 0 j] from rfl,qgD]
  generalize vrC [vrB 0 j]=C at *
  have z0:Z prog (.loop 0 F347l0 [(5,.ptr 0 0),(7,.dat (.lit (.slice none 0 0))),(8,.int 0)] [.cells [.dat (.sl C 1 true)]])=some (.out (.exit 0) [(5,.ptr 0 0),(7,.dat (.lit (.slice none 0 0))),(8,.int 0),(26,.bool false)] [.cells [.dat (.sl C 1 true)]]):=by
   rw[qag]
   simp[qah,qdD,V.len,List.range_succ]
  simp[F347,zs,zn,zt,z0,List.range_succ]
  done
 ·obtain⟨k,hk⟩ : ∃ k,min xs.length 12=k+1:=⟨min xs.length 12-1,by omega⟩
  have e:stD xs = .sl (stC xs (k+1)) (k+1) false:=by unfold stD; rw[hk]
  have zl:=qhJ h7 (j0:=j) hx (n:=k+1) (by omega) (k+1) 0 (by omega)
  rw[e] at zt
  rw[hk]
  rw[show bkL j xs 0=[vrB 0 j] from rfl,qgD,show ((0:Nat):Int)=0 from rfl] at zl
  generalize vrC [vrB 0 j]=C at *
  generalize stC xs (k+1)=W at *
  generalize bkL j xs (k+1)=L' at *
  rcases qe3 L' with ⟨C',e'⟩ | ⟨C',n',m',e'⟩<;>rw[e'] at zl ⊢ <;> simp[F347,zs,zn,zt,zl,List.range_succ]
  done
end
end Go.Pm
end SZp
section SZq
namespace Go.Pm
open F
set_option maxHeartbeats 4000000
def qml:D->Int
 | .lit (.int _ n)=>n
 | _=>0
def qll:D->List Int
 | .sl C _ _=>C.map qml
 | _=>[]
theorem qlm (l:List Int):qll (qfA l)=l:=by
 cases l with
 | nil=>rfl
 | cons x l=>simp[qfA,qll,intsC,qml,Function.comp_def]
def hB (v:Vr):Int:=sumI (qeW (qeW (qeW 0 30787916450984560) 7) (IntKind.u64.wrap ((3+(qll v.c).length:Nat):Int))) ([v.a,v.b,v.e]++qll v.c)
theorem qfu : ∀ j,j<6 -> ∃ n,(qls j).length=2*n/\n<=10000
 | 0,_=>⟨0,rfl,by omega⟩
 | 1,_=>⟨3,rfl,by omega⟩
 | 2,_=>⟨4,rfl,by omega⟩
 | 3,_=>⟨11,rfl,by omega⟩
 | 4,_=>⟨12,rfl,by omega⟩
 | 5,_=>⟨4,rfl,by omega⟩
 | j+6,h=>by omega
theorem qiQ {prog:Nat->Option PFun} (hH : ∀ k pf,tH k=some pf->prog k=some pf) (h353:prog 353=some F353) (t:Int) {j:Nat} (hj:j<6):qfi prog hB (vrB t j):=by
 obtain⟨n,hn,hl⟩:=qfu j hj
 unfold qfi hB
 have e:qll (vrB t j).c=qls j:=qlm _
 rw[e]
 exact qiG hH h353 hn hl (by rw[hn])
def OkB (L:List Vr):Prop:=(∀ v∈L,∃ t j,j<6/\v=vrB t j)/\L.Pairwise (fun a b=>a.t<b.t)
theorem qdo : ∀ {L:List Vr},L.Pairwise (fun a b=>a.t<b.t) -> ∀ v∈L,v.t<=lastT L
 | [],_,v,h=>by simp at h
 | [a],_,v,h=>by simp at h; subst h; simp[lastT]
 | a::b::L,hp,v,h=>by
  have e:lastT (a::b::L)=lastT (b::L):=rfl
  rw[e]
  obtain⟨h1,h2⟩:=List.pairwise_cons.1 hp
  rcases List.mem_cons.1 h with rfl | h
  ·have:=h1 b (by simp)
   have:=qdo h2 b (by simp)
   omega
  ·exact qdo h2 v h
theorem qln {L:List Vr} (h:OkB L) (t:Int) {j:Nat} (hj:j<10):OkB (qif L t j):=by
 unfold qif
 split
 ·exact h
 ·split
  ·exact h
  ·rename_i ht
   split
   ·rename_i he
    refine⟨fun v hv=>?_,List.pairwise_append.2 ⟨h.2,by simp,fun a ha b hb=>?_⟩⟩
    ·rcases List.mem_append.1 hv with hv | hv
     ·exact h.1 v hv
     ·simp at hv
      exact⟨t,j,qjk j hj he,hv⟩
    ·simp at hb
     subst hb
     have:=qdo h.2 a ha
     show a.t<t
     omega
   ·exact h
theorem qlo {j0:Nat} (h0:j0<6) {xs:List Int} (hx : ∀ x∈xs,I64 x) : ∀ i,OkB (bkL j0 xs i)
 | 0=>⟨fun v hv=>by simp[bkL] at hv; exact⟨0,j0,h0,hv⟩,by simp[bkL]⟩
 | i+1=>qln (qlo h0 hx i) _ (qi7 (qeq hx i))
theorem qie (tick:Int) : ∀ {L:List Vr},L.Pairwise (fun a b=>a.t<b.t) -> ∃ r,r<=L.length/\(∀ m (h:m<L.length),m<r->L[m].t<=tick)/\(∀ m (h:m<L.length),r<=m->tick<L[m].t)
 | [],_=>⟨0,by simp,fun m h=>by simp at h,fun m h=>by simp at h⟩
 | a::L,hp=>by
  obtain⟨h1,h2⟩:=List.pairwise_cons.1 hp
  by_cases ha:a.t<=tick
  ·obtain⟨r,k1,k2,k3⟩:=qie tick h2
   refine⟨r+1,by simp; omega,fun m h hm=>?_,fun m h hm=>?_⟩
   ·cases m with
    | zero=>exact ha
    | succ m=>exact k2 m (by simpa using h) (by omega)
   ·cases m with
    | zero=>omega
    | succ m=>exact k3 m (by simpa using h) (by omega)
  ·refine⟨0,by omega,fun m h hm=>by omega,fun m h hm=>?_⟩
   cases m with
   | zero=>show tick<a.t; omega
   | succ m=>
    have hm':m<L.length:=by simpa using h
    have:=h1 L[m] (List.getElem_mem hm')
    show tick<L[m].t
    omega
end Go.Pm
end SZq
section SZr
namespace Go.Pm
open F
set_option maxHeartbeats 4000000
def yB (L:List Vr):Int:=qeW (qeW 17196531580303950166 4) (IntKind.u64.wrap ((2*L.length:Nat):Int))
def rootI (L:List Vr):Int:=sumI (yB L) (wdB hB L)
section
variable {prog:Nat->Option PFun} (hH : ∀ k pf,tH k=some pf->prog k=some pf)
include hH
theorem qjO (h343:prog 343=some F343) (h353:prog 353=some F353) {L:List Vr} (h:OkB L) (h0:0<L.length) (hl:L.length<=1000):Z prog (.call 343 [.ptr 0 0] (qas L))=some (.ret (.dat (.lit (.int .u64 (rootI L)))) (qas L)):=
 qkZ hH h343 h0 hl (fun i hi=>by obtain⟨t,j,hj,e⟩:=h.1 L[i] (List.getElem_mem hi); rw[e]; exact qiQ hH h353 t hj) rfl
end
def qjd (v:Vr):V := .dat (.agg [v.c,.lit (.int .i64 v.a),.lit (.int .i64 v.b),.lit (.int .i64 v.e)])
def ForceAt (L:List Vr) (tick:Int) (k:Nat):Prop := ∃ r,r<=L.length/\(∀ m (h:m<L.length),m<r->L[m].t<=tick)/\(∀ m (h:m<L.length),r<=m->tick<L[m].t)/\k=r-1
theorem qgP {L:List Vr} (h:OkB L) (tick:Int) : ∃ k,ForceAt L tick k:=by
 obtain⟨r,h1,h2,h3⟩:=qie tick h.2
 exact⟨r-1,r,h1,h2,h3,rfl⟩
theorem qgQ {L:List Vr} {tick:Int} {k:Nat} (h0:0<L.length) (h:ForceAt L tick k):k<L.length:=by
 obtain⟨r,h1,_,_,e⟩:=h
 omega
theorem qdv {L:List Vr} {t u:Int} {k q:Nat} (h:t<=u) (hk:ForceAt L t k) (hq:ForceAt L u q):k<=q:=by
 obtain⟨r,h1,h2,h3,e⟩:=hk
 obtain⟨s,g1,g2,g3,f⟩:=hq
 rcases Nat.lt_or_ge s r with hsr | hsr
 ·have a:=h2 s (by omega) hsr
  have b:=g3 s (by omega) (by omega)
  omega
 ·omega
theorem qh0 {L:List Vr} {v:Vr} {tick:Int} {k q:Nat} (ht:tick<v.t) (hk:ForceAt L tick k) (hq:ForceAt (L++[v]) tick q):k=q:=by
 obtain⟨r,h1,h2,h3,e⟩:=hk
 obtain⟨s,g1,g2,g3,f⟩:=hq
 have hs:s<=L.length:=by
  rcases Nat.lt_or_ge L.length s with h | h
  ·have:=g2 L.length (by simp) h
   simp at this
   omega
  ·exact h
 rcases Nat.lt_trichotomy r s with h | h | h
 ·have a:=h3 r (by omega) (by omega)
  have b:=g2 r (by simp; omega) h
  rw[List.getElem_append_left (by omega)] at b
  omega
 ·omega
 ·have a:=h2 s (by omega) h
  have b:=g3 s (by simp; omega) (by omega)
  rw[List.getElem_append_left (by omega)] at b
  omega
section
variable {prog:Nat->Option PFun}
theorem qla (h23:prog 323=some F323) (h29:prog 329=some F329) (h30:prog 330=some F330) (h331:prog 331=some F331) {L:List Vr} (h:OkB L) (h0:0<L.length) (hl:L.length<=1000) {tick:Int} {k:Nat} (hk:ForceAt L tick k) (hkl:k<L.length) :
  Z prog (.call 323 [.ptr 0 0,.int tick] (qas L))=some (.ret (.tup [.int k,qjd L[k]]) (qas L)):=by
 obtain⟨r,h1,h2,h3,e⟩:=hk
 refine qmo h29 h30 h23 hl h0 h1 h2 h3 e hkl ?_
 obtain⟨t,j,hj,ev⟩:=h.1 L[k] (List.getElem_mem hkl)
 obtain⟨n,hn,hln⟩:=qfu j hj
 rw[ev]
 exact qjp h331 hn hln
theorem qjP (h346:prog 346=some F346) {L:List Vr} (h:OkB L) {k:Nat} (hkl:k<L.length):Z prog (.call 346 [qjd L[k],qjd L[k]] [])=some (.ret (.bool true) []):=by
 obtain⟨t,j,hj,ev⟩:=h.1 L[k] (List.getElem_mem hkl)
 obtain⟨n,hn,hln⟩:=qfu j hj
 rw[ev]
 exact qks h346 hn hln
end
end Go.Pm
end SZr
section SZt
namespace Go.Pm
open F
set_option maxHeartbeats 4000000
section
variable {prog:Nat->Option PFun}
theorem qld {w:List Int} (hw:w.length<=1000) : ∀ (m i:Nat),i+m=w.length ->
  Z prog (.loop 0 F58l0 [(0,.dat (.sl (intsC w) w.length false)),(1,.dat (.sl (intsC w) w.length false)),(5,.int i)] [])=some (.out (.exit 0) [(0,.dat (.sl (intsC w) w.length false)),(1,.dat (.sl (intsC w) w.length false)),(5,.int w.length),(14,.bool false)] [])
 | 0,i,hi=>by
  obtain rfl:i=w.length:=by omega
  rw[qag]
  simp[qah,qf6,V.len,List.range_succ]
 | m+1,i,hi=>by
  have hi':i<w.length:=by omega
  have hlt:(i:Int)<w.length:=by omega
  have hc:qae (intsC w) i 1=some [.lit (.int .i64 w[i])]:=by
   unfold qae intsC
   rw[<- List.map_drop,List.drop_eq_getElem_cons hi',List.map_cons]
   rfl
  have w1:IntKind.i64.wrap ((i:Int)+1)=((i+1:Nat):Int):=by rw[qau _ (by omega)]; omega
  rw[<- qld hw m (i+1) (by omega)]
  generalize w[i]=x at *
  generalize ((i+1:Nat):Int)=i1 at *
  generalize intsC w=C at *
  generalize w.length=n at *
  conv=>lhs; rw[qag]
  simp[qah,qf6,V.len,qaf,hlt,hi',hc,w1,List.range_succ]
theorem ql3 (h58:prog 58=some F58) (w:List Int) (hw:w.length<=1000):Z prog (.call 58 [.dat (.sl (intsC w) w.length false),.dat (.sl (intsC w) w.length false)] [])=some (.ret (.bool true) []):=by
 have e:=qld (prog:=prog) hw w.length 0 (by omega)
 rw[show ((0:Nat):Int)=0 from rfl] at e
 refine qaX h58 rfl ?_
 generalize intsC w=C at *
 generalize w.length=n at *
 simp[F58,V.len,e,List.range_succ]
end
end Go.Pm
end SZt
section SZw
namespace Go.Pm
open F
set_option maxHeartbeats 4000000
theorem qlK:Z tB (.call 322 [.str (srcB 0++⟨#[125]⟩)] [])=some (.ret (.tup [qfB 6,.int 12]) []):=qdT (n:=3000) (by kernel_rfl)
theorem qlL:Z tB (.call 322 [.str (srcB 1++⟨#[125]⟩)] [])=some (.ret (.tup [qfB 6,.int 12]) []):=qdT (n:=3000) (by kernel_rfl)
theorem qlM:Z tB (.call 322 [.str (srcB 2++⟨#[125]⟩)] [])=some (.ret (.tup [qfB 6,.int 12]) []):=qdT (n:=3000) (by kernel_rfl)
theorem qlN:Z tB (.call 322 [.str (srcB 3++⟨#[125]⟩)] [])=some (.ret (.tup [qfB 6,.int 12]) []):=qdT (n:=3000) (by kernel_rfl)
theorem qlO:Z tB (.call 322 [.str (srcB 4++⟨#[125]⟩)] [])=some (.ret (.tup [qfB 6,.int 12]) []):=qdT (n:=3000) (by kernel_rfl)
theorem qlP:Z tB (.call 322 [.str (srcB 5++⟨#[125]⟩)] [])=some (.ret (.tup [qfB 6,.int 12]) []):=qdT (n:=3000) (by kernel_rfl)
theorem qjs : ∀ j,j<6->Z tB (.call 322 [.str (srcB j++⟨#[125]⟩)] [])=some (.ret (.tup [qfB 6,.int 12]) [])
 | 0,_=>qlK
 | 1,_=>qlL
 | 2,_=>qlM
 | 3,_=>qlN
 | 4,_=>qlO
 | 5,_=>qlP
 | _+6,h=>by omega
theorem qlQ {j:Nat} (hj:j<6):qfK j=0:=by
 obtain rfl | rfl | rfl | rfl | rfl | rfl:j=0\/j=1\/j=2\/j=3\/j=4\/j=5:=by omega
 all_goals rfl
section
variable {prog:Nat->Option PFun} (h7 : ∀ k pf,tB k=some pf->prog k=some pf)
include h7
theorem qkH {L:List Vr} (h0:0<L.length) (t:Int) {j:Nat} (hj:j<6) {s:ByteArray} (hs:s=srcB j\/s=srcB j++⟨#[125]⟩) :
  ∃ e L',Z prog (.call 318 [.ptr 0 0,.int t,.str s] (qas L))=some (.ret (.int e) (qas L'))/\((e=0/\L'=L++[vrB t j]/\lastT L<t)\/(e≠0/\L'=L)):=by
 rcases hs with rfl | rfl
 ·refine⟨_,_,qjl h7 h0 t (by omega),?_⟩
  unfold addE qif
  by_cases h8:8<L.length
  ·rw[if_pos h8,if_pos h8]
   exact .inr ⟨by omega,rfl⟩
  ·rw[if_neg h8,if_neg h8]
   by_cases ht:t<=lastT L
   ·rw[if_pos ht,if_pos ht]
    exact .inr ⟨by omega,rfl⟩
   ·rw[if_neg ht,if_neg ht,qlQ hj,if_pos rfl]
    exact .inl ⟨rfl,rfl,by omega⟩
 ·by_cases h8:8<L.length
  ·exact⟨2,L,qfE h7 h8 t _,.inr ⟨by omega,rfl⟩⟩
  ·by_cases ht:t<=lastT L
   ·exact⟨5,L,qfF h7 h0 (by omega) ht _,.inr ⟨by omega,rfl⟩⟩
   ·exact⟨12,L,qhz h7 h0 (by omega) (by omega) (by omega) ⟨_,_,_,_,rfl,qgq _,qhZ _,rfl,rfl,rfl,rfl,rfl,rfl⟩ (qhC h7 (qjs j hj)),.inr ⟨by omega,rfl⟩⟩
end
end Go.Pm
end SZw
