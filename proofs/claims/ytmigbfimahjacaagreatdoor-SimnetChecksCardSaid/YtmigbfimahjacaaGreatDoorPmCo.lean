/- Chapter 35: inRange of a script, and the number of its parts. -/
import Derived.Test.YtmigbfimahjacaaGreatDoorPmAL
import Derived.Test.YtmigbfimahjacaaGreatDoorPmFSb
set_option linter.unusedSimpArgs false
set_option linter.unusedVariables false
set_option maxHeartbeats 4000000
namespace Go.Pm
section
open F
set_option maxRecDepth 100000
attribute [local simp] V.len qai
theorem qen{α : Type}{ls:List α}{k:Nat}{x : α}(hx:ls[k]?=some x):ls.drop k=x::ls.drop (k+1):=by
 rw[W5 (Wb.1 hx).1]
 congr 1
 exact (Wb.1 hx).2
section
variable{cs:List V}{n:Nat}{d:D}
theorem qs4 (hd:Dats cs) (hn:qad cs 0 1=some [.int n]) {ls:List Cmd} (hr:RowD 5 d (ls.map Cmd.c)) (hl:ls.length<=1000) : ∀ j k:Nat,k+j=ls.length ->
  ((ls.drop k).all (Cmd.ok n)=true/\Z prX (.loop 0 F374l1 [(1,.ptr 0 0),(4,.fn 405 [] [.ptr 0 0]),(55,.dat d),(56,.int ls.length),(57,.int k)] [.cells cs]) =
    some (.out (.exit 2) [(1,.ptr 0 0),(4,.fn 405 [] [.ptr 0 0]),(55,.dat d),(56,.int ls.length),(57,.int ls.length),(58,.bool false)] [.cells cs])) \/
  ((ls.drop k).all (Cmd.ok n)=false /\ ∃ q,Dats q/\Z prX (.loop 0 F374l1 [(1,.ptr 0 0),(4,.fn 405 [] [.ptr 0 0]),(55,.dat d),(56,.int ls.length),(57,.int k)] [.cells cs])=some (.out .ret [(2,.bool false)] [.cells cs,.cells q]))
 |0,k,e=>by
  obtain rfl:k=ls.length:=by omega
  left
  refine⟨by simp,?_⟩
  rw[qap]
  simp[qao,qdP,hd.l,hd.r,Wa]
 |j+1,k,e=>by
  have hk:k<ls.length:=by omega
  obtain⟨x,hx⟩ : ∃ x,ls[k]?=some x:=⟨ls[k],by simp[hk]⟩
  have hdr:=qen hx
  have c0:=hr.at (i:=k) (by simpa using hk)
  have c1:=hr.cut (i:=k) (x:=x.c) (by simp[hx])
  have h2:(k:Int)<ls.length:=by omega
  have w1:IntKind.i64.wrap ((k:Int)+1)=((k+1:Nat):Int):=by rw[qay _ (by omega)]; omega
  have p1:=qm6 hd hn x.pl
  have p2:=qtt x.dx x.dy x.ac
  rw[hdr]
  by_cases hx0:x.ok n=true
  ·have ih:=qs4 hd hn hr hl j (k+1) (by omega)
   have hx1:=hx0
   simp only[Cmd.ok,Wh,decide_eq_true_eq] at hx1
   obtain⟨e1,e2,e3⟩:=hx1
   rw[e2] at p1; rw[e3] at p2
   have n1 : ¬ x.at_<0:=by omega
   rw[WQ,hx0,Bool.true_and]
   refine (?_:Z prX _=Z prX _) ▸ ih
   clear ih hdr
   simp only[Cmd.c,di] at *
   generalize (List.map _ ls).flatten=X at *
   generalize ls.length=m at *
   generalize x.at_=xa at *
   generalize x.pl=xp at *
   generalize x.dx=xx at *
   generalize x.dy=xy at *
   generalize x.ac=xc at *
   generalize k+1=k' at *
   symm
   conv=>lhs; rw[qap]
   simp -implicitDefEqProofs [qao,qdP,hd.l,hd.r,Wa,h2,c0,c1,w1,p1,p2,n1,-qai]
   exact qaB (by simp[hd.l,hd.r,Wa])
  ·right
   have hx2:x.ok n=false:=by simpa using hx0
   refine⟨by rw[WQ,hx2]; rfl,[.int x.at_,.int x.pl,.int x.dx,.int x.dy,.int x.ac],qas (x.c),?_⟩
   have hx1:x.at_<0\/qfB n x.pl=false\/qg4 x.dx x.dy x.ac=false:=by
    by_cases q5:qfB n x.pl=false
    ·simp[q5]
    by_cases q6:qg4 x.dx x.dy x.ac=false
    ·simp[q6]
    simp only[Bool.not_eq_false] at q5 q6
    simp only[Cmd.ok,q5,q6,Bool.and_self,Bool.and_true,decide_eq_true_eq] at hx0
    omega
   clear hdr
   simp only[Cmd.c,di] at *
   generalize (List.map _ ls).flatten=X at *
   generalize ls.length=m at *
   generalize x.at_=xa at *
   generalize x.pl=xp at *
   generalize x.dx=xx at *
   generalize x.dy=xy at *
   generalize x.ac=xc at *
   rw[qap]
   by_cases n1:xa<0
   ·simp -implicitDefEqProofs [qao,qdP,hd.l,hd.r,Wa,h2,c0,c1,n1,-qai]
   by_cases n5:qfB n xp=false
   ·rw[n5] at p1
    simp -implicitDefEqProofs [qao,qdP,hd.l,hd.r,Wa,h2,c0,c1,n1,p1,-qai]
   ·have n6:qg4 xx xy xc=false:=by simp[n1,n5] at hx1; exact hx1
    simp only[Bool.not_eq_false] at n5
    rw[n5] at p1; rw[n6] at p2
    simp -implicitDefEqProofs [qao,qdP,hd.l,hd.r,Wa,h2,c0,c1,n1,p1,p2,-qai]
def qbm(t:Int):List D:=[di t]
theorem qqW (hd:Dats cs) {ls:List Int} (hr:RowD 1 d (ls.map qbm)) (hl:ls.length<=1000) : ∀ j k:Nat,k+j=ls.length ->
  Z prX (.loop 0 F374l2 [(1,.ptr 0 0),(4,.fn 405 [] [.ptr 0 0]),(79,.dat d),(80,.int ls.length),(81,.int k)] [.cells cs]) =
   if (ls.drop k).all (fun t=>decide (0<=t))=true then some (.out (.exit 4) [(1,.ptr 0 0),(4,.fn 405 [] [.ptr 0 0]),(79,.dat d),(80,.int ls.length),(81,.int ls.length),(82,.bool false)] [.cells cs]) else some (.out .ret [(2,.bool false)] [.cells cs])
 |0,k,e=>by
  obtain rfl:k=ls.length:=by omega
  rw[if_pos (by simp),qap]
  simp[qao,qgB,hd.l,hd.r,Wa]
 |j+1,k,e=>by
  have hk:k<ls.length:=by omega
  obtain⟨x,hx⟩ : ∃ x,ls[k]?=some x:=⟨ls[k],by simp[hk]⟩
  have hdr:=qen hx
  have c0:=hr.at (i:=k) (by simpa using hk)
  have c1:=hr.cut (i:=k) (x:=qbm x) (by simp[hx])
  rw[Nat.mul_one] at c0 c1
  have h2:(k:Int)<ls.length:=by omega
  have w1:IntKind.i64.wrap ((k:Int)+1)=((k+1:Nat):Int):=by rw[qay _ (by omega)]; omega
  rw[hdr]
  by_cases hx0:x<0
  ·have : ¬ ((x::ls.drop (k+1)).all fun t=>decide (0<=t))=true:=by simp; intro h; omega
   rw[if_neg this]
   clear hdr this
   simp only[qbm,di] at *
   generalize (List.map _ ls).flatten=X at *
   generalize ls.length=m at *
   rw[qap]
   simp -implicitDefEqProofs [qao,qgB,hd.l,hd.r,Wa,h2,c0,c1,hx0,-qai]
  ·have ih:=qqW hd hr hl j (k+1) (by omega)
   have:((x::ls.drop (k+1)).all fun t=>decide (0<=t))=(ls.drop (k+1)).all fun t=>decide (0<=t):=by
    rw[WQ,decide_eq_true (by omega),Bool.true_and]
   rw[this,<- ih]
   clear ih hdr this
   simp only[qbm,di] at *
   generalize (List.map _ ls).flatten=X at *
   generalize ls.length=m at *
   generalize k+1=k' at *
   conv=>lhs; rw[qap]
   simp -implicitDefEqProofs [qao,qgB,hd.l,hd.r,Wa,h2,c0,c1,w1,hx0,-qai]
theorem qqX (hd:Dats cs) (hn:qad cs 0 1=some [.int n]) {ls:List Int} (hr:RowD 1 d (ls.map qbm)) (hl:ls.length<=1000) : ∀ j k:Nat,k+j=ls.length ->
  Z prX (.loop 0 F374l3 [(1,.ptr 0 0),(4,.fn 405 [] [.ptr 0 0]),(89,.dat d),(90,.int ls.length),(91,.int k)] [.cells cs]) =
   if (ls.drop k).all (qfB n)=true then some (.out (.exit 6) [(1,.ptr 0 0),(4,.fn 405 [] [.ptr 0 0]),(89,.dat d),(90,.int ls.length),(91,.int ls.length),(92,.bool false)] [.cells cs]) else some (.out .ret [(2,.bool false)] [.cells cs])
 |0,k,e=>by
  obtain rfl:k=ls.length:=by omega
  rw[if_pos (by simp),qap]
  simp[qao,qgC,hd.l,hd.r,Wa]
 |j+1,k,e=>by
  have hk:k<ls.length:=by omega
  obtain⟨x,hx⟩ : ∃ x,ls[k]?=some x:=⟨ls[k],by simp[hk]⟩
  have hdr:=qen hx
  have c0:=hr.at (i:=k) (by simpa using hk)
  have c1:=hr.cut (i:=k) (x:=qbm x) (by simp[hx])
  rw[Nat.mul_one] at c0 c1
  have h2:(k:Int)<ls.length:=by omega
  have w1:IntKind.i64.wrap ((k:Int)+1)=((k+1:Nat):Int):=by rw[qay _ (by omega)]; omega
  have p1:=qm6 hd hn x
  rw[hdr]
  cases hx0:qfB n x with
  |false=>
   have : ¬ ((x::ls.drop (k+1)).all (qfB n))=true:=by rw[WQ,hx0]; simp
   rw[if_neg this]
   rw[hx0] at p1
   clear hdr this
   simp only[qbm,di] at *
   generalize (List.map _ ls).flatten=X at *
   generalize ls.length=m at *
   rw[qap]
   simp -implicitDefEqProofs [qao,qgC,hd.l,hd.r,Wa,h2,c0,c1,p1,-qai]
  |true=>
   have ih:=qqX hd hn hr hl j (k+1) (by omega)
   rw[WQ,hx0,Bool.true_and,<- ih]
   rw[hx0] at p1
   clear ih hdr
   simp only[qbm,di] at *
   generalize (List.map _ ls).flatten=X at *
   generalize ls.length=m at *
   generalize k+1=k' at *
   conv=>lhs; rw[qap]
   simp -implicitDefEqProofs [qao,qgC,hd.l,hd.r,Wa,h2,c0,c1,w1,p1,-qai]
end
structure Scr where
 S:List D
 n:Nat
 src:List (List D)
 pat:List Int
 lnk:List Lnk
 com:List Cmd
 cra:List Int
 wat:List Int
 wait:Int
structure Rws where
 src:D
 pat:D
 lnk:D
 com:D
 cra:D
 wat:D
structure Scr.Is(s:Scr)(r:Rws):Prop where
 src:RowD 1 r.src s.src
 pat:RowD 1 r.pat (s.pat.map qbm)
 lnk:RowD 4 r.lnk (s.lnk.map Lnk.c)
 com:RowD 5 r.com (s.com.map Cmd.c)
 cra:RowD 1 r.cra (s.cra.map qbm)
 wat:RowD 1 r.wat (s.wat.map qbm)
 l1:s.src.length<=100
 l2:s.pat.length<=100
 l3:s.lnk.length<=100
 l4:s.com.length<=100
 l5:s.cra.length<=100
 l6:s.wat.length<=100
 S16:s.S.length=16
 S0:qad s.S 0 1=some [di s.n]
 S1 : ∀ d∈s.S,V.one (.dat d)=true
def Scr.c(s:Scr)(r:Rws):List D:=s.S++[r.src,r.pat,r.lnk,r.com,r.cra,r.wat,di s.wait]
def Scr.rng(s:Scr):Bool:=s.lnk.all Lnk.ok&&(s.com.all (Cmd.ok s.n)&&(s.cra.all (fun t=>decide (0<=t))&&(s.wat.all (qfB s.n)&&decide (0<=s.wait/\s.wait<=8))))
def Scr.fits(s:Scr):Bool:=decide (s.src.length=s.pat.length+1/\s.lnk.length=s.n)
theorem qcv{α β : Type}(f : α -> β){cs:List α}{o n:Nat}{r:List α}(h:qad cs o n=some r):qad (cs.map f) o n=some (r.map f):=by
 unfold qad at h ⊢
 simp only at h ⊢
 split at h
 ·rename_i hl
  cases h
  rw[if_pos (by rw[<- List.map_drop,<- List.map_take,Wf]; exact hl),<- List.map_drop,<- List.map_take]
 ·cases h
theorem qbw{α : Type}{a b:List α}{o n:Nat}(h:o+n<=a.length):qad (a++b) o n=qad a o n:=by
 unfold qad
 rw[List.drop_append_of_le_length (by omega),List.take_append_of_le_length (by simp; omega)]
theorem qqY{α : Type}{a b:List α}{o n:Nat}(h:a.length<=o):qad (a++b) o n=qad b (o-a.length) n:=by
 unfold qad
 rw[List.drop_append,Yu h,Wk]
structure Scr.Rd(s:Scr)(r:Rws)(cs:List V):Prop where
 d:Dats cs
 o : ∀ x∈cs,V.one x=true
 len:cs.length=23
 b0:qad cs 0 1=some [.int s.n]
 b16:qad cs 16 1=some [.dat r.src]
 b17:qad cs 17 1=some [.dat r.pat]
 b18:qad cs 18 1=some [.dat r.lnk]
 b19:qad cs 19 1=some [.dat r.com]
 b20:qad cs 20 1=some [.dat r.cra]
 b21:qad cs 21 1=some [.dat r.wat]
 b22:qad cs 22 1=some [.int s.wait]
theorem Scr.Is.rd{s:Scr}{r:Rws}(h:s.Is r):s.Rd r ((s.c r).map .dat):=by
 have h16:=h.S16
 refine⟨qas _,fun x hx=>?_,by simp[Scr.c,h16],?_,?_,?_,?_,?_,?_,?_,?_⟩
 ·obtain⟨d,hd,rfl⟩:=Wm.1 hx
  rcases We.1 hd with hd|hd
  ·exact h.S1 d hd
  ·simp only[Wq,WD,or_false] at hd
   rcases hd with rfl|rfl|rfl|rfl|rfl|rfl|rfl
   ·exact h.src.one
   ·exact h.pat.one
   ·exact h.lnk.one
   ·exact h.com.one
   ·exact h.cra.one
   ·exact h.wat.one
   ·rfl
 ·exact qcv V.dat (r:=[di s.n]) (by rw[Scr.c,qbw (by omega)]; exact h.S0)
 all_goals exact qcv V.dat (r:=[_]) (by rw[Scr.c,qqY (by omega),h16]; rfl)
theorem qqZ{s:Scr}{r:Rws}(h:s.Is r):Z prX (.call 374 [.dat (.agg (s.c r))] [])=some (.ret (.bool s.rng) []):=by
 have hrd:=h.rd
 obtain⟨h1,h2,h3,h4,h5,h6,l1,l2,l3,l4,l5,l6,_,_,_⟩:=h
 generalize hcs:(s.c r).map V.dat=cs at hrd
 obtain⟨hd,ho,hlen,b0,b16,b17,b18,b19,b20,b21,b22⟩:=hrd
 have ho':=eq_true ho
 have a1:=qpd hd h3 (by omega) s.lnk.length 0 (by omega)
 have a2:=qs4 hd b0 h4 (by omega) s.com.length 0 (by omega)
 have a3:=qqW hd h5 (by omega) s.cra.length 0 (by omega)
 have a4:=qqX hd b0 h6 (by omega) s.wat.length 0 (by omega)
 rw[WE] at a1 a2 a3 a4
 simp only[WI,Int.ofNat_zero] at a1 a2 a3 a4
 have g1:=h3.len
 have g2:=h4.len
 have g3:=h5.len
 have g4:=h6.len
 rw[Wf] at g1 g2 g3 g4
 refine qaD (pf:=F374) rfl rfl ?_
 unfold Scr.rng
 generalize s.c r=C at *
 generalize s.lnk.length=m1 at *
 generalize s.com.length=m2 at *
 generalize s.cra.length=m3 at *
 generalize s.wat.length=m4 at *
 rcases a1 with ⟨q1,a1⟩|⟨q1,z1,y1,a1⟩
 ·rw[q1,Bool.true_and]
  rcases a2 with ⟨q2,a2⟩|⟨q2,z2,y2,a2⟩
  ·rw[q2,Bool.true_and]
   cases q3:s.cra.all (fun t=>decide (0<=t)) with
   |false=>
    rw[if_neg (by rw[q3]; simp)] at a3
    simp -implicitDefEqProofs [F374,hcs,ho',b18,b19,b20,b21,b22,g1,g2,g3,g4,a1,a2,a3,hd.l,hd.r,Wa,-qai,-V.len]
   |true=>
    rw[if_pos q3] at a3
    rw[Bool.true_and]
    cases q4:s.wat.all (qfB s.n) with
    |false=>
     rw[if_neg (by rw[q4]; simp)] at a4
     simp -implicitDefEqProofs [F374,hcs,ho',b18,b19,b20,b21,b22,g1,g2,g3,g4,a1,a2,a3,a4,hd.l,hd.r,Wa,-qai,-V.len]
    |true=>
     rw[if_pos q4] at a4
     by_cases w1:0<=s.wait
     ·by_cases w2:s.wait<=8
      ·simp -implicitDefEqProofs [F374,hcs,ho',b18,b19,b20,b21,b22,g1,g2,g3,g4,a1,a2,a3,a4,hd.l,hd.r,Wa,w1,w2,-qai,-V.len]
      ·simp -implicitDefEqProofs [F374,hcs,ho',b18,b19,b20,b21,b22,g1,g2,g3,g4,a1,a2,a3,a4,hd.l,hd.r,Wa,w1,w2,-qai,-V.len]
     ·simp -implicitDefEqProofs [F374,hcs,ho',b18,b19,b20,b21,b22,g1,g2,g3,g4,a1,a2,a3,a4,hd.l,hd.r,Wa,w1,-qai,-V.len]
  ·rw[q2]
   simp -implicitDefEqProofs [F374,hcs,ho',b18,b19,b20,b21,b22,g1,g2,g3,g4,a1,a2,hd.l,hd.r,y2.l,y2.r,Wa,-qai,-V.len]
 ·rw[q1]
  simp -implicitDefEqProofs [F374,hcs,ho',b18,b19,b20,b21,b22,g1,g2,g3,g4,a1,hd.l,hd.r,y1.l,y1.r,Wa,-qai,-V.len]
theorem qs5{s:Scr}{r:Rws}(h:s.Is r):Z prX (.call 373 [.dat (.agg (s.c r))] [])=some (.ret (.bool s.fits) []):=by
 have hrd:=h.rd
 obtain⟨h1,h2,h3,h4,h5,h6,l1,l2,l3,l4,l5,l6,_,_,_⟩:=h
 generalize hcs:(s.c r).map V.dat=cs at hrd
 obtain⟨hd,ho,hlen,b0,b16,b17,b18,b19,b20,b21,b22⟩:=hrd
 have ho':=eq_true ho
 have g1:=h1.len
 have g2:=h2.len
 have g3:=h3.len
 rw[Wf] at g2 g3
 have w1:IntKind.i64.wrap ((s.pat.length:Int)+1)=((s.pat.length+1:Nat):Int):=by rw[qay _ (by omega)]; omega
 refine qaD (pf:=F373) rfl rfl ?_
 unfold Scr.fits
 generalize s.c r=C at *
 by_cases e1:s.src.length=s.pat.length+1
 ·rw[e1] at g1
  by_cases e2:s.lnk.length=s.n
  ·rw[e2] at g3
   generalize s.pat.length+1=m at *
   simp -implicitDefEqProofs [F373,hcs,ho',b0,b16,b17,b18,g1,g2,g3,w1,e1,e2,hd.l,hd.r,Wa,-qai,-V.len]
  ·have e2' : ¬ (s.lnk.length:Int)=s.n:=by omega
   generalize s.pat.length+1=m at *
   simp -implicitDefEqProofs [F373,hcs,ho',b0,b16,b17,b18,g1,g2,g3,w1,e1,e2,e2',hd.l,hd.r,Wa,-qai,-V.len]
 ·have e1' : ¬ (s.src.length:Int)=((s.pat.length+1:Nat):Int):=by omega
  generalize s.pat.length+1=m at *
  simp -implicitDefEqProofs [F373,hcs,ho',b0,b16,b17,b18,g1,g2,g3,w1,e1',e1,hd.l,hd.r,Wa,-qai,-V.len]
end
section
open F
set_option maxRecDepth 100000
attribute [local simp] V.len qai
abbrev qcO:D := .lit (.slice none 0 0)
section
variable{e1 e2 e3 e4 e5 e6:D}{w:Int}
def cS(s:Sup)(f:Flg)(e1 e2 e3 e4 e5 e6:D)(w:Int)(k:Nat):S:=
 [.cells [.int s.n,.own 2 s.bs.length 9,.int (-12000),.int (-9000),.int 12000,.int 9000,.dat (.sl roomC 3 f.r),.dat (.sl (doorC s.dr) (doorN s.dr) f.d),.int s.fog,.int 0,.int s.gy,.int s.push,.int s.drag,.int s.rest,.int s.rnd,.int 20,.dat e1,.dat e2,.dat e3,.dat e4,.dat e5,.dat e6,.int w],
  .cells [.int 0,qax,.int 0,.int 0,.int 0,.int 0,qax,qax,.int 0,.int 0,.int 0,.int 0,.int 0,.int 0,.int 0,.int 0,qax,qax,qax,qax,qax,qax,.int 0],.vec (vecAt s.bs f.p k)]
theorem qnI {s:Sup} {f:Flg} (hl:s.bs.length<=5) : ∀ j k:Nat,k+j=s.bs.length ->
  Z prX (.loop 0 F375l0 [(1,.ptr 0 0),(2,.ptr 1 0),(13,.int s.bs.length),(14,.int k)] (cS s f e1 e2 e3 e4 e5 e6 w k))=some (.out (.exit 0) [(1,.ptr 0 0),(2,.ptr 1 0),(13,.int s.bs.length),(14,.int s.bs.length),(15,.bool false)] (cS s f e1 e2 e3 e4 e5 e6 w s.bs.length))
 |0,k,e=>by
  obtain rfl:k=s.bs.length:=by omega
  have hd:=qcc s.bs f.p s.bs.length
  simp only[cS]
  generalize vecAt s.bs f.p s.bs.length=X at *
  rw[qap]
  simp[qao,qiY,hd.l,hd.r,Wa]
 |j+1,k,e=>by
  have ih:=qnI (f:=f) hl j (k+1) (by omega)
  have hk:k<s.bs.length:=by omega
  obtain⟨x,hx⟩ : ∃ x,s.bs[k]?=some x:=⟨s.bs[k],by simp[hk]⟩
  obtain⟨c1,c2⟩:=qjw (fp:=f.p) hx
  have hX:=qlU (fp:=f.p) (show k<=s.bs.length by omega)
  have hd:=qcc s.bs f.p k
  have hd2:=qcc s.bs f.p (k+1)
  have z:=qs3 (t:=x.t) (q:=x.q) (f:=f.p)
  have p1:=qdx x.t x.q f.p
  have p2:=qdx x.t x.q false
  have p3:=qis x.t x.q false
  have h2:(k:Int)<s.bs.length:=by omega
  have h3:k*9+1+1<=s.bs.length*9:=by omega
  have w1:IntKind.i64.wrap ((k:Int)+1)=((k+1:Nat):Int):=by rw[qay _ (by omega)]; omega
  simp only[cS] at *
  generalize vecAt s.bs f.p k=X at *
  generalize vecAt s.bs f.p (k+1)=Y at *
  generalize vecAt s.bs f.p s.bs.length=W at *
  generalize s.bs.length=n at *
  generalize shP x.t x.q f.p=P at *
  generalize shP x.t x.q false=P' at *
  generalize k+1=k' at *
  rw[<- ih]
  conv=>lhs; rw[qap]
  simp -implicitDefEqProofs [qao,qiY,hd.l,hd.r,hd2.l,hd2.r,Wa,h2,hk,h3,hX,c1,c2,z,w1,p1,p2,p3]
end
def Scr.over(s:Scr)(u:Sup)(f:Flg):Prop:=u.ok/\s.S=u.c f/\s.n=u.n
theorem qso{s:Scr}{r:Rws}{u:Sup}{f:Flg}(h:s.Is r)(ho:s.over u f) : ∃ r',s.Is r'/\({ s with S:=u.c (Flg.cl u) }:Scr).Is r'/\Z prX (.call 375 [.dat (.agg (s.c r))] [])=some (.ret (.dat (.agg (({ s with S:=u.c (Flg.cl u) }:Scr).c r'))) []):=by
 obtain⟨hu,hS,hn⟩:=ho
 obtain⟨h1,h2,h3,h4,h5,h6,l1,l2,l3,l4,l5,l6,s16,s0,s1⟩:=h
 have rf : ∀ n b:Nat,n<=100->b<=100->qaA n b=true:=fun n b h1 h2=>by
  unfold qaA
  have:(2*n+192)*(b+1)<=(2*100+192)*(100+1):=Nat.mul_le_mul (by omega) (by omega)
  exact decide_eq_true (by omega)
 obtain⟨d1,k1,z1⟩:=h1.clone (k:=411) (b:=16) rfl (by omega) (rf _ _ l1 (by omega))
 obtain⟨d2,k2,z2⟩:=h2.clone (k:=412) (b:=8) rfl (by omega) (rf _ _ (by simpa using l2) (by omega))
 obtain⟨d3,k3,z3⟩:=h3.clone (k:=413) (b:=32) rfl (by omega) (rf _ _ (by simpa using l3) (by omega))
 obtain⟨d4,k4,z4⟩:=h4.clone (k:=414) (b:=40) rfl (by omega) (rf _ _ (by simpa using l4) (by omega))
 obtain⟨d5,k5,z5⟩:=h5.clone (k:=412) (b:=8) rfl (by omega) (rf _ _ (by simpa using l5) (by omega))
 obtain⟨d6,k6,z6⟩:=h6.clone (k:=412) (b:=8) rfl (by omega) (rf _ _ (by simpa using l6) (by omega))
 refine⟨⟨d1,d2,d3,d4,d5,d6⟩,⟨k1,k2,k3,k4,k5,k6,l1,l2,l3,l4,l5,l6,s16,s0,s1⟩,⟨k1,k2,k3,k4,k5,k6,l1,l2,l3,l4,l5,l6,rfl,by rw[hn]; rfl,fun d hd=>?_⟩,?_⟩
 ·simp only[Sup.c,Wq,WD,or_false] at hd
  rcases hd with rfl|rfl|rfl|rfl|rfl|rfl|rfl|rfl|rfl|rfl|rfl|rfl|rfl|rfl|rfl|rfl<;>rfl
 have hb1:1<=u.bs.length:=by have:=hu.n1; have:=hu.b1; omega
 have a1:=qqT (fp:=f.p) (fb:=f.b) hb1 hu.b3
 have a2:=qqU (f:=f.r)
 have a3:=qqV (f:=f.d) hu.dr
 obtain⟨r1,r2,r3,r4,r5,r6⟩:=r
 have l:=qnI (e1:=r1) (e2:=r2) (e3:=r3) (e4:=r4) (e5:=r5) (e6:=r6) (w:=s.wait) (f:=f) hu.b3 u.bs.length 0 (by omega)
 have hd:=qcc u.bs f.p u.bs.length
 have e0:=qqR u.bs f.p
 have en:=qqS u.bs f.p
 have ha:=qaL (u.bs.map (Bod.c · false)).flatten
 have hX:=qas (u.bs.map (Bod.c · f.p)).flatten
 have hl:=qem u.bs false
 have o1:=h1.one
 have o2:=h2.one
 have o3:=h3.one
 have o4:=h4.one
 have o5:=h5.one
 have o6:=h6.one
 have c1:=h1.cells
 have c2:=h2.cells
 have c3:=h3.cells
 have c4:=h4.cells
 have c5:=h5.cells
 have c6:=h6.cells
 have q1:=k1.one
 have q2:=k2.one
 have q3:=k3.one
 have q4:=k4.one
 have q5:=k5.one
 have q6:=k6.one
 have y1:=k1.cells
 have y2:=k2.cells
 have y3:=k3.cells
 have y4:=k4.cells
 have y5:=k5.cells
 have y6:=k6.cells
 simp only[Scr.c,hS]
 simp only at z1 z2 z3 z4 z5 z6 o1 o2 o3 o4 o5 o6 c1 c2 c3 c4 c5 c6
 simp only[cS] at l
 simp only[Sup.c,qb6,di,Flg.cl,Wu,Wk] at *
 rw[e0] at l
 rw[en] at l hd
 generalize (u.bs.map (Bod.c · f.p)).flatten=X at *
 generalize (u.bs.map (Bod.c · false)).flatten=X' at *
 generalize roomC=Y at *
 generalize doorC u.dr=W at *
 generalize doorN u.dr=dn at *
 generalize decide (u.dr=0)=b at *
 generalize u.bs.length=n at *
 simp only[WI,Int.ofNat_zero] at l
 clear h1 h2 h3 h4 h5 h6 k1 k2 k3 k4 k5 k6 hS s16 s0 s1 rf
 refine qaD (pf:=F375) rfl rfl ?_
 simp -implicitDefEqProofs [F375,a1,a2,a3,l,hd.l,hd.r,hX.l,hX.r,ha,hl,Wa,z1,z2,z3,z4,z5,z6,o1,o2,o3,o4,o5,o6,c1,c2,c3,c4,c5,c6,q1,q2,q3,q4,q5,q6,y1,y2,y3,y4,y5,y6]
end
section
open F
set_option maxRecDepth 100000
attribute [local simp] V.len qai
theorem qox{prog:Nat->Option PFun}(h17:prog 17=some F17){n m:Int}(h1:I64 n)(hm:1<=m):Z prog (.call 17 [.int n,.int m] [])=some (.ret (.int (around n m)) []):=by
 refine qaD h17 rfl ?_
 unfold around
 have hm0 : ¬ m=0:=by omega
 by_cases h:n<0
 ·have w1:IntKind.i64.wrap (n+1)=n+1:=qay _ (by unfold I64 at h1; omega)
  have w2:IntKind.i64.wrap (-(n+1)) = -(n+1):=qay _ (by unfold I64 at h1; omega)
  simp[F17,h,hm0,w1,w2]
 ·simp[F17,h,hm0]
theorem qia{n m:Int}(h1:I64 n)(hm:1<=m):Z prX (.call 17 [.int n,.int m] [])=some (.ret (.int (around n m)) []):=qox rfl h1 hm
theorem qp3{n:Int}(h:I64 n) : ∃ t q,t<4/\q<5/\Z prX (.call 60 [.int n] [])=some (.ret (.dat (.agg (shC t q true))) []):=by
 have a1:=qia h (m:=1000) (by omega)
 have hk:=qeV h (m:=1000) (by omega)
 generalize around n 1000=k at *
 have d1:0<=k.tdiv 7/\k.tdiv 7<=k:=qnw hk.1 (by omega)
 have w0:IntKind.i64.wrap (k.tdiv 7)=k.tdiv 7:=qay _ (by omega)
 have m1:0<=(k.tdiv 7).tmod 5/\(k.tdiv 7).tmod 5<5:=qka d1.1 (by omega)
 obtain⟨q,hq⟩ : ∃ q:Nat,(k.tdiv 7).tmod 5=q:=⟨((k.tdiv 7).tmod 5).toNat,by omega⟩
 rw[hq] at m1
 have w1:IntKind.i64.wrap (1+(q:Int))=1+q:=qay _ (by omega)
 obtain⟨R,hR⟩ : ∃ R:Int,R=512*(1+(q:Int)):=⟨_,rfl⟩
 have w3:IntKind.i64.wrap (0-R) = -R:=by rw[qay _ (by omega)]; omega
 have w3':IntKind.i64.wrap (-R) = -R:=qay _ (by omega)
 have w4:IntKind.i64.wrap (-(2*R)) = -(2*R):=qay _ (by omega)
 have w4':IntKind.i64.wrap (-2*R) = -(2*R):=by rw[qay _ (by omega)]; omega
 have w5:IntKind.i64.wrap (2*R)=2*R:=qay _ (by omega)
 have w2:IntKind.i64.wrap (512*(1+(q:Int)))=R:=by rw[hR]; exact qay _ (by omega)
 have m2:0<=k.tmod 7/\k.tmod 7<7:=qka hk.1 (by omega)
 have e:k.tmod 7=0\/k.tmod 7=1\/k.tmod 7=2\/k.tmod 7=3\/k.tmod 7=4\/k.tmod 7=5\/k.tmod 7=6:=by omega
 have key : ∀ t:Nat,shC t q true=match t with
   |0=>[di R,qcO]
   |1=>[di 0,.sl ([-R,-R,R,-R,R,R,-R,R].map di) 4 true]
   |2=>[di 0,.sl ([-R,-R,R,-R,0,R].map di) 3 true]
   |_=>[di 0,.sl ([-(2*R),-300,2*R,-300,2*R,300,-(2*R),300].map di) 4 true]:=fun t=>by
  have e2 : -2*(512*(1+(q:Int))) = -(2*(512*(1+(q:Int)))):=by omega
  match t with
  |0=>simp[shC,shR,shP,hR]
  |1=>simp[shC,shR,shP,hR]
  |2=>simp[shC,shR,shP,hR]
  |t+3=>simp[shC,shR,shP,hR,e2]
 rcases e with e|e|e|e|e|e|e
 ·refine⟨0,q,by omega,by omega,qaD (pf:=F60) rfl rfl ?_⟩
  rw[key]
  simp -implicitDefEqProofs [F60,a1,w0,hq,w1,w2,w3,w3',w4,w4',w5,e,di,Wa]
 ·refine⟨0,q,by omega,by omega,qaD (pf:=F60) rfl rfl ?_⟩
  rw[key]
  simp -implicitDefEqProofs [F60,a1,w0,hq,w1,w2,w3,w3',w4,w4',w5,e,di,Wa]
 ·refine⟨0,q,by omega,by omega,qaD (pf:=F60) rfl rfl ?_⟩
  rw[key]
  simp -implicitDefEqProofs [F60,a1,w0,hq,w1,w2,w3,w3',w4,w4',w5,e,di,Wa]
 ·refine⟨1,q,by omega,by omega,qaD (pf:=F60) rfl rfl ?_⟩
  rw[key]
  simp -implicitDefEqProofs [F60,a1,w0,hq,w1,w2,w3,w3',w4,w4',w5,e,di,Wa]
 ·refine⟨1,q,by omega,by omega,qaD (pf:=F60) rfl rfl ?_⟩
  rw[key]
  simp -implicitDefEqProofs [F60,a1,w0,hq,w1,w2,w3,w3',w4,w4',w5,e,di,Wa]
 ·refine⟨2,q,by omega,by omega,qaD (pf:=F60) rfl rfl ?_⟩
  rw[key]
  simp -implicitDefEqProofs [F60,a1,w0,hq,w1,w2,w3,w3',w4,w4',w5,e,di,Wa]
 ·refine⟨3,q,by omega,by omega,qaD (pf:=F60) rfl rfl ?_⟩
  rw[key]
  simp -implicitDefEqProofs [F60,a1,w0,hq,w1,w2,w3,w3',w4,w4',w5,e,di,Wa]
end
section
open F
set_option maxRecDepth 100000
attribute [local simp] V.len qai
theorem wk1:IntKind.i64.wrap 1=1:=qay _ (by omega)
def Dn(n:Int):Prop:=0<=n/\n<1000000
theorem qbb{n m:Int}(h:0<=n)(hm:1<=m):0<=n.tmod m/\n.tmod m<=m-1:=by
 have:=qka h hm; omega
theorem qbC{n m:Int}(h:Dn n)(hm:1<=m):Dn (n.tdiv m)/\IntKind.i64.wrap (n.tdiv m)=n.tdiv m:=by
 have:=qnw h.1 hm
 have h2:=h.2
 exact⟨⟨this.1,by omega⟩,qay _ (by omega)⟩
theorem qwJ{n:Int}(h:Dn n) : ∃ v,(-12000<=v/\v<=12000)/\IntKind.i64.wrap (IntKind.i64.wrap ((IntKind.i64.wrap (n.tdiv 1000)).tmod 13-6)*900)=v:=by
 obtain⟨d,w⟩:=qbC h (m:=1000) (by omega)
 have:=qbb d.1 (m:=13) (by omega)
 rw[w,qay (_-6) (by omega)]
 exact⟨_,⟨by omega,by omega⟩,qay _ (by omega)⟩
theorem qwK{n:Int}(h:Dn n) : ∃ v,(-9000<=v/\v<=9000)/\IntKind.i64.wrap (IntKind.i64.wrap ((IntKind.i64.wrap (n.tdiv 50)).tmod 11-5)*800)=v:=by
 obtain⟨d,w⟩:=qbC h (m:=50) (by omega)
 have:=qbb d.1 (m:=11) (by omega)
 rw[w,qay (_-5) (by omega)]
 exact⟨_,⟨by omega,by omega⟩,qay _ (by omega)⟩
theorem qwL{n:Int}(h:Dn n) : ∃ v,(-1200<=v/\v<=1200)/\IntKind.i64.wrap (IntKind.i64.wrap ((IntKind.i64.wrap (n.tdiv 550)).tmod 9-4)*300)=v:=by
 obtain⟨d,w⟩:=qbC h (m:=550) (by omega)
 have:=qbb d.1 (m:=9) (by omega)
 rw[w,qay (_-4) (by omega)]
 exact⟨_,⟨by omega,by omega⟩,qay _ (by omega)⟩
theorem qwM{n:Int}(h:Dn n) : ∃ v,(-1200<=v/\v<=1200)/\IntKind.i64.wrap (IntKind.i64.wrap ((IntKind.i64.wrap (n.tdiv 13000)).tmod 9-4)*300)=v:=by
 obtain⟨d,w⟩:=qbC h (m:=13000) (by omega)
 have:=qbb d.1 (m:=9) (by omega)
 rw[w,qay (_-4) (by omega)]
 exact⟨_,⟨by omega,by omega⟩,qay _ (by omega)⟩
theorem qwN{n:Int}(h:Dn n) : ∃ j v,(0<=j/\j<5)/\(0<=v/\v<=2048)/\(IntKind.i64.wrap (n.tdiv 5000)).tmod 5=j/\qad [di 1024,di 1024,di 512,di 2048,di 0] j.toNat 1=some [di v]:=by
 obtain⟨d,w⟩:=qbC h (m:=5000) (by omega)
 have h1:=qbb d.1 (m:=5) (by omega)
 rw[w]
 generalize (n.tdiv 5000).tmod 5=j at *
 have e:j=0\/j=1\/j=2\/j=3\/j=4:=by omega
 rcases e with rfl|rfl|rfl|rfl|rfl
 ·exact⟨0,1024,by omega,by omega,rfl,rfl⟩
 ·exact⟨1,1024,by omega,by omega,rfl,rfl⟩
 ·exact⟨2,512,by omega,by omega,rfl,rfl⟩
 ·exact⟨3,2048,by omega,by omega,rfl,rfl⟩
 ·exact⟨4,0,by omega,by omega,rfl,rfl⟩
def dnV(xs:List Int)(l:Nat):V:=if xs=[] then qax else .gsl (intsC xs) xs.length 1 l
def dnS(xs:List Int):S:=if xs=[] then [] else [.tip xs.length]
section
variable{ks:List Int}
theorem qzn (hk:ks.length=40) (hd : ∀ x∈ks,Dn x) : ∀ (j i:Nat) (xs:List Int),i+j=24->xs.length=i->(∀ x∈xs,Dn x) ->
  ∃ ys:List Int,ys.length=24/\(∀ x∈ys,Dn x)/\Z prX (.loop 1 F45l0 [(0,.vw 0 40 0 12 1),(2,.ptr 1 0),(3,dnV xs 2),(4,.int i)] ([.vec (ints ks),.cells [.int 0,qax,.int 0,.int 0,.int 0,.int 0,qax,qax,.int 0,.int 0,.int 0,.int 0,.int 0,.int 0,.int 0,.int 0]]++dnS xs)) =
   some (.out (.exit 0) [(0,.vw 0 40 0 12 1),(2,.ptr 1 0),(3,dnV ys 2),(4,.int 24),(12,.bool false)] ([.vec (ints ks),.cells [.int 0,qax,.int 0,.int 0,.int 0,.int 0,qax,qax,.int 0,.int 0,.int 0,.int 0,.int 0,.int 0,.int 0,.int 0]]++dnS ys))
 |0,i,xs,e,hx,hdx=>by
  obtain rfl:i=24:=by omega
  refine⟨xs,hx,hdx,?_⟩
  have hne : ¬ xs=[]:=fun h=>by rw[h] at hx; simp at hx
  unfold dnV dnS
  rw[if_neg hne,if_neg hne,hx]
  generalize intsC xs=X
  rw[qap]
  simp -implicitDefEqProofs [qao,qf3,Wa]
 |j+1,i,xs,e,hx,hdx=>by
  have hi:(i:Int)<24:=by omega
  have w1:IntKind.i64.wrap ((i:Int)+1)=((i+1:Nat):Int):=by rw[qay _ (by omega)]; omega
  have rf:qaA (xs.length+1) 8=true:=by unfold qaA; exact decide_eq_true (by omega)
  have rf1:qaA 1 8=true:=rfl
  obtain⟨n,hn,hnn⟩ : ∃ n,Dn n/\(((i:Int)<12/\qad (ints ks) i 1=some [V.int (getN ks i)]/\Z prX (.call 17 [.int (getN ks i),.int 1000000] [])=some (.ret (.int n) []))\/(¬ (i:Int)<12/\n=0)):=by
   by_cases h:(i:Int)<12
   ·have hm:=qbv (xs:=ks) (i:=i) (by omega)
    have hb:=hd _ hm
    have hI:I64 (getN ks i):=⟨by have:=hb.1; omega,by have:=hb.2; omega⟩
    refine⟨_,?_,.inl ⟨h,qby ks i (by omega),qia hI (by omega)⟩⟩
    have:=qeV hI (m:=1000000) (by omega)
    exact⟨this.1,this.2⟩
   ·exact⟨0,⟨by omega,by omega⟩,.inr ⟨h,rfl⟩⟩
  obtain⟨ys,q1,q2,q3⟩:=qzn hk hd j (i+1) (xs++[n]) (by omega) (by simp[hx]) (fun x hx'=>by
   rcases We.1 hx' with h|h
   ·exact hdx x h
   ·simp at h; rw[h]; exact hn)
  refine⟨ys,q1,q2,?_⟩
  rw[<- q3]
  have hl:(ints ks).length=40:=by simp[hk]
  have hne2 : ¬ xs++[n]=[]:=by simp
  have hap:intsC (xs++[n])=intsC xs++[di n]:=by rw[qlM]; rfl
  have hlen:(intsC xs).length=xs.length:=by simp
  have hll:=qct ks
  have hrr:=fun f=>qde f ks
  have i0:(0:Int)<=i:=by omega
  unfold dnV dnS
  rw[if_neg hne2,if_neg hne2]
  by_cases h0:xs=[]
  ·subst h0
   simp only[Wk,W4] at *
   subst hx
   rcases hnn with ⟨h1,h2,h3⟩|⟨h1,rfl⟩
   ·generalize getN ks 0=m at *
    generalize ints ks=X at *
    simp only[WI,Int.ofNat_zero] at *
    conv=>lhs; rw[qap]
    simp -implicitDefEqProofs [qao,qf3,wk1,hl,h2,h3,hll,hrr,w1,rf1,qbs,qlj,intsC,Wa]
   ·exact absurd (by simp:((0:Nat):Int)<12) h1
  ·rw[if_neg h0,if_neg h0]
   have hxl:(xs++[n]).length=i+1:=by simp[hx]
   rw[hxl,hap]
   rw[hx] at rf hlen ⊢
   rcases hnn with ⟨h1,h2,h3⟩|⟨h1,rfl⟩
   ·generalize getN ks i=m at *
    generalize ints ks=X at *
    generalize intsC xs=Y at *
    generalize hi':i+1=i' at *
    conv=>lhs; rw[qap]
    simp -implicitDefEqProofs [qao,qf3,hl,hi,i0,h1,h2,h3,hll,hrr,w1,rf,hlen,hi',qbs,qlj,di,Wa]
   ·generalize ints ks=X at *
    generalize intsC xs=Y at *
    generalize hi':i+1=i' at *
    conv=>lhs; rw[qap]
    simp -implicitDefEqProofs [qao,qf3,hl,hi,i0,h1,hll,hrr,w1,rf,hlen,hi',qbs,qlj,di,Wa]
def qwO(s:Sup)(bv:V):List V:=[.int s.n,bv,.int (-12000),.int (-9000),.int 12000,.int 9000,.dat (.sl roomC 3 true),.dat (.sl (doorC s.dr) (doorN s.dr) true),.int s.fog,.int 0,.int s.gy,.int s.push,.int s.drag,.int s.rest,.int s.rnd,.int 60]
def bdV(bs:List Bod)(l:Nat):V:=if bs=[] then qax else .gsl (bs.map (Bod.c · true)).flatten bs.length 9 l
def bdS(bs:List Bod):S:=if bs=[] then [] else [.tip (bs.length*9)]
theorem quv(bs:List Bod)(x:Bod):((bs++[x]).map (Bod.c · true)).flatten=(bs.map (Bod.c · true)).flatten++x.c true:=by simp
theorem qg3{ys:List Int}{j:Nat}(h:j<ys.length):qad (intsC ys) j 1=some [.lit (.int .i64 (getN ys j))]:=qjk ys j h
theorem qzo {Y:List D} {ys:List Int} (hY:Y=intsC ys) (hys:ys.length=24) (hd : ∀ x∈ys,Dn x) {su:Sup} {nb e3:Nat} (he3:(IntKind.i64.wrap ((getN ys 3).tdiv 3)).tmod 3=e3) (hnb:su.n+e3=nb) (h5:nb<=5) {X Z16:List V} (hX:Dats X) (hZ:Dats Z16) : ∀ (j i:Nat) (bs:List Bod),i+j=nb->bs.length=i->(∀ x∈bs,x.ok) ->
  ∃ bs':List Bod,bs'.length=nb/\(∀ x∈bs',x.ok)/\Z prX (.loop 1 F45l1 [(2,.ptr 1 0),(3,.gsl Y 24 1 2),(6,.ptr 3 0),(7,.int i)] ([.vec X,.cells Z16,.tip 24,.cells (qwO su (bdV bs 4))]++bdS bs)) =
   some (.out (.exit 2) [(2,.ptr 1 0),(3,.gsl Y 24 1 2),(6,.ptr 3 0),(7,.int nb),(101,.bool false)] ([.vec X,.cells Z16,.tip 24,.cells (qwO su (bdV bs' 4))]++bdS bs'))
 |0,i,bs,e,hb,hbo=>by
  obtain rfl:i=nb:=by omega
  refine⟨bs,hb,hbo,?_⟩
  have c3:=qg3 (ys:=ys) (j:=3) (by omega)
  rw[<- hY] at c3
  have w1:IntKind.i64.wrap ((su.n:Int)+e3)=(i:Int):=by rw[qay _ (by omega)]; omega
  unfold bdV bdS qwO
  rw[qap]
  generalize roomC=RC
  generalize doorC su.dr=DC
  generalize doorN su.dr=DN
  generalize (bs.map (Bod.c · true)).flatten=B
  generalize getN ys 3=g3 at *
  by_cases h0:bs=[]
  ·simp -implicitDefEqProofs [qao,qf4,h0,hX.l,hX.r,hZ.l,hZ.r,c3,he3,w1,Wa]
  ·simp -implicitDefEqProofs [qao,qf4,h0,hX.l,hX.r,hZ.l,hZ.r,c3,he3,w1,Wa]
 |j+1,i,bs,e,hb,hbo=>by
  have c3:=qg3 (ys:=ys) (j:=3) (by omega)
  have cn:=qg3 (ys:=ys) (j:=4+2*i) (by omega)
  have cm:=qg3 (ys:=ys) (j:=5+2*i) (by omega)
  have hn:=hd _ (qbv (xs:=ys) (i:=4+2*i) (by omega))
  have hm:=hd _ (qbv (xs:=ys) (i:=5+2*i) (by omega))
  rw[<- hY] at c3 cn cm
  have w1:IntKind.i64.wrap ((su.n:Int)+e3)=(nb:Int):=by rw[qay _ (by omega)]; omega
  have w2:IntKind.i64.wrap ((i:Int)+1)=((i+1:Nat):Int):=by rw[qay _ (by omega)]; omega
  have w3:IntKind.i64.wrap (2*(i:Int))=2*i:=qay _ (by omega)
  have w4:IntKind.i64.wrap (4+2*(i:Int))=((4+2*i:Nat):Int):=by rw[qay _ (by omega)]; omega
  have w5:IntKind.i64.wrap (5+2*(i:Int))=((5+2*i:Nat):Int):=by rw[qay _ (by omega)]; omega
  have p0:(i:Int)<nb:=by omega
  have p4:((4+2*i:Nat):Int)<24:=by omega
  have p5:((5+2*i:Nat):Int)<24:=by omega
  have p4':(0:Int)<=((4+2*i:Nat):Int):=by omega
  have p5':(0:Int)<=((5+2*i:Nat):Int):=by omega
  obtain⟨t,q,ht,hq,hsh⟩:=qp3 (n:=getN ys (4+2*i)) ⟨by have:=hn.1; omega,by have:=hn.2; omega⟩
  obtain⟨px,bpx,npx⟩:=qwJ hn
  obtain⟨py,bpy,npy⟩:=qwK hm
  obtain⟨vx,bvx,nvx⟩:=qwL hm
  obtain⟨vy,bvy,nvy⟩:=qwM hn
  obtain⟨k5,im,bk5,bim,nk5,cim⟩:=qwN hm
  have bA:=qbb hm.1 (m:=50) (by omega)
  have bB:=qbb hn.1 (m:=7) (by omega)
  have r1:(k5:Int)<5:=bk5.2
  have r2:0<=k5:=bk5.1
  obtain⟨x,hx⟩ : ∃ x:Bod,x=⟨t,q,px,py,vx,vy,im,(getN ys (5+2*i)).tmod 50,(getN ys (4+2*i)).tmod 7⟩:=⟨_,rfl⟩
  have hxo:x.ok:=by
   rw[hx]
   exact⟨ht,hq,bpx,bpy,by dsimp; omega,by dsimp; omega,by dsimp; omega,by dsimp; omega,by dsimp; omega⟩
  obtain⟨bs',q1,q2,q3⟩:=qzo hY hys hd he3 hnb h5 hX hZ j (i+1) (bs++[x]) (by omega) (by simp[hb]) (fun y hy=>by
   rcases We.1 hy with h|h
   ·exact hbo y h
   ·simp at h; rw[h]; exact hxo)
  refine⟨bs',q1,q2,?_⟩
  rw[<- q3]
  have hne2 : ¬ bs++[x]=[]:=by simp
  have hsn:=quv bs x
  have hln:=qem bs true
  have hxl:(bs++[x]).length=i+1:=by simp[hb]
  have hxc:x.c true=[di (shR t q),shP t q true,di px,di py,di vx,di vy,di im,di ((getN ys (5+2*i)).tmod 50),di ((getN ys (4+2*i)).tmod 7)]:=by rw[hx]; rfl
  have so:=qdx t q true
  have sc:=qis t q true
  have rf:qaA (i+1) 88=true:=by unfold qaA; exact decide_eq_true (by omega)
  have rf1:qaA 1 88=true:=rfl
  simp only[shC] at hsh
  unfold bdV bdS qwO
  rw[if_neg hne2,if_neg hne2,hsn,hxc]
  clear hx hxc hsn q3 hbo hd
  generalize roomC=RC at *
  generalize doorC su.dr=DC at *
  generalize doorN su.dr=DN at *
  generalize shP t q true=P at *
  generalize shR t q=R at *
  generalize getN ys 3=g3 at *
  generalize getN ys (4+2*i)=gn at *
  generalize getN ys (5+2*i)=gm at *
  generalize hmA:gm.tmod 50=mA at *
  generalize hnB:gn.tmod 7=nB at *
  generalize hj4:4+2*i=j4 at *
  generalize hj5:5+2*i=j5 at *
  simp only[di] at *
  by_cases h0:bs=[]
  ·subst h0
   rw[if_pos (rfl:([]:List Bod)=[]),if_pos (rfl:([]:List Bod)=[]),show (([]:List Bod)++[x]).length=1 from rfl]
   generalize ((i+1:Nat):Int)=i1 at *
   simp only[Wr,List.flatten_nil,Wk]
   conv=>lhs; rw[qap]
   simp -implicitDefEqProofs [qao,qf4,hX.l,hX.r,hZ.l,hZ.r,c3,cn,cm,he3,w1,w2,w3,w4,w5,p0,p4,p5,p4',p5',hsh,npx,npy,nvx,nvy,nk5,r1,r2,cim,so,sc,rf1,qbs,qlj,Wa]
   exact qaB (by simp[hX.l,hX.r,hZ.l,hZ.r,Wa,hmA,hnB])
  ·rw[if_neg h0,if_neg h0,hxl,hb]
   rw[hb] at hln
   generalize (bs.map (Bod.c · true)).flatten=B at *
   generalize hi1:i+1=i1 at *
   conv=>lhs; rw[qap]
   simp -implicitDefEqProofs [qao,qf4,hX.l,hX.r,hZ.l,hZ.r,c3,cn,cm,he3,w1,w2,w3,w4,w5,p0,p4,p5,p4',p5',hsh,npx,npy,nvx,nvy,nk5,r1,r2,cim,so,sc,rf,hln,hi1,qbs,qlj,Wa]
   exact qaB (by simp[hX.l,hX.r,hZ.l,hZ.r,Wa,hmA,hnB]; omega)
theorem quw{n:Int}(h:Dn n) : ∃ v,(0<=v/\v<=4194304)/\IntKind.i64.wrap (4000+IntKind.i64.wrap (n.tmod 9*1000))=v:=by
 have:=qbb h.1 (m:=9) (by omega)
 rw[qay (_*1000) (by omega)]
 exact⟨_,⟨by omega,by omega⟩,qay _ (by omega)⟩
theorem qsa{n:Int}(h:Dn n) : ∃ v,(0<=v/\v<=16384)/\IntKind.i64.wrap ((IntKind.i64.wrap (n.tdiv 9)).tmod 5*100)=v:=by
 obtain⟨d,w⟩:=qbC h (m:=9) (by omega)
 have:=qbb d.1 (m:=5) (by omega)
 rw[w]
 exact⟨_,⟨by omega,by omega⟩,qay _ (by omega)⟩
theorem qsb{n:Int}(h:Dn n) : ∃ v,(0<=v/\v<=1024)/\IntKind.i64.wrap (n.tmod 4*100)=v:=by
 have:=qbb h.1 (m:=4) (by omega)
 exact⟨_,⟨by omega,by omega⟩,qay _ (by omega)⟩
theorem qsc{n:Int}(h:Dn n) : ∃ v,(0<=v/\v<=1024)/\IntKind.i64.wrap ((IntKind.i64.wrap (n.tdiv 4)).tmod 3*512)=v:=by
 obtain⟨d,w⟩:=qbC h (m:=4) (by omega)
 have:=qbb d.1 (m:=3) (by omega)
 rw[w]
 exact⟨_,⟨by omega,by omega⟩,qay _ (by omega)⟩
theorem qux{n:Int}(h:Dn n) : ∃ v,(1<=v/\v<=3)/\IntKind.i64.wrap (1+(IntKind.i64.wrap (n.tdiv 12)).tmod 3)=v:=by
 obtain⟨d,w⟩:=qbC h (m:=12) (by omega)
 have:=qbb d.1 (m:=3) (by omega)
 rw[w]
 exact⟨_,⟨by omega,by omega⟩,qay _ (by omega)⟩
theorem qwP{n:Int}(h:Dn n) : ∃ v,(-16384<=v/\v<=16384)/\IntKind.i64.wrap (IntKind.i64.wrap (0-(IntKind.i64.wrap (n.tdiv 36)).tmod 3)*40)=v/\IntKind.i64.wrap (IntKind.i64.wrap (-(IntKind.i64.wrap (n.tdiv 36)).tmod 3)*40)=v:=by
 obtain⟨d,w⟩:=qbC h (m:=36) (by omega)
 have:=qbb d.1 (m:=3) (by omega)
 rw[w]
 have e1:IntKind.i64.wrap (0-(n.tdiv 36).tmod 3) = -(n.tdiv 36).tmod 3:=by rw[qay _ (by omega)]; omega
 have e2:IntKind.i64.wrap (-(n.tdiv 36).tmod 3) = -(n.tdiv 36).tmod 3:=by rw[qay _ (by omega)]
 rw[e1,e2]
 exact⟨_,⟨by omega,by omega⟩,qay _ (by omega),qay _ (by omega)⟩
theorem qyU{n:Int}(h:Dn n) : ∃ v:Nat,(1<=v/\v<=3)/\IntKind.i64.wrap (1+n.tmod 3)=v:=by
 have:=qbb h.1 (m:=3) (by omega)
 exact⟨(1+n.tmod 3).toNat,⟨by omega,by omega⟩,by rw[qay _ (by omega)]; omega⟩
theorem qwQ{n:Int}(h:Dn n) : ∃ v:Nat,v<=2/\(IntKind.i64.wrap (n.tdiv 3)).tmod 3=v:=by
 obtain⟨d,w⟩:=qbC h (m:=3) (by omega)
 have:=qbb d.1 (m:=3) (by omega)
 rw[w]
 exact⟨((n.tdiv 3).tmod 3).toNat,by omega,by omega⟩
theorem qwR{n:Int}(h:Dn n) : ∃ k:Nat,k<3/\n.tmod 3=k:=by
 have:=qbb h.1 (m:=3) (by omega)
 exact⟨(n.tmod 3).toNat,by omega,by omega⟩
theorem quy (hk:ks.length=40) (hd : ∀ x∈ks,Dn x) : ∃ su:Sup,su.ok/\(1<=su.rnd/\su.rnd<=3) /\
  Z prX (.call 45 [.vw 0 40 0 12 1] [.vec (ints ks)])=some (.ret (.dat (.agg [di su.n,.sl (su.bs.map (Bod.c · true)).flatten su.bs.length false,di (-12000),di (-9000),di 12000,di 9000,.sl roomC 3 true,.sl (doorC su.dr) (doorN su.dr) true,di su.fog,di 0,di su.gy,di su.push,di su.drag,di su.rest,di su.rnd,di 60])) [.vec (ints ks)]):=by
 obtain⟨ys,y1,y2,y3⟩:=qzn hk hd 24 0 [] rfl rfl (fun x h=>by cases h)
 have hg : ∀ i,i<24->Dn (getN ys i):=fun i hi=>y2 _ (qbv (by omega))
 obtain⟨n,n1,n2⟩:=qyU (hg 0 (by omega))
 obtain⟨fog,f1,f2⟩:=quw (hg 1 (by omega))
 obtain⟨push,p1,p2⟩:=qsa (hg 1 (by omega))
 obtain⟨drag,d1,d2⟩:=qsb (hg 2 (by omega))
 obtain⟨rest,r1,r2⟩:=qsc (hg 2 (by omega))
 obtain⟨rnd,q1,q2⟩:=qux (hg 2 (by omega))
 obtain⟨gy,g1,g2,g3⟩:=qwP (hg 2 (by omega))
 obtain⟨dr,k1,k2⟩:=qwR (hg 3 (by omega))
 obtain⟨e3,e1,e2⟩:=qwQ (hg 3 (by omega))
 have hX:Dats (ints ks):=⟨qct ks,fun f=>qde f ks⟩
 obtain⟨bs,b1,b2,b3⟩:=qzo (Y:=intsC ys) rfl y1 y2 (su:=⟨n,[],dr,fog,gy,push,drag,rest,rnd⟩) (nb:=n+e3) e2 rfl (by omega) hX (Z16:=[.int 0,qax,.int 0,.int 0,.int 0,.int 0,qax,qax,.int 0,.int 0,.int 0,.int 0,.int 0,.int 0,.int 0,.int 0]) ⟨rfl,fun f=>rfl⟩ (n+e3) 0 [] (by omega) rfl (fun x h=>by cases h)
 refine⟨⟨n,bs,dr,fog,gy,push,drag,rest,rnd⟩,⟨n1.1,n1.2,by dsimp; omega,by dsimp; omega,b2,k1,f1,g1,p1,d1,r1⟩,q1,?_⟩
 have c0:=qg3 (ys:=ys) (j:=0) (by omega)
 have c1:=qg3 (ys:=ys) (j:=1) (by omega)
 have c2:=qg3 (ys:=ys) (j:=2) (by omega)
 have c3:=qg3 (ys:=ys) (j:=3) (by omega)
 have hbn : ¬ bs=[]:=fun h=>by rw[h] at b1; simp at b1; omega
 have hyn : ¬ ys=[]:=fun h=>by rw[h] at y1; simp at y1
 have eb:bdV [] 4=qax:=rfl
 have es:bdS []=[]:=rfl
 have ed:dnV [] 2=qax:=rfl
 have ee:dnS []=[]:=rfl
 have hdn:dnV ys 2 = .gsl (intsC ys) 24 1 2:=by unfold dnV; rw[if_neg hyn,y1]
 have hds:dnS ys=[.tip 24]:=by unfold dnS; rw[if_neg hyn,y1]
 have hbv:bdV bs 4 = .gsl (bs.map (Bod.c · true)).flatten bs.length 9 4:=by unfold bdV; rw[if_neg hbn]
 have hbs:bdS bs=[.tip (bs.length*9)]:=by unfold bdS; rw[if_neg hbn]
 have hone:=qnQ (bs:=bs) (f:=true)
 rw[ed,ee,hdn,hds] at y3
 rw[eb,es,hbv,hbs] at b3
 simp only[qwO,Wu,Wk,Wp,WI,Int.ofNat_zero] at y3 b3
 have hdoor : ∀ X:List D,X=[.sl [] 0 true,.sl [di 0,di 1] 1 true,.sl [di 0,di 2,di 1,di 2] 2 true]->qad X dr 1=some [.sl (doorC dr) (doorN dr) true]:=fun X hX=>by
  subst hX
  obtain rfl|rfl|rfl:dr=0\/dr=1\/dr=2:=by omega
  all_goals rfl
 have hdoor:=hdoor _ rfl
 have k0:(dr:Int)<3:=by omega
 have hroom:roomC=[di (-12000),di (-9000),di (-1),di 9000,di 0,di 0,di 12000,di 9000,di 0,di (-9000),di 12000,di (-1)]:=rfl
 simp only[di] at hdoor hroom
 rw[<- b1] at b3
 generalize getN ys 0=h0 at *
 generalize getN ys 1=h1 at *
 generalize getN ys 2=h2 at *
 generalize getN ys 3=h3 at *
 generalize intsC ys=Y at *
 generalize (bs.map (Bod.c · true)).flatten=B at *
 generalize bs.length=nb at *
 generalize doorC dr=DC at *
 generalize doorN dr=DN at *
 generalize ints ks=X at *
 rw[hroom] at b3 ⊢
 refine qaD (pf:=F45) rfl rfl ?_
 simp -implicitDefEqProofs [F45,qdw,y3,b3,c0,c1,c2,c3,n2,f2,p2,d2,r2,q2,g2,g3,k2,k0,hdoor,hX.l,hX.r,di,Wa]
end
end
section
open F
set_option maxRecDepth 100000
attribute [local simp] V.len qai
theorem qlV{α : Type}{n:Nat} : ∀ {l:List (List α)} {i:Nat} {x:List α},(∀ y∈l,y.length=n)->i<l.length->x.length=n->l.flatten.take (i*n)++(x++l.flatten.drop (i*n+n))=(l.set i x).flatten
 |[],i,x,_,h,_=>by simp at h
 |y::l,0,x,hl,_,hx=>by
  have e:=hl y (W7 ..)
  simp[<- e]
 |y::l,i+1,x,hl,h,hx=>by
  have e:=hl y (W7 ..)
  have ih:=qlV (n:=n) (l:=l) (i:=i) (x:=x) (fun z hz=>hl z (WH _ hz)) (by simpa using h) hx
  rw[List.set_cons_succ,WJ,WJ,<- ih,show (i+1)*n=y.length+i*n by rw[e,Nat.succ_mul]; omega,List.take_append,Wl (by omega),show y.length+i*n-y.length=i*n by omega,show y.length+i*n+n=y.length+(i*n+n) by omega,<- List.drop_drop,List.drop_left,WA]
def cmC(ls:List Cmd):List D:=(ls.map Cmd.c).flatten
def cmV(ls:List Cmd):List V:=(cmC ls).map .dat
theorem qkl(ls:List Cmd) : ∀ y∈ls.map Cmd.c,y.length=5:=fun y hy=>by
 obtain⟨x,_,rfl⟩:=Wm.1 hy; rfl
theorem qit(ls:List Cmd):(cmV ls).length=ls.length*5:=by
 rw[cmV,Wf,cmC,qbr (qkl ls),Wf]
theorem qq1{ls:List Cmd}{i:Nat}{x:Cmd}(h:ls[i]?=some x):qad (cmV ls) (i*5) 5=some [.int x.at_,.int x.pl,.int x.dx,.int x.dy,.int x.ac]:=
 qcv V.dat (r:=x.c) (qgg (qkl ls) (by simp[h]))
theorem qq2{ls:List Cmd}{i:Nat}(h:i<ls.length)(x:Cmd):(cmV ls).take (i*5)++(V.int x.at_::V.int x.pl::V.int x.dx::V.int x.dy::V.int x.ac::(cmV ls).drop (i*5+5))=cmV (ls.set i x):=by
 have:=qlV (l:=ls.map Cmd.c) (i:=i) (x:=x.c) (qkl ls) (by simpa using h) rfl
 rw[<- List.map_set] at this
 have h2:=congrArg (List.map V.dat) this
 simp only[List.map_append,List.map_take,List.map_drop] at h2
 exact h2
theorem qy7(a b:Cmd) : ∃ k:Int,Z prX (.call 428 [.dat (.agg a.c),.dat (.agg b.c)] [])=some (.ret (.int k) []):=by
 have n1 : ∀ n:Int,Z prX (.call 473 [.int n] [])=some (.ret (.bool false) []):=fun n=>by
  refine qaD (pf:=F473) rfl rfl ?_
  simp[F473,Wa]
 have n2 : ∀ n m:Int,∃ k:Int,Z prX (.call 429 [.int n,.int m] [])=some (.ret (.int k) []):=fun n m=>by
  have a1:=n1 n
  have a2:=n1 m
  by_cases h1:n<m
  ·refine⟨-1,qaD (pf:=F429) rfl rfl ?_⟩
   simp[F429,a1,a2,h1,Wa]
  ·by_cases h2:m<n
   ·refine⟨1,qaD (pf:=F429) rfl rfl ?_⟩
    simp[F429,a1,a2,h1,h2,Wa]
   ·refine⟨0,qaD (pf:=F429) rfl rfl ?_⟩
    simp[F429,a1,a2,h1,h2,Wa]
 obtain⟨k,hk⟩:=n2 a.at_ b.at_
 refine⟨k,qaD (pf:=F428) rfl rfl ?_⟩
 simp[F428,Cmd.c,di,hk,Wa]
theorem qq3{α : Type}{ls:List α}{i:Nat}{x y : α}(hx:ls[i]?=some x)(hy:ls[i+1]?=some y):((ls.set (i+1) x).set i y).Perm ls:=by
 have e:ls=ls.take i++(x::y::ls.drop (i+2)):=by
  have h1:=qen hx
  have h2:=qen hy
  rw[h2] at h1
  rw[<- h1,WU]
 have hl:(ls.take i).length=i:=by
  have:=(Wb.1 hx).1
  simp; omega
 have e2:(ls.set (i+1) x).set i y=ls.take i++(y::x::ls.drop (i+2)):=by
  conv=>lhs; rw[e]
  rw[List.set_append_right _ _ (by omega),hl,show i+1-i=1 by omega,List.set_append_right _ _ (by omega),hl,Nat.sub_self]
  rfl
 rw[e2]
 conv=>rhs; rw[e]
 exact (List.Perm.swap x y _).append_left _
section
variable{n:Nat}
theorem qxn : ∀ (j:Nat) (ls:List Cmd) (i:Nat),ls.length=n->n<=1000->i<n->j<=i ->
  ∃ ls' j',ls'.Perm ls/\Z prX (.loop 1 F1005l1 [(0,.own 0 n 5),(1,.int 0),(2,.int n),(3,.fn 428 [] []),(8,.int i),(9,.int j)] [.vec (cmV ls)])=some (.out (.exit 2) [(0,.own 0 n 5),(1,.int 0),(2,.int n),(3,.fn 428 [] []),(8,.int i),(9,.int j'),(34,.bool false)] [.vec (cmV ls')])
 |0,ls,i,hn,h1,hi,hj=>by
  refine⟨ls,0,.refl _,?_⟩
  have hl:=qit ls
  have hd:Dats (cmV ls):=qas _
  rw[hn] at hl
  generalize cmV ls=X at *
  rw[qap]
  simp -implicitDefEqProofs [qao,qfs,hd.l,hd.r,Wa,hl]
 |j+1,ls,i,hn,h1,hi,hj=>by
  obtain⟨x,hx⟩ : ∃ x,ls[j]?=some x:=⟨ls[j],Wy (by omega)⟩
  obtain⟨y,hy⟩ : ∃ y,ls[j+1]?=some y:=⟨ls[j+1],Wy (by omega)⟩
  have gx:=qq1 hx
  have gy:=qq1 hy
  have hd:Dats (cmV ls):=qas _
  have hl:=qit ls
  rw[hn] at hl
  obtain⟨k,hk⟩:=qy7 y x
  have p1:(0:Int)<((j+1:Nat):Int):=by omega
  have p2:((j+1:Nat):Int)<n:=by omega
  have p2':(0:Int)<=((j+1:Nat):Int):=by omega
  have p3:(0:Int)<=(j:Int):=by omega
  have p4:(j:Int)<n:=by omega
  have hJ:((j+1:Nat):Int)=(j:Int)+1:=by omega
  have w1:IntKind.i64.wrap (((j+1:Nat):Int)-1)=(j:Int):=by rw[qay _ (by omega)]; omega
  have s1:qai 5 (.own 0 n 5) (j:Int)=some (.eptr 0 (n*5) (j*5)):=by simp[qai,p4]
  have s2:qai 5 (.own 0 n 5) ((j+1:Nat):Int)=some (.eptr 0 (n*5) ((j+1)*5)):=by
   simp only[qai,p2',p2,and_self,if_true]; rfl
  by_cases hk0:k<0
  ·have t1:=qq2 (ls:=ls) (i:=j+1) (by omega) x
   have t2:=qq2 (ls:=ls.set (j+1) x) (i:=j) (by simp; omega) y
   have hd2:Dats (cmV (ls.set (j+1) x)):=qas _
   have hd3:Dats (cmV ((ls.set (j+1) x).set j y)):=qas _
   have hl2:=qit (ls.set (j+1) x)
   rw[List.length_set,hn] at hl2
   obtain⟨ls',j',q1,q2⟩:=qxn j ((ls.set (j+1) x).set j y) i (by simpa using hn) h1 hi (by omega)
   refine⟨ls',j',q1.trans (qq3 hx hy),?_⟩
   rw[<- q2]
   have b1:(j+1)*5+5<=n*5:=by omega
   have b2:j*5+5<=n*5:=by omega
   simp only[Cmd.c,di] at hk
   generalize cmV ((ls.set (j+1) x).set j y)=Y at *
   generalize cmV (ls.set (j+1) x)=W at *
   generalize cmV ls=X at *
   generalize (j+1)*5=m1 at *
   generalize j*5=m2 at *
   generalize ((j+1:Nat):Int)=J at *
   generalize (j:Int)=J' at *
   conv=>lhs; rw[qap]
   simp -implicitDefEqProofs [qao,qfs,hd.l,hd.r,hd2.l,hd2.r,hd3.l,hd3.r,Wa,hl,hl2,gx,gy,hk,hk0,p1,w1,s1,s2,t1,t2,b1,b2,-qai]
  ·refine⟨ls,j+1,.refl _,?_⟩
   simp only[Cmd.c,di] at hk
   generalize cmV ls=X at *
   generalize (j+1)*5=m1 at *
   generalize j*5=m2 at *
   generalize ((j+1:Nat):Int)=J at *
   generalize (j:Int)=J' at *
   rw[qap]
   simp -implicitDefEqProofs [qao,qfs,hd.l,hd.r,Wa,hl,gx,gy,hk,hk0,p1,w1,s1,s2,-qai]
   exact hJ
theorem qxo : ∀ (j:Nat) (ls:List Cmd) (i:Nat),ls.length=n->n<=1000->i+j=n ->
  ∃ ls',ls'.Perm ls/\Z prX (.loop 1 F1005l0 [(0,.own 0 n 5),(1,.int 0),(2,.int n),(3,.fn 428 [] []),(8,.int i)] [.vec (cmV ls)])=some (.out (.exit 0) [(0,.own 0 n 5),(1,.int 0),(2,.int n),(3,.fn 428 [] []),(8,.int n),(14,.bool false)] [.vec (cmV ls')])
 |0,ls,i,hn,h1,hi=>by
  obtain rfl:i=n:=by omega
  refine⟨ls,.refl _,?_⟩
  have hd:Dats (cmV ls):=qas _
  generalize cmV ls=X at *
  rw[qap]
  simp -implicitDefEqProofs [qao,qh7,hd.l,hd.r,Wa]
 |j+1,ls,i,hn,h1,hi=>by
  obtain⟨ls1,j1,q1,q2⟩:=qxn i ls i hn h1 (by omega) (Wg i)
  obtain⟨ls2,r1,r2⟩:=qxo j ls1 (i+1) (by rw[q1.length_eq,hn]) h1 (by omega)
  refine⟨ls2,r1.trans q1,?_⟩
  have hd:Dats (cmV ls):=qas _
  have hd1:Dats (cmV ls1):=qas _
  have p1:(i:Int)<n:=by omega
  have w1:IntKind.i64.wrap ((i:Int)+1)=((i+1:Nat):Int):=by rw[qay _ (by omega)]; omega
  rw[<- r2]
  generalize cmV ls=X at *
  generalize cmV ls1=Y at *
  generalize i+1=i' at *
  conv=>lhs; rw[qap]
  simp -implicitDefEqProofs [qao,qh7,hd.l,hd.r,hd1.l,hd1.r,Wa,p1,w1,q2]
theorem qy8(ls:List Cmd)(h0:1<=ls.length)(h1:ls.length<=1000) : ∃ ls',ls'.Perm ls/\Z prX (.call 1005 [.own 0 ls.length 5,.int 0,.int ls.length,.fn 428 [] []] [.vec (cmV ls)])=some (.ret (.tup []) [.vec (cmV ls')]):=by
 obtain⟨ls',q1,q2⟩:=qxo (n:=ls.length) (ls.length-1) ls 1 rfl h1 (by omega)
 refine⟨ls',q1,?_⟩
 have hd:Dats (cmV ls):=qas _
 have hd1:Dats (cmV ls'):=qas _
 simp only[Int.natCast_one] at q2
 generalize ls.length=n at *
 generalize cmV ls=X at *
 generalize cmV ls'=Y at *
 refine qaD (pf:=F1005) rfl rfl ?_
 have w0:IntKind.i64.wrap 1=1:=qay _ (by omega)
 simp -implicitDefEqProofs [F1005,hd.l,hd.r,hd1.l,hd1.r,Wa,q2,w0]
theorem qxp(ls:List Cmd)(h0:1<=ls.length)(h1:ls.length<=19) : ∃ ls',ls'.Perm ls/\Z prX (.call 1004 [.own 0 ls.length 5,.fn 428 [] []] [.vec (cmV ls)])=some (.ret (.tup []) [.vec (cmV ls')]):=by
 obtain⟨ls',q1,q2⟩:=qy8 ls h0 (by omega)
 refine⟨ls',q1,?_⟩
 have hd:Dats (cmV ls):=qas _
 have hd1:Dats (cmV ls'):=qas _
 have p1 : ¬ (20:Int)<=ls.length:=by omega
 have p2 : ¬ (20:Int)<ls.length:=by omega
 have l0:Z prX (.loop 1 F1007l0 [(0,.own 0 ls.length 5),(1,.int ls.length),(2,.fn 428 [] []),(6,.int 20),(7,.int 0),(8,.int 20)] [.vec (cmV ls)])=some (.out (.exit 0) [(0,.own 0 ls.length 5),(1,.int ls.length),(2,.fn 428 [] []),(6,.int 20),(7,.int 0),(8,.int 20),(13,.bool false)] [.vec (cmV ls)]):=by
  generalize ls.length=n at *
  generalize cmV ls=X at *
  rw[qap]
  simp -implicitDefEqProofs [qao,qmz,hd.l,hd.r,Wa,p1]
 have l1:Z prX (.loop 1 F1007l1 [(0,.own 0 ls.length 5),(1,.int ls.length),(2,.fn 428 [] []),(6,.int 20)] [.vec (cmV ls')])=some (.out (.exit 2) [(0,.own 0 ls.length 5),(1,.int ls.length),(2,.fn 428 [] []),(6,.int 20),(30,.bool false)] [.vec (cmV ls')]):=by
  generalize ls.length=n at *
  generalize cmV ls'=X at *
  rw[qap]
  simp -implicitDefEqProofs [qao,qmA,hd1.l,hd1.r,Wa,p2]
 have m:Z prX (.call 1007 [.own 0 ls.length 5,.int ls.length,.fn 428 [] []] [.vec (cmV ls)])=some (.ret (.tup []) [.vec (cmV ls')]):=by
  generalize ls.length=n at *
  generalize cmV ls=X at *
  generalize cmV ls'=Y at *
  refine qaD (pf:=F1007) rfl rfl ?_
  simp -implicitDefEqProofs [F1007,hd.l,hd.r,hd1.l,hd1.r,Wa,l0,l1,q2]
 generalize ls.length=n at *
 generalize cmV ls=X at *
 generalize cmV ls'=Y at *
 refine qaD (pf:=F1004) rfl rfl ?_
 simp -implicitDefEqProofs [F1004,hd.l,hd.r,hd1.l,hd1.r,Wa,m]
end
theorem qu5:Z prX (.call 1004 [.dat (.lit (.slice none 0 0)),.fn 428 [] []] [])=some (.ret (.tup []) []):=byK 100 (by kernel_rfl)
end
end Go.Pm
