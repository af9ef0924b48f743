/- strconv: numbers written down. Chapter 13's printer: levels, kids. -/
import Derived.Test.YtjdbkncfebebnaaGreatDoorPmF3q
import Derived.Test.YtjdbkncfebebnaaGreatDoorPmFx
set_option linter.unusedSimpArgs false
set_option linter.unusedVariables false
section SOe
namespace Go.Pm
open F
set_option maxHeartbeats 8000000
theorem qdm:IntKind.i64.wrap 0=0/\IntKind.i64.wrap 1=1/\IntKind.i64.wrap 2=2/\IntKind.i64.wrap 3=3/\IntKind.i64.wrap 4=4/\IntKind.i64.wrap 5=5/\IntKind.i64.wrap 6=6/\IntKind.i64.wrap 7=7/\IntKind.i64.wrap 8=8/\IntKind.i64.wrap 9=9/\IntKind.i64.wrap 10=10/\IntKind.i64.wrap 11=11:=by decide
abbrev u8z:V := .dat (.lit (.int .u8 0))
theorem qxh {u:Nat} (h1:10 ^ 2<=u) (h2:u<10 ^ 3) (h3:u<2147483648) : ∃ D2 D1 D0:UInt8,decB u=[D2,D1,D0]/\Z tQ (.call 295 [.msl 0 1 3 23 1,U64 u] [.cells [u8z,u8z,u8z,u8z,u8z,u8z,u8z,u8z,u8z,u8z,u8z,u8z,u8z,u8z,u8z,u8z,u8z,u8z,u8z,u8z,u8z,u8z,u8z,u8z]])=some (.ret (.tup []) [.cells [u8z,.dat (.lit (.int .u8 D2.toNat)),.dat (.lit (.int .u8 D1.toNat)),.dat (.lit (.int .u8 D0.toNat)),u8z,u8z,u8z,u8z,u8z,u8z,u8z,u8z,u8z,u8z,u8z,u8z,u8z,u8z,u8z,u8z,u8z,u8z,u8z,u8z]]):=by
 have h1':=h1
 have h2':=h2
 simp only[Nat.reducePow] at h1' h2'
 obtain⟨D0,hD0⟩ : ∃ b:UInt8,b=dg (u / 1 % 10):=⟨_,rfl⟩
 obtain⟨D1,hD1⟩ : ∃ b:UInt8,b=dg (u / 10 % 10):=⟨_,rfl⟩
 obtain⟨D2,hD2⟩ : ∃ b:UInt8,b=dg (u / 100 % 10):=⟨_,rfl⟩
 have hdec:decB u=[D2,D1,D0]:=by
  rw[qc9 (d:=2) h2 h1 (by omega)]
  simp only[qnH,List.nil_append,List.cons_append,hD0,hD1,hD2,Nat.div_div_eq_div_mul,Nat.reduceMul,Nat.div_one]
 have n0:IntKind.u32.wrap (u:Int)=u:=qfu (by omega)
 obtain⟨z1,hz1⟩ : ∃ p:Nat,p=u % 100:=⟨_,rfl⟩
 obtain⟨G,hG⟩ : ∃ p:Nat,p=u / 100:=⟨_,rfl⟩
 have n5:(u:Int).tmod 100=(z1:Int):=by rw[hz1]; rfl
 have n6:(u:Int).tdiv 100=(G:Int):=by rw[hG]; rfl
 have n6a:(u:Int) / 100=(G:Int):=by rw[hG]; rfl
 have n6b:IntKind.u32.wrap (G:Int)=G:=qfu (by omega)
 obtain⟨p7,hp7⟩ : ∃ p:Nat,p=2*z1:=⟨_,rfl⟩
 obtain⟨q7,hq7⟩ : ∃ q:Nat,q=2*z1+1:=⟨_,rfl⟩
 have mp7:IntKind.u32.wrap ((z1:Int)*2)=(p7:Int):=by rw[IntKind.wrap_u32']; omega
 have mq7:IntKind.u32.wrap ((p7:Int)+1)=(q7:Int):=by rw[IntKind.wrap_u32']; omega
 have tp7:tab2[p7]?=some D1:=by rw[hp7,qbY z1 (by omega),hD1,show z1 / 10=u / 10 % 10 by omega]
 have tq7:tab2[q7]?=some D0:=by rw[hq7,qbZ z1 (by omega),hD0,show z1 % 10=u / 1 % 10 by omega]
 have n7:IntKind.u8.wrap (IntKind.u32.wrap (48+(G:Int)))=(D2.toNat:Int):=by rw[hD2,qhl (by omega),IntKind.wrap_u32',IntKind.wrap_u8']; omega
 refine⟨D2,D1,D0,hdec,?_⟩
 obtain⟨v0,v1,v2,v3,v4,v5,v6,v7,v8,v9,v10,v11⟩:=qdm
 refine Z_call (pf:=F295K tab2) rfl rfl ?_
 clear hdec
 generalize tab2=tab at *
 simp[F295K,qaa,qac,qb7,F295l0Kx,V.len,qah,List.range_succ,v0,v1,v2,v3,v4,v5,v6,v7,v8,v9,v10,v11,n0,n5,n6,n6a,n6b,mp7,mq7,tp7,tq7,n7]
theorem qxi {u:Nat} (h1:10 ^ 2<=u) (h2:u<10 ^ 3) (h3:u<2147483648) (z:Z tQ (.call 294 [U64 u] [])=some (.ret (.int 3) [])):Z tQ (.call 291 [.int u,.int 10] [])=some (.ret (.str (bs (decB u))) []):=by
 obtain⟨D2,D1,D0,hdec,zf⟩:=qxh h1 h2 h3
 have ht:=qcg [D2,D1,D0]
 simp only[vb,List.map_cons,List.map_nil] at ht
 rw[<- hdec] at ht
 have h1':=h1
 simp only[Nat.reducePow] at h1'
 have c1 : ¬ (u:Int)<100:=by omega
 have c2 : ¬ (u:Int)<0:=by omega
 have c3:(0:Int)<=u:=by omega
 have c4:=qoZ (show u<18446744073709551616 by omega)
 obtain⟨v0,v1,v2,v3,v4,v5,v6,v7,v8,v9,v10,v11⟩:=qdm
 generalize decB u=q at *
 refine Z_call (pf:=F291) rfl rfl ?_
 simp[F291,z,zf,ht,bs,c1,c2,c3,c4,bound,List.range_succ,v0,v1,v2,v3,v4,v5,v6,v7,v8,v9,v10,v11]
theorem qxj {u:Nat} (h1:10 ^ 3<=u) (h2:u<10 ^ 4) (h3:u<2147483648) : ∃ D3 D2 D1 D0:UInt8,decB u=[D3,D2,D1,D0]/\Z tQ (.call 295 [.msl 0 1 4 23 1,U64 u] [.cells [u8z,u8z,u8z,u8z,u8z,u8z,u8z,u8z,u8z,u8z,u8z,u8z,u8z,u8z,u8z,u8z,u8z,u8z,u8z,u8z,u8z,u8z,u8z,u8z]])=some (.ret (.tup []) [.cells [u8z,.dat (.lit (.int .u8 D3.toNat)),.dat (.lit (.int .u8 D2.toNat)),.dat (.lit (.int .u8 D1.toNat)),.dat (.lit (.int .u8 D0.toNat)),u8z,u8z,u8z,u8z,u8z,u8z,u8z,u8z,u8z,u8z,u8z,u8z,u8z,u8z,u8z,u8z,u8z,u8z,u8z]]):=by
 have h1':=h1
 have h2':=h2
 simp only[Nat.reducePow] at h1' h2'
 obtain⟨D0,hD0⟩ : ∃ b:UInt8,b=dg (u / 1 % 10):=⟨_,rfl⟩
 obtain⟨D1,hD1⟩ : ∃ b:UInt8,b=dg (u / 10 % 10):=⟨_,rfl⟩
 obtain⟨D2,hD2⟩ : ∃ b:UInt8,b=dg (u / 100 % 10):=⟨_,rfl⟩
 obtain⟨D3,hD3⟩ : ∃ b:UInt8,b=dg (u / 1000 % 10):=⟨_,rfl⟩
 have hdec:decB u=[D3,D2,D1,D0]:=by
  rw[qc9 (d:=3) h2 h1 (by omega)]
  simp only[qnH,List.nil_append,List.cons_append,hD0,hD1,hD2,hD3,Nat.div_div_eq_div_mul,Nat.reduceMul,Nat.div_one]
 have n0:IntKind.u32.wrap (u:Int)=u:=qfu (by omega)
 obtain⟨E,hE⟩ : ∃ p:Nat,p=u % 10000:=⟨_,rfl⟩
 obtain⟨C,hC⟩ : ∃ p:Nat,p=u / 10000:=⟨_,rfl⟩
 obtain⟨y1,hy1⟩ : ∃ p:Nat,p=E / 100:=⟨_,rfl⟩
 obtain⟨y2,hy2⟩ : ∃ p:Nat,p=E % 100:=⟨_,rfl⟩
 have n1:(u:Int).tmod 10000=(E:Int):=by rw[hE]; rfl
 have n2:(u:Int).tdiv 10000=(C:Int):=by rw[hC]; rfl
 have n2a:(u:Int) / 10000=(C:Int):=by rw[hC]; rfl
 have n2b:IntKind.u32.wrap (C:Int)=C:=qfu (by omega)
 have n3:(E:Int).tdiv 100=(y1:Int):=by rw[hy1]; rfl
 have n3a:(E:Int) / 100=(y1:Int):=by rw[hy1]; rfl
 have n3b:IntKind.u32.wrap (y1:Int)=y1:=qfu (by omega)
 have n4:(E:Int).tmod 100=(y2:Int):=by rw[hy2]; rfl
 obtain⟨p5,hp5⟩ : ∃ p:Nat,p=2*y2:=⟨_,rfl⟩
 obtain⟨q5,hq5⟩ : ∃ q:Nat,q=2*y2+1:=⟨_,rfl⟩
 have mp5:IntKind.u32.wrap ((y2:Int)*2)=(p5:Int):=by rw[IntKind.wrap_u32']; omega
 have mq5:IntKind.u32.wrap ((p5:Int)+1)=(q5:Int):=by rw[IntKind.wrap_u32']; omega
 have tp5:tab2[p5]?=some D1:=by rw[hp5,qbY y2 (by omega),hD1,show y2 / 10=u / 10 % 10 by omega]
 have tq5:tab2[q5]?=some D0:=by rw[hq5,qbZ y2 (by omega),hD0,show y2 % 10=u / 1 % 10 by omega]
 obtain⟨p6,hp6⟩ : ∃ p:Nat,p=2*y1:=⟨_,rfl⟩
 obtain⟨q6,hq6⟩ : ∃ q:Nat,q=2*y1+1:=⟨_,rfl⟩
 have mp6:IntKind.u32.wrap ((y1:Int)*2)=(p6:Int):=by rw[IntKind.wrap_u32']; omega
 have mq6:IntKind.u32.wrap ((p6:Int)+1)=(q6:Int):=by rw[IntKind.wrap_u32']; omega
 have tp6:tab2[p6]?=some D3:=by rw[hp6,qbY y1 (by omega),hD3,show y1 / 10=u / 1000 % 10 by omega]
 have tq6:tab2[q6]?=some D2:=by rw[hq6,qbZ y1 (by omega),hD2,show y1 % 10=u / 100 % 10 by omega]
 refine⟨D3,D2,D1,D0,hdec,?_⟩
 obtain⟨v0,v1,v2,v3,v4,v5,v6,v7,v8,v9,v10,v11⟩:=qdm
 refine Z_call (pf:=F295K tab2) rfl rfl ?_
 clear hdec
 generalize tab2=tab at *
 simp[F295K,qaa,qac,qb7,F295l0Kx,V.len,qah,List.range_succ,v0,v1,v2,v3,v4,v5,v6,v7,v8,v9,v10,v11,n0,n1,n2,n3,n4,n2a,n2b,n3a,n3b,mp5,mq5,tp5,tq5,mp6,mq6,tp6,tq6]
theorem qxk {u:Nat} (h1:10 ^ 3<=u) (h2:u<10 ^ 4) (h3:u<2147483648) (z:Z tQ (.call 294 [U64 u] [])=some (.ret (.int 4) [])):Z tQ (.call 291 [.int u,.int 10] [])=some (.ret (.str (bs (decB u))) []):=by
 obtain⟨D3,D2,D1,D0,hdec,zf⟩:=qxj h1 h2 h3
 have ht:=qcg [D3,D2,D1,D0]
 simp only[vb,List.map_cons,List.map_nil] at ht
 rw[<- hdec] at ht
 have h1':=h1
 simp only[Nat.reducePow] at h1'
 have c1 : ¬ (u:Int)<100:=by omega
 have c2 : ¬ (u:Int)<0:=by omega
 have c3:(0:Int)<=u:=by omega
 have c4:=qoZ (show u<18446744073709551616 by omega)
 obtain⟨v0,v1,v2,v3,v4,v5,v6,v7,v8,v9,v10,v11⟩:=qdm
 generalize decB u=q at *
 refine Z_call (pf:=F291) rfl rfl ?_
 simp[F291,z,zf,ht,bs,c1,c2,c3,c4,bound,List.range_succ,v0,v1,v2,v3,v4,v5,v6,v7,v8,v9,v10,v11]
theorem qxl {u:Nat} (h1:10 ^ 4<=u) (h2:u<10 ^ 5) (h3:u<2147483648) : ∃ D4 D3 D2 D1 D0:UInt8,decB u=[D4,D3,D2,D1,D0]/\Z tQ (.call 295 [.msl 0 1 5 23 1,U64 u] [.cells [u8z,u8z,u8z,u8z,u8z,u8z,u8z,u8z,u8z,u8z,u8z,u8z,u8z,u8z,u8z,u8z,u8z,u8z,u8z,u8z,u8z,u8z,u8z,u8z]])=some (.ret (.tup []) [.cells [u8z,.dat (.lit (.int .u8 D4.toNat)),.dat (.lit (.int .u8 D3.toNat)),.dat (.lit (.int .u8 D2.toNat)),.dat (.lit (.int .u8 D1.toNat)),.dat (.lit (.int .u8 D0.toNat)),u8z,u8z,u8z,u8z,u8z,u8z,u8z,u8z,u8z,u8z,u8z,u8z,u8z,u8z,u8z,u8z,u8z,u8z]]):=by
 have h1':=h1
 have h2':=h2
 simp only[Nat.reducePow] at h1' h2'
 obtain⟨D0,hD0⟩ : ∃ b:UInt8,b=dg (u / 1 % 10):=⟨_,rfl⟩
 obtain⟨D1,hD1⟩ : ∃ b:UInt8,b=dg (u / 10 % 10):=⟨_,rfl⟩
 obtain⟨D2,hD2⟩ : ∃ b:UInt8,b=dg (u / 100 % 10):=⟨_,rfl⟩
 obtain⟨D3,hD3⟩ : ∃ b:UInt8,b=dg (u / 1000 % 10):=⟨_,rfl⟩
 obtain⟨D4,hD4⟩ : ∃ b:UInt8,b=dg (u / 10000 % 10):=⟨_,rfl⟩
 have hdec:decB u=[D4,D3,D2,D1,D0]:=by
  rw[qc9 (d:=4) h2 h1 (by omega)]
  simp only[qnH,List.nil_append,List.cons_append,hD0,hD1,hD2,hD3,hD4,Nat.div_div_eq_div_mul,Nat.reduceMul,Nat.div_one]
 have n0:IntKind.u32.wrap (u:Int)=u:=qfu (by omega)
 obtain⟨E,hE⟩ : ∃ p:Nat,p=u % 10000:=⟨_,rfl⟩
 obtain⟨C,hC⟩ : ∃ p:Nat,p=u / 10000:=⟨_,rfl⟩
 obtain⟨y1,hy1⟩ : ∃ p:Nat,p=E / 100:=⟨_,rfl⟩
 obtain⟨y2,hy2⟩ : ∃ p:Nat,p=E % 100:=⟨_,rfl⟩
 have n1:(u:Int).tmod 10000=(E:Int):=by rw[hE]; rfl
 have n2:(u:Int).tdiv 10000=(C:Int):=by rw[hC]; rfl
 have n2a:(u:Int) / 10000=(C:Int):=by rw[hC]; rfl
 have n2b:IntKind.u32.wrap (C:Int)=C:=qfu (by omega)
 have n3:(E:Int).tdiv 100=(y1:Int):=by rw[hy1]; rfl
 have n3a:(E:Int) / 100=(y1:Int):=by rw[hy1]; rfl
 have n3b:IntKind.u32.wrap (y1:Int)=y1:=qfu (by omega)
 have n4:(E:Int).tmod 100=(y2:Int):=by rw[hy2]; rfl
 obtain⟨p5,hp5⟩ : ∃ p:Nat,p=2*y2:=⟨_,rfl⟩
 obtain⟨q5,hq5⟩ : ∃ q:Nat,q=2*y2+1:=⟨_,rfl⟩
 have mp5:IntKind.u32.wrap ((y2:Int)*2)=(p5:Int):=by rw[IntKind.wrap_u32']; omega
 have mq5:IntKind.u32.wrap ((p5:Int)+1)=(q5:Int):=by rw[IntKind.wrap_u32']; omega
 have tp5:tab2[p5]?=some D1:=by rw[hp5,qbY y2 (by omega),hD1,show y2 / 10=u / 10 % 10 by omega]
 have tq5:tab2[q5]?=some D0:=by rw[hq5,qbZ y2 (by omega),hD0,show y2 % 10=u / 1 % 10 by omega]
 obtain⟨p6,hp6⟩ : ∃ p:Nat,p=2*y1:=⟨_,rfl⟩
 obtain⟨q6,hq6⟩ : ∃ q:Nat,q=2*y1+1:=⟨_,rfl⟩
 have mp6:IntKind.u32.wrap ((y1:Int)*2)=(p6:Int):=by rw[IntKind.wrap_u32']; omega
 have mq6:IntKind.u32.wrap ((p6:Int)+1)=(q6:Int):=by rw[IntKind.wrap_u32']; omega
 have tp6:tab2[p6]?=some D3:=by rw[hp6,qbY y1 (by omega),hD3,show y1 / 10=u / 1000 % 10 by omega]
 have tq6:tab2[q6]?=some D2:=by rw[hq6,qbZ y1 (by omega),hD2,show y1 % 10=u / 100 % 10 by omega]
 have n7:IntKind.u8.wrap (IntKind.u32.wrap (48+(C:Int)))=(D4.toNat:Int):=by rw[hD4,qhl (by omega),IntKind.wrap_u32',IntKind.wrap_u8']; omega
 refine⟨D4,D3,D2,D1,D0,hdec,?_⟩
 obtain⟨v0,v1,v2,v3,v4,v5,v6,v7,v8,v9,v10,v11⟩:=qdm
 refine Z_call (pf:=F295K tab2) rfl rfl ?_
 clear hdec
 generalize tab2=tab at *
 simp[F295K,qaa,qac,qb7,F295l0Kx,V.len,qah,List.range_succ,v0,v1,v2,v3,v4,v5,v6,v7,v8,v9,v10,v11,n0,n1,n2,n3,n4,n2a,n2b,n3a,n3b,mp5,mq5,tp5,tq5,mp6,mq6,tp6,tq6,n7]
theorem qxm {u:Nat} (h1:10 ^ 4<=u) (h2:u<10 ^ 5) (h3:u<2147483648) (z:Z tQ (.call 294 [U64 u] [])=some (.ret (.int 5) [])):Z tQ (.call 291 [.int u,.int 10] [])=some (.ret (.str (bs (decB u))) []):=by
 obtain⟨D4,D3,D2,D1,D0,hdec,zf⟩:=qxl h1 h2 h3
 have ht:=qcg [D4,D3,D2,D1,D0]
 simp only[vb,List.map_cons,List.map_nil] at ht
 rw[<- hdec] at ht
 have h1':=h1
 simp only[Nat.reducePow] at h1'
 have c1 : ¬ (u:Int)<100:=by omega
 have c2 : ¬ (u:Int)<0:=by omega
 have c3:(0:Int)<=u:=by omega
 have c4:=qoZ (show u<18446744073709551616 by omega)
 obtain⟨v0,v1,v2,v3,v4,v5,v6,v7,v8,v9,v10,v11⟩:=qdm
 generalize decB u=q at *
 refine Z_call (pf:=F291) rfl rfl ?_
 simp[F291,z,zf,ht,bs,c1,c2,c3,c4,bound,List.range_succ,v0,v1,v2,v3,v4,v5,v6,v7,v8,v9,v10,v11]
theorem qxn {u:Nat} (h1:10 ^ 5<=u) (h2:u<10 ^ 6) (h3:u<2147483648) : ∃ D5 D4 D3 D2 D1 D0:UInt8,decB u=[D5,D4,D3,D2,D1,D0]/\Z tQ (.call 295 [.msl 0 1 6 23 1,U64 u] [.cells [u8z,u8z,u8z,u8z,u8z,u8z,u8z,u8z,u8z,u8z,u8z,u8z,u8z,u8z,u8z,u8z,u8z,u8z,u8z,u8z,u8z,u8z,u8z,u8z]])=some (.ret (.tup []) [.cells [u8z,.dat (.lit (.int .u8 D5.toNat)),.dat (.lit (.int .u8 D4.toNat)),.dat (.lit (.int .u8 D3.toNat)),.dat (.lit (.int .u8 D2.toNat)),.dat (.lit (.int .u8 D1.toNat)),.dat (.lit (.int .u8 D0.toNat)),u8z,u8z,u8z,u8z,u8z,u8z,u8z,u8z,u8z,u8z,u8z,u8z,u8z,u8z,u8z,u8z,u8z]]):=by
 have h1':=h1
 have h2':=h2
 simp only[Nat.reducePow] at h1' h2'
 obtain⟨D0,hD0⟩ : ∃ b:UInt8,b=dg (u / 1 % 10):=⟨_,rfl⟩
 obtain⟨D1,hD1⟩ : ∃ b:UInt8,b=dg (u / 10 % 10):=⟨_,rfl⟩
 obtain⟨D2,hD2⟩ : ∃ b:UInt8,b=dg (u / 100 % 10):=⟨_,rfl⟩
 obtain⟨D3,hD3⟩ : ∃ b:UInt8,b=dg (u / 1000 % 10):=⟨_,rfl⟩
 obtain⟨D4,hD4⟩ : ∃ b:UInt8,b=dg (u / 10000 % 10):=⟨_,rfl⟩
 obtain⟨D5,hD5⟩ : ∃ b:UInt8,b=dg (u / 100000 % 10):=⟨_,rfl⟩
 have hdec:decB u=[D5,D4,D3,D2,D1,D0]:=by
  rw[qc9 (d:=5) h2 h1 (by omega)]
  simp only[qnH,List.nil_append,List.cons_append,hD0,hD1,hD2,hD3,hD4,hD5,Nat.div_div_eq_div_mul,Nat.reduceMul,Nat.div_one]
 have n0:IntKind.u32.wrap (u:Int)=u:=qfu (by omega)
 obtain⟨E,hE⟩ : ∃ p:Nat,p=u % 10000:=⟨_,rfl⟩
 obtain⟨C,hC⟩ : ∃ p:Nat,p=u / 10000:=⟨_,rfl⟩
 obtain⟨y1,hy1⟩ : ∃ p:Nat,p=E / 100:=⟨_,rfl⟩
 obtain⟨y2,hy2⟩ : ∃ p:Nat,p=E % 100:=⟨_,rfl⟩
 have n1:(u:Int).tmod 10000=(E:Int):=by rw[hE]; rfl
 have n2:(u:Int).tdiv 10000=(C:Int):=by rw[hC]; rfl
 have n2a:(u:Int) / 10000=(C:Int):=by rw[hC]; rfl
 have n2b:IntKind.u32.wrap (C:Int)=C:=qfu (by omega)
 have n3:(E:Int).tdiv 100=(y1:Int):=by rw[hy1]; rfl
 have n3a:(E:Int) / 100=(y1:Int):=by rw[hy1]; rfl
 have n3b:IntKind.u32.wrap (y1:Int)=y1:=qfu (by omega)
 have n4:(E:Int).tmod 100=(y2:Int):=by rw[hy2]; rfl
 obtain⟨p5,hp5⟩ : ∃ p:Nat,p=2*y2:=⟨_,rfl⟩
 obtain⟨q5,hq5⟩ : ∃ q:Nat,q=2*y2+1:=⟨_,rfl⟩
 have mp5:IntKind.u32.wrap ((y2:Int)*2)=(p5:Int):=by rw[IntKind.wrap_u32']; omega
 have mq5:IntKind.u32.wrap ((p5:Int)+1)=(q5:Int):=by rw[IntKind.wrap_u32']; omega
 have tp5:tab2[p5]?=some D1:=by rw[hp5,qbY y2 (by omega),hD1,show y2 / 10=u / 10 % 10 by omega]
 have tq5:tab2[q5]?=some D0:=by rw[hq5,qbZ y2 (by omega),hD0,show y2 % 10=u / 1 % 10 by omega]
 obtain⟨p6,hp6⟩ : ∃ p:Nat,p=2*y1:=⟨_,rfl⟩
 obtain⟨q6,hq6⟩ : ∃ q:Nat,q=2*y1+1:=⟨_,rfl⟩
 have mp6:IntKind.u32.wrap ((y1:Int)*2)=(p6:Int):=by rw[IntKind.wrap_u32']; omega
 have mq6:IntKind.u32.wrap ((p6:Int)+1)=(q6:Int):=by rw[IntKind.wrap_u32']; omega
 have tp6:tab2[p6]?=some D3:=by rw[hp6,qbY y1 (by omega),hD3,show y1 / 10=u / 1000 % 10 by omega]
 have tq6:tab2[q6]?=some D2:=by rw[hq6,qbZ y1 (by omega),hD2,show y1 % 10=u / 100 % 10 by omega]
 obtain⟨z1,hz1⟩ : ∃ p:Nat,p=C % 100:=⟨_,rfl⟩
 obtain⟨G,hG⟩ : ∃ p:Nat,p=C / 100:=⟨_,rfl⟩
 have n5:(C:Int).tmod 100=(z1:Int):=by rw[hz1]; rfl
 have n6:(C:Int).tdiv 100=(G:Int):=by rw[hG]; rfl
 have n6a:(C:Int) / 100=(G:Int):=by rw[hG]; rfl
 have n6b:IntKind.u32.wrap (G:Int)=G:=qfu (by omega)
 obtain⟨p7,hp7⟩ : ∃ p:Nat,p=2*z1:=⟨_,rfl⟩
 obtain⟨q7,hq7⟩ : ∃ q:Nat,q=2*z1+1:=⟨_,rfl⟩
 have mp7:IntKind.u32.wrap ((z1:Int)*2)=(p7:Int):=by rw[IntKind.wrap_u32']; omega
 have mq7:IntKind.u32.wrap ((p7:Int)+1)=(q7:Int):=by rw[IntKind.wrap_u32']; omega
 have tp7:tab2[p7]?=some D5:=by rw[hp7,qbY z1 (by omega),hD5,show z1 / 10=u / 100000 % 10 by omega]
 have tq7:tab2[q7]?=some D4:=by rw[hq7,qbZ z1 (by omega),hD4,show z1 % 10=u / 10000 % 10 by omega]
 refine⟨D5,D4,D3,D2,D1,D0,hdec,?_⟩
 obtain⟨v0,v1,v2,v3,v4,v5,v6,v7,v8,v9,v10,v11⟩:=qdm
 refine Z_call (pf:=F295K tab2) rfl rfl ?_
 clear hdec
 generalize tab2=tab at *
 simp[F295K,qaa,qac,qb7,F295l0Kx,V.len,qah,List.range_succ,v0,v1,v2,v3,v4,v5,v6,v7,v8,v9,v10,v11,n0,n1,n2,n3,n4,n2a,n2b,n3a,n3b,mp5,mq5,tp5,tq5,mp6,mq6,tp6,tq6,n5,n6,n6a,n6b,mp7,mq7,tp7,tq7]
theorem qxo {u:Nat} (h1:10 ^ 5<=u) (h2:u<10 ^ 6) (h3:u<2147483648) (z:Z tQ (.call 294 [U64 u] [])=some (.ret (.int 6) [])):Z tQ (.call 291 [.int u,.int 10] [])=some (.ret (.str (bs (decB u))) []):=by
 obtain⟨D5,D4,D3,D2,D1,D0,hdec,zf⟩:=qxn h1 h2 h3
 have ht:=qcg [D5,D4,D3,D2,D1,D0]
 simp only[vb,List.map_cons,List.map_nil] at ht
 rw[<- hdec] at ht
 have h1':=h1
 simp only[Nat.reducePow] at h1'
 have c1 : ¬ (u:Int)<100:=by omega
 have c2 : ¬ (u:Int)<0:=by omega
 have c3:(0:Int)<=u:=by omega
 have c4:=qoZ (show u<18446744073709551616 by omega)
 obtain⟨v0,v1,v2,v3,v4,v5,v6,v7,v8,v9,v10,v11⟩:=qdm
 generalize decB u=q at *
 refine Z_call (pf:=F291) rfl rfl ?_
 simp[F291,z,zf,ht,bs,c1,c2,c3,c4,bound,List.range_succ,v0,v1,v2,v3,v4,v5,v6,v7,v8,v9,v10,v11]
theorem qxp {u:Nat} (h1:10 ^ 6<=u) (h2:u<10 ^ 7) (h3:u<2147483648) : ∃ D6 D5 D4 D3 D2 D1 D0:UInt8,decB u=[D6,D5,D4,D3,D2,D1,D0]/\Z tQ (.call 295 [.msl 0 1 7 23 1,U64 u] [.cells [u8z,u8z,u8z,u8z,u8z,u8z,u8z,u8z,u8z,u8z,u8z,u8z,u8z,u8z,u8z,u8z,u8z,u8z,u8z,u8z,u8z,u8z,u8z,u8z]])=some (.ret (.tup []) [.cells [u8z,.dat (.lit (.int .u8 D6.toNat)),.dat (.lit (.int .u8 D5.toNat)),.dat (.lit (.int .u8 D4.toNat)),.dat (.lit (.int .u8 D3.toNat)),.dat (.lit (.int .u8 D2.toNat)),.dat (.lit (.int .u8 D1.toNat)),.dat (.lit (.int .u8 D0.toNat)),u8z,u8z,u8z,u8z,u8z,u8z,u8z,u8z,u8z,u8z,u8z,u8z,u8z,u8z,u8z,u8z]]):=by
 have h1':=h1
 have h2':=h2
 simp only[Nat.reducePow] at h1' h2'
 obtain⟨D0,hD0⟩ : ∃ b:UInt8,b=dg (u / 1 % 10):=⟨_,rfl⟩
 obtain⟨D1,hD1⟩ : ∃ b:UInt8,b=dg (u / 10 % 10):=⟨_,rfl⟩
 obtain⟨D2,hD2⟩ : ∃ b:UInt8,b=dg (u / 100 % 10):=⟨_,rfl⟩
 obtain⟨D3,hD3⟩ : ∃ b:UInt8,b=dg (u / 1000 % 10):=⟨_,rfl⟩
 obtain⟨D4,hD4⟩ : ∃ b:UInt8,b=dg (u / 10000 % 10):=⟨_,rfl⟩
 obtain⟨D5,hD5⟩ : ∃ b:UInt8,b=dg (u / 100000 % 10):=⟨_,rfl⟩
 obtain⟨D6,hD6⟩ : ∃ b:UInt8,b=dg (u / 1000000 % 10):=⟨_,rfl⟩
 have hdec:decB u=[D6,D5,D4,D3,D2,D1,D0]:=by
  rw[qc9 (d:=6) h2 h1 (by omega)]
  simp only[qnH,List.nil_append,List.cons_append,hD0,hD1,hD2,hD3,hD4,hD5,hD6,Nat.div_div_eq_div_mul,Nat.reduceMul,Nat.div_one]
 have n0:IntKind.u32.wrap (u:Int)=u:=qfu (by omega)
 obtain⟨E,hE⟩ : ∃ p:Nat,p=u % 10000:=⟨_,rfl⟩
 obtain⟨C,hC⟩ : ∃ p:Nat,p=u / 10000:=⟨_,rfl⟩
 obtain⟨y1,hy1⟩ : ∃ p:Nat,p=E / 100:=⟨_,rfl⟩
 obtain⟨y2,hy2⟩ : ∃ p:Nat,p=E % 100:=⟨_,rfl⟩
 have n1:(u:Int).tmod 10000=(E:Int):=by rw[hE]; rfl
 have n2:(u:Int).tdiv 10000=(C:Int):=by rw[hC]; rfl
 have n2a:(u:Int) / 10000=(C:Int):=by rw[hC]; rfl
 have n2b:IntKind.u32.wrap (C:Int)=C:=qfu (by omega)
 have n3:(E:Int).tdiv 100=(y1:Int):=by rw[hy1]; rfl
 have n3a:(E:Int) / 100=(y1:Int):=by rw[hy1]; rfl
 have n3b:IntKind.u32.wrap (y1:Int)=y1:=qfu (by omega)
 have n4:(E:Int).tmod 100=(y2:Int):=by rw[hy2]; rfl
 obtain⟨p5,hp5⟩ : ∃ p:Nat,p=2*y2:=⟨_,rfl⟩
 obtain⟨q5,hq5⟩ : ∃ q:Nat,q=2*y2+1:=⟨_,rfl⟩
 have mp5:IntKind.u32.wrap ((y2:Int)*2)=(p5:Int):=by rw[IntKind.wrap_u32']; omega
 have mq5:IntKind.u32.wrap ((p5:Int)+1)=(q5:Int):=by rw[IntKind.wrap_u32']; omega
 have tp5:tab2[p5]?=some D1:=by rw[hp5,qbY y2 (by omega),hD1,show y2 / 10=u / 10 % 10 by omega]
 have tq5:tab2[q5]?=some D0:=by rw[hq5,qbZ y2 (by omega),hD0,show y2 % 10=u / 1 % 10 by omega]
 obtain⟨p6,hp6⟩ : ∃ p:Nat,p=2*y1:=⟨_,rfl⟩
 obtain⟨q6,hq6⟩ : ∃ q:Nat,q=2*y1+1:=⟨_,rfl⟩
 have mp6:IntKind.u32.wrap ((y1:Int)*2)=(p6:Int):=by rw[IntKind.wrap_u32']; omega
 have mq6:IntKind.u32.wrap ((p6:Int)+1)=(q6:Int):=by rw[IntKind.wrap_u32']; omega
 have tp6:tab2[p6]?=some D3:=by rw[hp6,qbY y1 (by omega),hD3,show y1 / 10=u / 1000 % 10 by omega]
 have tq6:tab2[q6]?=some D2:=by rw[hq6,qbZ y1 (by omega),hD2,show y1 % 10=u / 100 % 10 by omega]
 obtain⟨z1,hz1⟩ : ∃ p:Nat,p=C % 100:=⟨_,rfl⟩
 obtain⟨G,hG⟩ : ∃ p:Nat,p=C / 100:=⟨_,rfl⟩
 have n5:(C:Int).tmod 100=(z1:Int):=by rw[hz1]; rfl
 have n6:(C:Int).tdiv 100=(G:Int):=by rw[hG]; rfl
 have n6a:(C:Int) / 100=(G:Int):=by rw[hG]; rfl
 have n6b:IntKind.u32.wrap (G:Int)=G:=qfu (by omega)
 obtain⟨p7,hp7⟩ : ∃ p:Nat,p=2*z1:=⟨_,rfl⟩
 obtain⟨q7,hq7⟩ : ∃ q:Nat,q=2*z1+1:=⟨_,rfl⟩
 have mp7:IntKind.u32.wrap ((z1:Int)*2)=(p7:Int):=by rw[IntKind.wrap_u32']; omega
 have mq7:IntKind.u32.wrap ((p7:Int)+1)=(q7:Int):=by rw[IntKind.wrap_u32']; omega
 have tp7:tab2[p7]?=some D5:=by rw[hp7,qbY z1 (by omega),hD5,show z1 / 10=u / 100000 % 10 by omega]
 have tq7:tab2[q7]?=some D4:=by rw[hq7,qbZ z1 (by omega),hD4,show z1 % 10=u / 10000 % 10 by omega]
 have n7:IntKind.u8.wrap (IntKind.u32.wrap (48+(G:Int)))=(D6.toNat:Int):=by rw[hD6,qhl (by omega),IntKind.wrap_u32',IntKind.wrap_u8']; omega
 refine⟨D6,D5,D4,D3,D2,D1,D0,hdec,?_⟩
 obtain⟨v0,v1,v2,v3,v4,v5,v6,v7,v8,v9,v10,v11⟩:=qdm
 refine Z_call (pf:=F295K tab2) rfl rfl ?_
 clear hdec
 generalize tab2=tab at *
 simp[F295K,qaa,qac,qb7,F295l0Kx,V.len,qah,List.range_succ,v0,v1,v2,v3,v4,v5,v6,v7,v8,v9,v10,v11,n0,n1,n2,n3,n4,n2a,n2b,n3a,n3b,mp5,mq5,tp5,tq5,mp6,mq6,tp6,tq6,n5,n6,n6a,n6b,mp7,mq7,tp7,tq7,n7]
theorem qxq {u:Nat} (h1:10 ^ 6<=u) (h2:u<10 ^ 7) (h3:u<2147483648) (z:Z tQ (.call 294 [U64 u] [])=some (.ret (.int 7) [])):Z tQ (.call 291 [.int u,.int 10] [])=some (.ret (.str (bs (decB u))) []):=by
 obtain⟨D6,D5,D4,D3,D2,D1,D0,hdec,zf⟩:=qxp h1 h2 h3
 have ht:=qcg [D6,D5,D4,D3,D2,D1,D0]
 simp only[vb,List.map_cons,List.map_nil] at ht
 rw[<- hdec] at ht
 have h1':=h1
 simp only[Nat.reducePow] at h1'
 have c1 : ¬ (u:Int)<100:=by omega
 have c2 : ¬ (u:Int)<0:=by omega
 have c3:(0:Int)<=u:=by omega
 have c4:=qoZ (show u<18446744073709551616 by omega)
 obtain⟨v0,v1,v2,v3,v4,v5,v6,v7,v8,v9,v10,v11⟩:=qdm
 generalize decB u=q at *
 refine Z_call (pf:=F291) rfl rfl ?_
 simp[F291,z,zf,ht,bs,c1,c2,c3,c4,bound,List.range_succ,v0,v1,v2,v3,v4,v5,v6,v7,v8,v9,v10,v11]
theorem qxr {u:Nat} (h1:10 ^ 7<=u) (h2:u<10 ^ 8) (h3:u<2147483648) : ∃ D7 D6 D5 D4 D3 D2 D1 D0:UInt8,decB u=[D7,D6,D5,D4,D3,D2,D1,D0]/\Z tQ (.call 295 [.msl 0 1 8 23 1,U64 u] [.cells [u8z,u8z,u8z,u8z,u8z,u8z,u8z,u8z,u8z,u8z,u8z,u8z,u8z,u8z,u8z,u8z,u8z,u8z,u8z,u8z,u8z,u8z,u8z,u8z]])=some (.ret (.tup []) [.cells [u8z,.dat (.lit (.int .u8 D7.toNat)),.dat (.lit (.int .u8 D6.toNat)),.dat (.lit (.int .u8 D5.toNat)),.dat (.lit (.int .u8 D4.toNat)),.dat (.lit (.int .u8 D3.toNat)),.dat (.lit (.int .u8 D2.toNat)),.dat (.lit (.int .u8 D1.toNat)),.dat (.lit (.int .u8 D0.toNat)),u8z,u8z,u8z,u8z,u8z,u8z,u8z,u8z,u8z,u8z,u8z,u8z,u8z,u8z,u8z]]):=by
 have h1':=h1
 have h2':=h2
 simp only[Nat.reducePow] at h1' h2'
 obtain⟨D0,hD0⟩ : ∃ b:UInt8,b=dg (u / 1 % 10):=⟨_,rfl⟩
 obtain⟨D1,hD1⟩ : ∃ b:UInt8,b=dg (u / 10 % 10):=⟨_,rfl⟩
 obtain⟨D2,hD2⟩ : ∃ b:UInt8,b=dg (u / 100 % 10):=⟨_,rfl⟩
 obtain⟨D3,hD3⟩ : ∃ b:UInt8,b=dg (u / 1000 % 10):=⟨_,rfl⟩
 obtain⟨D4,hD4⟩ : ∃ b:UInt8,b=dg (u / 10000 % 10):=⟨_,rfl⟩
 obtain⟨D5,hD5⟩ : ∃ b:UInt8,b=dg (u / 100000 % 10):=⟨_,rfl⟩
 obtain⟨D6,hD6⟩ : ∃ b:UInt8,b=dg (u / 1000000 % 10):=⟨_,rfl⟩
 obtain⟨D7,hD7⟩ : ∃ b:UInt8,b=dg (u / 10000000 % 10):=⟨_,rfl⟩
 have hdec:decB u=[D7,D6,D5,D4,D3,D2,D1,D0]:=by
  rw[qc9 (d:=7) h2 h1 (by omega)]
  simp only[qnH,List.nil_append,List.cons_append,hD0,hD1,hD2,hD3,hD4,hD5,hD6,hD7,Nat.div_div_eq_div_mul,Nat.reduceMul,Nat.div_one]
 obtain⟨A,hA⟩ : ∃ p:Nat,p=u % 100000000:=⟨_,rfl⟩
 obtain⟨B,hB⟩ : ∃ p:Nat,p=u / 100000000:=⟨_,rfl⟩
 obtain⟨H,hH⟩ : ∃ p:Nat,p=A / 10000:=⟨_,rfl⟩
 obtain⟨L,hL⟩ : ∃ p:Nat,p=A % 10000:=⟨_,rfl⟩
 obtain⟨x1,hx1⟩ : ∃ p:Nat,p=L / 100:=⟨_,rfl⟩
 obtain⟨x2,hx2⟩ : ∃ p:Nat,p=L % 100:=⟨_,rfl⟩
 obtain⟨x3,hx3⟩ : ∃ p:Nat,p=H / 100:=⟨_,rfl⟩
 obtain⟨x4,hx4⟩ : ∃ p:Nat,p=H % 100:=⟨_,rfl⟩
 have m1:(u:Int).tmod 100000000=(A:Int):=by rw[hA]; rfl
 have m2:IntKind.u32.wrap (A:Int)=A:=qfu (by omega)
 have m3:(u:Int).tdiv 100000000=(B:Int):=by rw[hB]; rfl
 have m3a:(u:Int) / 100000000=(B:Int):=by rw[hB]; rfl
 have m3b:IntKind.u64.wrap (B:Int)=B:=qoZ (by omega)
 have m4:(A:Int).tdiv 10000=(H:Int):=by rw[hH]; rfl
 have m4a:(A:Int) / 10000=(H:Int):=by rw[hH]; rfl
 have m4b:IntKind.u32.wrap (H:Int)=H:=qfu (by omega)
 have m5:(A:Int).tmod 10000=(L:Int):=by rw[hL]; rfl
 have m6:(L:Int).tdiv 100=(x1:Int):=by rw[hx1]; rfl
 have m6a:(L:Int) / 100=(x1:Int):=by rw[hx1]; rfl
 have m6b:IntKind.u32.wrap (x1:Int)=x1:=qfu (by omega)
 have m7:(L:Int).tmod 100=(x2:Int):=by rw[hx2]; rfl
 have m8:(H:Int).tdiv 100=(x3:Int):=by rw[hx3]; rfl
 have m8a:(H:Int) / 100=(x3:Int):=by rw[hx3]; rfl
 have m8b:IntKind.u32.wrap (x3:Int)=x3:=qfu (by omega)
 have m9:(H:Int).tmod 100=(x4:Int):=by rw[hx4]; rfl
 obtain⟨p1,hp1⟩ : ∃ p:Nat,p=2*x2:=⟨_,rfl⟩
 obtain⟨q1,hq1⟩ : ∃ q:Nat,q=2*x2+1:=⟨_,rfl⟩
 have mp1:IntKind.u32.wrap ((x2:Int)*2)=(p1:Int):=by rw[IntKind.wrap_u32']; omega
 have mq1:IntKind.u32.wrap ((p1:Int)+1)=(q1:Int):=by rw[IntKind.wrap_u32']; omega
 have tp1:tab2[p1]?=some D1:=by rw[hp1,qbY x2 (by omega),hD1,show x2 / 10=u / 10 % 10 by omega]
 have tq1:tab2[q1]?=some D0:=by rw[hq1,qbZ x2 (by omega),hD0,show x2 % 10=u / 1 % 10 by omega]
 obtain⟨p2,hp2⟩ : ∃ p:Nat,p=2*x1:=⟨_,rfl⟩
 obtain⟨q2,hq2⟩ : ∃ q:Nat,q=2*x1+1:=⟨_,rfl⟩
 have mp2:IntKind.u32.wrap ((x1:Int)*2)=(p2:Int):=by rw[IntKind.wrap_u32']; omega
 have mq2:IntKind.u32.wrap ((p2:Int)+1)=(q2:Int):=by rw[IntKind.wrap_u32']; omega
 have tp2:tab2[p2]?=some D3:=by rw[hp2,qbY x1 (by omega),hD3,show x1 / 10=u / 1000 % 10 by omega]
 have tq2:tab2[q2]?=some D2:=by rw[hq2,qbZ x1 (by omega),hD2,show x1 % 10=u / 100 % 10 by omega]
 obtain⟨p3,hp3⟩ : ∃ p:Nat,p=2*x4:=⟨_,rfl⟩
 obtain⟨q3,hq3⟩ : ∃ q:Nat,q=2*x4+1:=⟨_,rfl⟩
 have mp3:IntKind.u32.wrap ((x4:Int)*2)=(p3:Int):=by rw[IntKind.wrap_u32']; omega
 have mq3:IntKind.u32.wrap ((p3:Int)+1)=(q3:Int):=by rw[IntKind.wrap_u32']; omega
 have tp3:tab2[p3]?=some D5:=by rw[hp3,qbY x4 (by omega),hD5,show x4 / 10=u / 100000 % 10 by omega]
 have tq3:tab2[q3]?=some D4:=by rw[hq3,qbZ x4 (by omega),hD4,show x4 % 10=u / 10000 % 10 by omega]
 obtain⟨p4,hp4⟩ : ∃ p:Nat,p=2*x3:=⟨_,rfl⟩
 obtain⟨q4,hq4⟩ : ∃ q:Nat,q=2*x3+1:=⟨_,rfl⟩
 have mp4:IntKind.u32.wrap ((x3:Int)*2)=(p4:Int):=by rw[IntKind.wrap_u32']; omega
 have mq4:IntKind.u32.wrap ((p4:Int)+1)=(q4:Int):=by rw[IntKind.wrap_u32']; omega
 have tp4:tab2[p4]?=some D7:=by rw[hp4,qbY x3 (by omega),hD7,show x3 / 10=u / 10000000 % 10 by omega]
 have tq4:tab2[q4]?=some D6:=by rw[hq4,qbZ x3 (by omega),hD6,show x3 % 10=u / 1000000 % 10 by omega]
 have n0:IntKind.u32.wrap (B:Int)=B:=qfu (by omega)
 refine⟨D7,D6,D5,D4,D3,D2,D1,D0,hdec,?_⟩
 obtain⟨v0,v1,v2,v3,v4,v5,v6,v7,v8,v9,v10,v11⟩:=qdm
 refine Z_call (pf:=F295K tab2) rfl rfl ?_
 clear hdec
 generalize tab2=tab at *
 simp[F295K,qaa,qac,qb7,F295l0Kx,V.len,qah,List.range_succ,v0,v1,v2,v3,v4,v5,v6,v7,v8,v9,v10,v11,m1,m2,m3,m4,m5,m6,m7,m8,m9,m3a,m3b,m4a,m4b,m6a,m6b,m8a,m8b,mp1,mq1,tp1,tq1,mp2,mq2,tp2,tq2,mp3,mq3,tp3,tq3,mp4,mq4,tp4,tq4,n0]
theorem qxs {u:Nat} (h1:10 ^ 7<=u) (h2:u<10 ^ 8) (h3:u<2147483648) (z:Z tQ (.call 294 [U64 u] [])=some (.ret (.int 8) [])):Z tQ (.call 291 [.int u,.int 10] [])=some (.ret (.str (bs (decB u))) []):=by
 obtain⟨D7,D6,D5,D4,D3,D2,D1,D0,hdec,zf⟩:=qxr h1 h2 h3
 have ht:=qcg [D7,D6,D5,D4,D3,D2,D1,D0]
 simp only[vb,List.map_cons,List.map_nil] at ht
 rw[<- hdec] at ht
 have h1':=h1
 simp only[Nat.reducePow] at h1'
 have c1 : ¬ (u:Int)<100:=by omega
 have c2 : ¬ (u:Int)<0:=by omega
 have c3:(0:Int)<=u:=by omega
 have c4:=qoZ (show u<18446744073709551616 by omega)
 obtain⟨v0,v1,v2,v3,v4,v5,v6,v7,v8,v9,v10,v11⟩:=qdm
 generalize decB u=q at *
 refine Z_call (pf:=F291) rfl rfl ?_
 simp[F291,z,zf,ht,bs,c1,c2,c3,c4,bound,List.range_succ,v0,v1,v2,v3,v4,v5,v6,v7,v8,v9,v10,v11]
theorem qxt {u:Nat} (h1:10 ^ 8<=u) (h2:u<10 ^ 9) (h3:u<2147483648) : ∃ D8 D7 D6 D5 D4 D3 D2 D1 D0:UInt8,decB u=[D8,D7,D6,D5,D4,D3,D2,D1,D0]/\Z tQ (.call 295 [.msl 0 1 9 23 1,U64 u] [.cells [u8z,u8z,u8z,u8z,u8z,u8z,u8z,u8z,u8z,u8z,u8z,u8z,u8z,u8z,u8z,u8z,u8z,u8z,u8z,u8z,u8z,u8z,u8z,u8z]])=some (.ret (.tup []) [.cells [u8z,.dat (.lit (.int .u8 D8.toNat)),.dat (.lit (.int .u8 D7.toNat)),.dat (.lit (.int .u8 D6.toNat)),.dat (.lit (.int .u8 D5.toNat)),.dat (.lit (.int .u8 D4.toNat)),.dat (.lit (.int .u8 D3.toNat)),.dat (.lit (.int .u8 D2.toNat)),.dat (.lit (.int .u8 D1.toNat)),.dat (.lit (.int .u8 D0.toNat)),u8z,u8z,u8z,u8z,u8z,u8z,u8z,u8z,u8z,u8z,u8z,u8z,u8z,u8z]]):=by
 have h1':=h1
 have h2':=h2
 simp only[Nat.reducePow] at h1' h2'
 obtain⟨D0,hD0⟩ : ∃ b:UInt8,b=dg (u / 1 % 10):=⟨_,rfl⟩
 obtain⟨D1,hD1⟩ : ∃ b:UInt8,b=dg (u / 10 % 10):=⟨_,rfl⟩
 obtain⟨D2,hD2⟩ : ∃ b:UInt8,b=dg (u / 100 % 10):=⟨_,rfl⟩
 obtain⟨D3,hD3⟩ : ∃ b:UInt8,b=dg (u / 1000 % 10):=⟨_,rfl⟩
 obtain⟨D4,hD4⟩ : ∃ b:UInt8,b=dg (u / 10000 % 10):=⟨_,rfl⟩
 obtain⟨D5,hD5⟩ : ∃ b:UInt8,b=dg (u / 100000 % 10):=⟨_,rfl⟩
 obtain⟨D6,hD6⟩ : ∃ b:UInt8,b=dg (u / 1000000 % 10):=⟨_,rfl⟩
 obtain⟨D7,hD7⟩ : ∃ b:UInt8,b=dg (u / 10000000 % 10):=⟨_,rfl⟩
 obtain⟨D8,hD8⟩ : ∃ b:UInt8,b=dg (u / 100000000 % 10):=⟨_,rfl⟩
 have hdec:decB u=[D8,D7,D6,D5,D4,D3,D2,D1,D0]:=by
  rw[qc9 (d:=8) h2 h1 (by omega)]
  simp only[qnH,List.nil_append,List.cons_append,hD0,hD1,hD2,hD3,hD4,hD5,hD6,hD7,hD8,Nat.div_div_eq_div_mul,Nat.reduceMul,Nat.div_one]
 obtain⟨A,hA⟩ : ∃ p:Nat,p=u % 100000000:=⟨_,rfl⟩
 obtain⟨B,hB⟩ : ∃ p:Nat,p=u / 100000000:=⟨_,rfl⟩
 obtain⟨H,hH⟩ : ∃ p:Nat,p=A / 10000:=⟨_,rfl⟩
 obtain⟨L,hL⟩ : ∃ p:Nat,p=A % 10000:=⟨_,rfl⟩
 obtain⟨x1,hx1⟩ : ∃ p:Nat,p=L / 100:=⟨_,rfl⟩
 obtain⟨x2,hx2⟩ : ∃ p:Nat,p=L % 100:=⟨_,rfl⟩
 obtain⟨x3,hx3⟩ : ∃ p:Nat,p=H / 100:=⟨_,rfl⟩
 obtain⟨x4,hx4⟩ : ∃ p:Nat,p=H % 100:=⟨_,rfl⟩
 have m1:(u:Int).tmod 100000000=(A:Int):=by rw[hA]; rfl
 have m2:IntKind.u32.wrap (A:Int)=A:=qfu (by omega)
 have m3:(u:Int).tdiv 100000000=(B:Int):=by rw[hB]; rfl
 have m3a:(u:Int) / 100000000=(B:Int):=by rw[hB]; rfl
 have m3b:IntKind.u64.wrap (B:Int)=B:=qoZ (by omega)
 have m4:(A:Int).tdiv 10000=(H:Int):=by rw[hH]; rfl
 have m4a:(A:Int) / 10000=(H:Int):=by rw[hH]; rfl
 have m4b:IntKind.u32.wrap (H:Int)=H:=qfu (by omega)
 have m5:(A:Int).tmod 10000=(L:Int):=by rw[hL]; rfl
 have m6:(L:Int).tdiv 100=(x1:Int):=by rw[hx1]; rfl
 have m6a:(L:Int) / 100=(x1:Int):=by rw[hx1]; rfl
 have m6b:IntKind.u32.wrap (x1:Int)=x1:=qfu (by omega)
 have m7:(L:Int).tmod 100=(x2:Int):=by rw[hx2]; rfl
 have m8:(H:Int).tdiv 100=(x3:Int):=by rw[hx3]; rfl
 have m8a:(H:Int) / 100=(x3:Int):=by rw[hx3]; rfl
 have m8b:IntKind.u32.wrap (x3:Int)=x3:=qfu (by omega)
 have m9:(H:Int).tmod 100=(x4:Int):=by rw[hx4]; rfl
 obtain⟨p1,hp1⟩ : ∃ p:Nat,p=2*x2:=⟨_,rfl⟩
 obtain⟨q1,hq1⟩ : ∃ q:Nat,q=2*x2+1:=⟨_,rfl⟩
 have mp1:IntKind.u32.wrap ((x2:Int)*2)=(p1:Int):=by rw[IntKind.wrap_u32']; omega
 have mq1:IntKind.u32.wrap ((p1:Int)+1)=(q1:Int):=by rw[IntKind.wrap_u32']; omega
 have tp1:tab2[p1]?=some D1:=by rw[hp1,qbY x2 (by omega),hD1,show x2 / 10=u / 10 % 10 by omega]
 have tq1:tab2[q1]?=some D0:=by rw[hq1,qbZ x2 (by omega),hD0,show x2 % 10=u / 1 % 10 by omega]
 obtain⟨p2,hp2⟩ : ∃ p:Nat,p=2*x1:=⟨_,rfl⟩
 obtain⟨q2,hq2⟩ : ∃ q:Nat,q=2*x1+1:=⟨_,rfl⟩
 have mp2:IntKind.u32.wrap ((x1:Int)*2)=(p2:Int):=by rw[IntKind.wrap_u32']; omega
 have mq2:IntKind.u32.wrap ((p2:Int)+1)=(q2:Int):=by rw[IntKind.wrap_u32']; omega
 have tp2:tab2[p2]?=some D3:=by rw[hp2,qbY x1 (by omega),hD3,show x1 / 10=u / 1000 % 10 by omega]
 have tq2:tab2[q2]?=some D2:=by rw[hq2,qbZ x1 (by omega),hD2,show x1 % 10=u / 100 % 10 by omega]
 obtain⟨p3,hp3⟩ : ∃ p:Nat,p=2*x4:=⟨_,rfl⟩
 obtain⟨q3,hq3⟩ : ∃ q:Nat,q=2*x4+1:=⟨_,rfl⟩
 have mp3:IntKind.u32.wrap ((x4:Int)*2)=(p3:Int):=by rw[IntKind.wrap_u32']; omega
 have mq3:IntKind.u32.wrap ((p3:Int)+1)=(q3:Int):=by rw[IntKind.wrap_u32']; omega
 have tp3:tab2[p3]?=some D5:=by rw[hp3,qbY x4 (by omega),hD5,show x4 / 10=u / 100000 % 10 by omega]
 have tq3:tab2[q3]?=some D4:=by rw[hq3,qbZ x4 (by omega),hD4,show x4 % 10=u / 10000 % 10 by omega]
 obtain⟨p4,hp4⟩ : ∃ p:Nat,p=2*x3:=⟨_,rfl⟩
 obtain⟨q4,hq4⟩ : ∃ q:Nat,q=2*x3+1:=⟨_,rfl⟩
 have mp4:IntKind.u32.wrap ((x3:Int)*2)=(p4:Int):=by rw[IntKind.wrap_u32']; omega
 have mq4:IntKind.u32.wrap ((p4:Int)+1)=(q4:Int):=by rw[IntKind.wrap_u32']; omega
 have tp4:tab2[p4]?=some D7:=by rw[hp4,qbY x3 (by omega),hD7,show x3 / 10=u / 10000000 % 10 by omega]
 have tq4:tab2[q4]?=some D6:=by rw[hq4,qbZ x3 (by omega),hD6,show x3 % 10=u / 1000000 % 10 by omega]
 have n0:IntKind.u32.wrap (B:Int)=B:=qfu (by omega)
 have n7:IntKind.u8.wrap (IntKind.u32.wrap (48+(B:Int)))=(D8.toNat:Int):=by rw[hD8,qhl (by omega),IntKind.wrap_u32',IntKind.wrap_u8']; omega
 refine⟨D8,D7,D6,D5,D4,D3,D2,D1,D0,hdec,?_⟩
 obtain⟨v0,v1,v2,v3,v4,v5,v6,v7,v8,v9,v10,v11⟩:=qdm
 refine Z_call (pf:=F295K tab2) rfl rfl ?_
 clear hdec
 generalize tab2=tab at *
 simp[F295K,qaa,qac,qb7,F295l0Kx,V.len,qah,List.range_succ,v0,v1,v2,v3,v4,v5,v6,v7,v8,v9,v10,v11,m1,m2,m3,m4,m5,m6,m7,m8,m9,m3a,m3b,m4a,m4b,m6a,m6b,m8a,m8b,mp1,mq1,tp1,tq1,mp2,mq2,tp2,tq2,mp3,mq3,tp3,tq3,mp4,mq4,tp4,tq4,n0,n7]
theorem qxu {u:Nat} (h1:10 ^ 8<=u) (h2:u<10 ^ 9) (h3:u<2147483648) (z:Z tQ (.call 294 [U64 u] [])=some (.ret (.int 9) [])):Z tQ (.call 291 [.int u,.int 10] [])=some (.ret (.str (bs (decB u))) []):=by
 obtain⟨D8,D7,D6,D5,D4,D3,D2,D1,D0,hdec,zf⟩:=qxt h1 h2 h3
 have ht:=qcg [D8,D7,D6,D5,D4,D3,D2,D1,D0]
 simp only[vb,List.map_cons,List.map_nil] at ht
 rw[<- hdec] at ht
 have h1':=h1
 simp only[Nat.reducePow] at h1'
 have c1 : ¬ (u:Int)<100:=by omega
 have c2 : ¬ (u:Int)<0:=by omega
 have c3:(0:Int)<=u:=by omega
 have c4:=qoZ (show u<18446744073709551616 by omega)
 obtain⟨v0,v1,v2,v3,v4,v5,v6,v7,v8,v9,v10,v11⟩:=qdm
 generalize decB u=q at *
 refine Z_call (pf:=F291) rfl rfl ?_
 simp[F291,z,zf,ht,bs,c1,c2,c3,c4,bound,List.range_succ,v0,v1,v2,v3,v4,v5,v6,v7,v8,v9,v10,v11]
theorem qvm {u:Nat} (h1:10 ^ 9<=u) (h2:u<10 ^ 10) (h3:u<2147483648) : ∃ D9 D8 D7 D6 D5 D4 D3 D2 D1 D0:UInt8,decB u=[D9,D8,D7,D6,D5,D4,D3,D2,D1,D0]/\Z tQ (.call 295 [.msl 0 1 10 23 1,U64 u] [.cells [u8z,u8z,u8z,u8z,u8z,u8z,u8z,u8z,u8z,u8z,u8z,u8z,u8z,u8z,u8z,u8z,u8z,u8z,u8z,u8z,u8z,u8z,u8z,u8z]])=some (.ret (.tup []) [.cells [u8z,.dat (.lit (.int .u8 D9.toNat)),.dat (.lit (.int .u8 D8.toNat)),.dat (.lit (.int .u8 D7.toNat)),.dat (.lit (.int .u8 D6.toNat)),.dat (.lit (.int .u8 D5.toNat)),.dat (.lit (.int .u8 D4.toNat)),.dat (.lit (.int .u8 D3.toNat)),.dat (.lit (.int .u8 D2.toNat)),.dat (.lit (.int .u8 D1.toNat)),.dat (.lit (.int .u8 D0.toNat)),u8z,u8z,u8z,u8z,u8z,u8z,u8z,u8z,u8z,u8z,u8z,u8z,u8z]]):=by
 have h1':=h1
 have h2':=h2
 simp only[Nat.reducePow] at h1' h2'
 obtain⟨D0,hD0⟩ : ∃ b:UInt8,b=dg (u / 1 % 10):=⟨_,rfl⟩
 obtain⟨D1,hD1⟩ : ∃ b:UInt8,b=dg (u / 10 % 10):=⟨_,rfl⟩
 obtain⟨D2,hD2⟩ : ∃ b:UInt8,b=dg (u / 100 % 10):=⟨_,rfl⟩
 obtain⟨D3,hD3⟩ : ∃ b:UInt8,b=dg (u / 1000 % 10):=⟨_,rfl⟩
 obtain⟨D4,hD4⟩ : ∃ b:UInt8,b=dg (u / 10000 % 10):=⟨_,rfl⟩
 obtain⟨D5,hD5⟩ : ∃ b:UInt8,b=dg (u / 100000 % 10):=⟨_,rfl⟩
 obtain⟨D6,hD6⟩ : ∃ b:UInt8,b=dg (u / 1000000 % 10):=⟨_,rfl⟩
 obtain⟨D7,hD7⟩ : ∃ b:UInt8,b=dg (u / 10000000 % 10):=⟨_,rfl⟩
 obtain⟨D8,hD8⟩ : ∃ b:UInt8,b=dg (u / 100000000 % 10):=⟨_,rfl⟩
 obtain⟨D9,hD9⟩ : ∃ b:UInt8,b=dg (u / 1000000000 % 10):=⟨_,rfl⟩
 have hdec:decB u=[D9,D8,D7,D6,D5,D4,D3,D2,D1,D0]:=by
  rw[qc9 (d:=9) h2 h1 (by omega)]
  simp only[qnH,List.nil_append,List.cons_append,hD0,hD1,hD2,hD3,hD4,hD5,hD6,hD7,hD8,hD9,Nat.div_div_eq_div_mul,Nat.reduceMul,Nat.div_one]
 obtain⟨A,hA⟩ : ∃ p:Nat,p=u % 100000000:=⟨_,rfl⟩
 obtain⟨B,hB⟩ : ∃ p:Nat,p=u / 100000000:=⟨_,rfl⟩
 obtain⟨H,hH⟩ : ∃ p:Nat,p=A / 10000:=⟨_,rfl⟩
 obtain⟨L,hL⟩ : ∃ p:Nat,p=A % 10000:=⟨_,rfl⟩
 obtain⟨x1,hx1⟩ : ∃ p:Nat,p=L / 100:=⟨_,rfl⟩
 obtain⟨x2,hx2⟩ : ∃ p:Nat,p=L % 100:=⟨_,rfl⟩
 obtain⟨x3,hx3⟩ : ∃ p:Nat,p=H / 100:=⟨_,rfl⟩
 obtain⟨x4,hx4⟩ : ∃ p:Nat,p=H % 100:=⟨_,rfl⟩
 have m1:(u:Int).tmod 100000000=(A:Int):=by rw[hA]; rfl
 have m2:IntKind.u32.wrap (A:Int)=A:=qfu (by omega)
 have m3:(u:Int).tdiv 100000000=(B:Int):=by rw[hB]; rfl
 have m3a:(u:Int) / 100000000=(B:Int):=by rw[hB]; rfl
 have m3b:IntKind.u64.wrap (B:Int)=B:=qoZ (by omega)
 have m4:(A:Int).tdiv 10000=(H:Int):=by rw[hH]; rfl
 have m4a:(A:Int) / 10000=(H:Int):=by rw[hH]; rfl
 have m4b:IntKind.u32.wrap (H:Int)=H:=qfu (by omega)
 have m5:(A:Int).tmod 10000=(L:Int):=by rw[hL]; rfl
 have m6:(L:Int).tdiv 100=(x1:Int):=by rw[hx1]; rfl
 have m6a:(L:Int) / 100=(x1:Int):=by rw[hx1]; rfl
 have m6b:IntKind.u32.wrap (x1:Int)=x1:=qfu (by omega)
 have m7:(L:Int).tmod 100=(x2:Int):=by rw[hx2]; rfl
 have m8:(H:Int).tdiv 100=(x3:Int):=by rw[hx3]; rfl
 have m8a:(H:Int) / 100=(x3:Int):=by rw[hx3]; rfl
 have m8b:IntKind.u32.wrap (x3:Int)=x3:=qfu (by omega)
 have m9:(H:Int).tmod 100=(x4:Int):=by rw[hx4]; rfl
 obtain⟨p1,hp1⟩ : ∃ p:Nat,p=2*x2:=⟨_,rfl⟩
 obtain⟨q1,hq1⟩ : ∃ q:Nat,q=2*x2+1:=⟨_,rfl⟩
 have mp1:IntKind.u32.wrap ((x2:Int)*2)=(p1:Int):=by rw[IntKind.wrap_u32']; omega
 have mq1:IntKind.u32.wrap ((p1:Int)+1)=(q1:Int):=by rw[IntKind.wrap_u32']; omega
 have tp1:tab2[p1]?=some D1:=by rw[hp1,qbY x2 (by omega),hD1,show x2 / 10=u / 10 % 10 by omega]
 have tq1:tab2[q1]?=some D0:=by rw[hq1,qbZ x2 (by omega),hD0,show x2 % 10=u / 1 % 10 by omega]
 obtain⟨p2,hp2⟩ : ∃ p:Nat,p=2*x1:=⟨_,rfl⟩
 obtain⟨q2,hq2⟩ : ∃ q:Nat,q=2*x1+1:=⟨_,rfl⟩
 have mp2:IntKind.u32.wrap ((x1:Int)*2)=(p2:Int):=by rw[IntKind.wrap_u32']; omega
 have mq2:IntKind.u32.wrap ((p2:Int)+1)=(q2:Int):=by rw[IntKind.wrap_u32']; omega
 have tp2:tab2[p2]?=some D3:=by rw[hp2,qbY x1 (by omega),hD3,show x1 / 10=u / 1000 % 10 by omega]
 have tq2:tab2[q2]?=some D2:=by rw[hq2,qbZ x1 (by omega),hD2,show x1 % 10=u / 100 % 10 by omega]
 obtain⟨p3,hp3⟩ : ∃ p:Nat,p=2*x4:=⟨_,rfl⟩
 obtain⟨q3,hq3⟩ : ∃ q:Nat,q=2*x4+1:=⟨_,rfl⟩
 have mp3:IntKind.u32.wrap ((x4:Int)*2)=(p3:Int):=by rw[IntKind.wrap_u32']; omega
 have mq3:IntKind.u32.wrap ((p3:Int)+1)=(q3:Int):=by rw[IntKind.wrap_u32']; omega
 have tp3:tab2[p3]?=some D5:=by rw[hp3,qbY x4 (by omega),hD5,show x4 / 10=u / 100000 % 10 by omega]
 have tq3:tab2[q3]?=some D4:=by rw[hq3,qbZ x4 (by omega),hD4,show x4 % 10=u / 10000 % 10 by omega]
 obtain⟨p4,hp4⟩ : ∃ p:Nat,p=2*x3:=⟨_,rfl⟩
 obtain⟨q4,hq4⟩ : ∃ q:Nat,q=2*x3+1:=⟨_,rfl⟩
 have mp4:IntKind.u32.wrap ((x3:Int)*2)=(p4:Int):=by rw[IntKind.wrap_u32']; omega
 have mq4:IntKind.u32.wrap ((p4:Int)+1)=(q4:Int):=by rw[IntKind.wrap_u32']; omega
 have tp4:tab2[p4]?=some D7:=by rw[hp4,qbY x3 (by omega),hD7,show x3 / 10=u / 10000000 % 10 by omega]
 have tq4:tab2[q4]?=some D6:=by rw[hq4,qbZ x3 (by omega),hD6,show x3 % 10=u / 1000000 % 10 by omega]
 have n0:IntKind.u32.wrap (B:Int)=B:=qfu (by omega)
 obtain⟨z1,hz1⟩ : ∃ p:Nat,p=B % 100:=⟨_,rfl⟩
 obtain⟨G,hG⟩ : ∃ p:Nat,p=B / 100:=⟨_,rfl⟩
 have n5:(B:Int).tmod 100=(z1:Int):=by rw[hz1]; rfl
 have n6:(B:Int).tdiv 100=(G:Int):=by rw[hG]; rfl
 have n6a:(B:Int) / 100=(G:Int):=by rw[hG]; rfl
 have n6b:IntKind.u32.wrap (G:Int)=G:=qfu (by omega)
 obtain⟨p7,hp7⟩ : ∃ p:Nat,p=2*z1:=⟨_,rfl⟩
 obtain⟨q7,hq7⟩ : ∃ q:Nat,q=2*z1+1:=⟨_,rfl⟩
 have mp7:IntKind.u32.wrap ((z1:Int)*2)=(p7:Int):=by rw[IntKind.wrap_u32']; omega
 have mq7:IntKind.u32.wrap ((p7:Int)+1)=(q7:Int):=by rw[IntKind.wrap_u32']; omega
 have tp7:tab2[p7]?=some D9:=by rw[hp7,qbY z1 (by omega),hD9,show z1 / 10=u / 1000000000 % 10 by omega]
 have tq7:tab2[q7]?=some D8:=by rw[hq7,qbZ z1 (by omega),hD8,show z1 % 10=u / 100000000 % 10 by omega]
 refine⟨D9,D8,D7,D6,D5,D4,D3,D2,D1,D0,hdec,?_⟩
 obtain⟨v0,v1,v2,v3,v4,v5,v6,v7,v8,v9,v10,v11⟩:=qdm
 refine Z_call (pf:=F295K tab2) rfl rfl ?_
 clear hdec
 generalize tab2=tab at *
 simp[F295K,qaa,qac,qb7,F295l0Kx,V.len,qah,List.range_succ,v0,v1,v2,v3,v4,v5,v6,v7,v8,v9,v10,v11,m1,m2,m3,m4,m5,m6,m7,m8,m9,m3a,m3b,m4a,m4b,m6a,m6b,m8a,m8b,mp1,mq1,tp1,tq1,mp2,mq2,tp2,tq2,mp3,mq3,tp3,tq3,mp4,mq4,tp4,tq4,n0,n5,n6,n6a,n6b,mp7,mq7,tp7,tq7]
theorem qvn {u:Nat} (h1:10 ^ 9<=u) (h2:u<10 ^ 10) (h3:u<2147483648) (z:Z tQ (.call 294 [U64 u] [])=some (.ret (.int 10) [])):Z tQ (.call 291 [.int u,.int 10] [])=some (.ret (.str (bs (decB u))) []):=by
 obtain⟨D9,D8,D7,D6,D5,D4,D3,D2,D1,D0,hdec,zf⟩:=qvm h1 h2 h3
 have ht:=qcg [D9,D8,D7,D6,D5,D4,D3,D2,D1,D0]
 simp only[vb,List.map_cons,List.map_nil] at ht
 rw[<- hdec] at ht
 have h1':=h1
 simp only[Nat.reducePow] at h1'
 have c1 : ¬ (u:Int)<100:=by omega
 have c2 : ¬ (u:Int)<0:=by omega
 have c3:(0:Int)<=u:=by omega
 have c4:=qoZ (show u<18446744073709551616 by omega)
 obtain⟨v0,v1,v2,v3,v4,v5,v6,v7,v8,v9,v10,v11⟩:=qdm
 generalize decB u=q at *
 refine Z_call (pf:=F291) rfl rfl ?_
 simp[F291,z,zf,ht,bs,c1,c2,c3,c4,bound,List.range_succ,v0,v1,v2,v3,v4,v5,v6,v7,v8,v9,v10,v11]
def tabA:ByteArray:=⟨#[48,49,50,51,52,53,54,55,56,57,97,98,99,100,101,102,103,104,105,106,107,108,109,110,111,112,113,114,115,116,117,118,119,120,121,122]⟩
theorem qs4 {u:Nat} (h:u<100):Z tQ (.call 293 [.int u] [])=some (.ret (.str (bs (decB u))) []):=by
 have hA : ∀ u,u<10->tabA.extract u (u+1)=bs (decB u):=by decide +kernel
 have hB : ∀ u,u<100 -> ¬ u<10->tab2.extract (u*2) (u*2+2)=bs (decB u):=by decide +kernel
 refine Z_call (pf:=F293) rfl rfl ?_
 have sA:tabA.size=36:=rfl
 have sB:tab2.size=200:=rfl
 by_cases h10:u<10
 ·have c1:(u:Int)<10:=by omega
  have e:=hA u h10
  have w1:IntKind.i64.wrap ((u:Int)+1)=((u+1:Nat):Int):=by rw[qaf _ (by omega)]; omega
  obtain⟨u1,hu1⟩ : ∃ p:Nat,p=u+1:=⟨_,rfl⟩
  rw[<- hu1] at w1 e
  have b1:(u1:Int)<=tabA.size:=by rw[sA]; omega
  have b2:(u:Int)<=u1:=by omega
  simp only[tabA] at e b1
  generalize bs (decB u)=r at *
  simp[F293,c1,w1,qa7,bound,b1,b2,e]
 ·have c1 : ¬ (u:Int)<10:=by omega
  have e:=hB u h h10
  have w1:IntKind.i64.wrap ((u:Int)*2)=((u*2:Nat):Int):=by rw[qaf _ (by omega)]; omega
  obtain⟨u2,hu2⟩ : ∃ p:Nat,p=u*2:=⟨_,rfl⟩
  rw[<- hu2] at w1 e
  have w2:IntKind.i64.wrap ((u2:Int)+2)=((u2+2:Nat):Int):=by rw[qaf _ (by omega)]; omega
  obtain⟨u3,hu3⟩ : ∃ p:Nat,p=u2+2:=⟨_,rfl⟩
  rw[<- hu3] at w2 e
  have b1:(u3:Int)<=tab2.size:=by rw[sB]; omega
  have b2:(u2:Int)<=u3:=by omega
  simp only[tab2] at e b1
  generalize bs (decB u)=r at *
  simp[F293,c1,w1,w2,qa7,bound,b1,b2,e]
theorem qqW {u:Nat} (h:u<2147483648):Z tQ (.call 291 [.int u,.int 10] [])=some (.ret (.str (bs (decB u))) []):=by
 by_cases h1:u<100
 ·have z:=qs4 h1
  have c1:(u:Int)<100:=by omega
  generalize bs (decB u)=r at *
  refine Z_call (pf:=F291) rfl rfl ?_
  simp[F291,z,c1]
 ·obtain⟨d,d1,d2,d3,d4,z⟩:=qqC (by omega) h
  have hd:d=3\/d=4\/d=5\/d=6\/d=7\/d=8\/d=9\/d=10:=by omega
  rcases hd with rfl | rfl | rfl | rfl | rfl | rfl | rfl | rfl
  ·exact qxi d3 d4 h z
  ·exact qxk d3 d4 h z
  ·exact qxm d3 d4 h z
  ·exact qxo d3 d4 h z
  ·exact qxq d3 d4 h z
  ·exact qxs d3 d4 h z
  ·exact qxu d3 d4 h z
  ·exact qvn d3 d4 h z
theorem qvo {n:Int} (h0:0<=n) (h:n<=2147483647):Z tQ (.call 283 [.int n] [])=some (.ret (.str (bs (decB n.toNat))) []):=by
 have z:=qqW (u:=n.toNat) (by omega)
 rw[show ((n.toNat:Nat):Int)=n by omega] at z
 have z2:Z tQ (.call 288 [.int n] [])=some (.ret (.str (bs (decB n.toNat))) []):=by
  refine Z_call (pf:=F288) rfl rfl ?_
  simp[F288,z]
 refine Z_call (pf:=F283) rfl rfl ?_
 simp[F283,z2]
end Go.Pm
end SOe
section SOf
namespace Go.Pm
open F
set_option maxHeartbeats 4000000
theorem qdh (e:E):Z tQ (.call 282 [e.node] [])=some (.ret (.int e.lev) []):=by
 refine Z_call (pf:=F282) rfl rfl ?_
 cases e with
 | un f neg e=>cases neg<;>simp[F282,E.lev,qcZ,ustr,qaX]
 | bin f o a b=>cases o<;>simp[F282,E.lev,Bop.prec,Bop.str,qaX]
 | _=>simp[F282,E.lev]
theorem qto {k n:Int} {s:ByteArray} {cs:List D} {m i:Nat} {f:Bool} {ds:List D} (hi:i<m) (hm:m<2 ^ 30) (hc:cutCells cs (i*4) 4=some ds) (ho:ds.length=4) (h1 : ∀ d∈ds,V.one (.dat d)=true) :
  Z tQ (.call 274 [.dat (.agg [.lit (.int .i64 k),.lit (.int .i64 n),.lit (.string s),.sl cs m f]),.int i] [])=some (.ret (.dat (.agg ds)) []):=by
 obtain⟨a,b,c,d,rfl⟩ : ∃ a b c d,ds=[a,b,c,d]:=by
  match ds,ho with
  | [a,b,c,d],_=>exact⟨a,b,c,d,rfl⟩
 have ha:=h1 a (by simp)
 have hb:=h1 b (by simp)
 have hcc:=h1 c (by simp)
 have hd:=h1 d (by simp)
 have hlt:(i:Int)<m:=by omega
 refine Z_call (pf:=F274) rfl rfl ?_
 simp[F274,hc,ha,hb,hcc,hd,hlt,hi,qah,V.len,List.range_succ]
theorem qeb {k n:Int} {s:ByteArray} {a b:Int} {t:ByteArray} {u:D} {r:List D} {m:Nat} {f:Bool} (hm:0<m) (hm2:m<2 ^ 30) (hu:V.one (.dat u)=true) :
  Z tQ (.call 274 [.dat (.agg [.lit (.int .i64 k),.lit (.int .i64 n),.lit (.string s),.sl (.lit (.int .i64 a) :: .lit (.int .i64 b) :: .lit (.string t)::u::r) m f]),.int 0] [])=some (.ret (.dat (.agg [.lit (.int .i64 a),.lit (.int .i64 b),.lit (.string t),u])) []):=
 qto (i:=0) hm hm2 (by simp) rfl (by simp[hu,Value.oneCell'])
theorem qgf {k n:Int} {s:ByteArray} {a b:Int} {t:ByteArray} {u x0 x1 x2 x3:D} {r:List D} {m:Nat} {f:Bool} (hm:1<m) (hm2:m<2 ^ 30) (hu:V.one (.dat u)=true) :
  Z tQ (.call 274 [.dat (.agg [.lit (.int .i64 k),.lit (.int .i64 n),.lit (.string s),.sl (x0::x1::x2::x3 :: .lit (.int .i64 a) :: .lit (.int .i64 b) :: .lit (.string t)::u::r) m f]),.int 1] [])=some (.ret (.dat (.agg [.lit (.int .i64 a),.lit (.int .i64 b),.lit (.string t),u])) []):=
 qto (i:=1) hm hm2 (by simp) rfl (by simp[hu,Value.oneCell'])
theorem qr3 {k n:Int} {s:ByteArray} {a b:Int} {t:ByteArray} {u x0 x1 x2 x3 y0 y1 y2 y3:D} {r:List D} {m:Nat} {f:Bool} (hm:2<m) (hm2:m<2 ^ 30) (hu:V.one (.dat u)=true) :
  Z tQ (.call 274 [.dat (.agg [.lit (.int .i64 k),.lit (.int .i64 n),.lit (.string s),.sl (x0::x1::x2::x3::y0::y1::y2::y3 :: .lit (.int .i64 a) :: .lit (.int .i64 b) :: .lit (.string t)::u::r) m f]),.int 2] [])=some (.ret (.dat (.agg [.lit (.int .i64 a),.lit (.int .i64 b),.lit (.string t),u])) []):=
 qto (i:=2) hm hm2 (by simp) rfl (by simp[hu,Value.oneCell'])
theorem qbN {t:ByteArray} {w w':List UInt8} (hw:w'=pw w [t]) (ht:t.size≠0) (h:w'.length<2 ^ 40):Z tQ (.call 243 [.ptr 0 0,.dat (.sl [.lit (.string t)] 1 true)] (PW w))=some (.ret (.tup []) (PW w')):=by
 subst hw
 exact qvw true (ts:=[t]) (fun x hx=>by rw[List.mem_singleton.1 hx]; exact ht) (by simp) h
theorem qfv {t u:ByteArray} {w w':List UInt8} (hw:w'=pw w [t,u]) (ht:t.size≠0) (hu:u.size≠0) (h:w'.length<2 ^ 40):Z tQ (.call 243 [.ptr 0 0,.dat (.sl [.lit (.string t),.lit (.string u)] 2 true)] (PW w))=some (.ret (.tup []) (PW w')):=by
 subst hw
 exact qvw true (ts:=[t,u]) (fun x hx=>by
  rcases List.mem_cons.1 hx with e | hx
  ·rw[e]; exact ht
  ·rw[List.mem_singleton.1 hx]; exact hu) (by simp) h
theorem qma {t:ByteArray} {w w':List UInt8} (hw:w'=pw w [t]) (ht:t.size≠0) (h:w'.length<2 ^ 40):Z tQ (.dcall 243 [.dat (.lit .nilIface),.ptr 0 0,.dat (.sl [.lit (.string t)] 1 true)] (PW w))=some (.ret (.dat (.lit undef)) (PW w')):=by
 subst hw
 exact qvx true (ts:=[t]) (fun x hx=>by rw[List.mem_singleton.1 hx]; exact ht) (by simp) h
end Go.Pm
end SOf
