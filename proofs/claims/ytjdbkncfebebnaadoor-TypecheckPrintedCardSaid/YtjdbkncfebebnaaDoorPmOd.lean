/- strconv: how many digits; the tables of two digits and of lengths, as parameters. strconv: numbers written down. Chapter 13's printer: levels, kids. Chapter 13's printer: expressions. -/
import Derived.Test.YtjdbkncfebebnaaDoorPmFx
import Derived.Laws.BitsAllLaws
import Derived.Laws.Bits64
import Derived.Test.YtjdbkncfebebnaaDoorPmYh
set_option linter.unusedSimpArgs false
set_option linter.unusedVariables false
section SOd
namespace Go.Pm
open F
set_option maxHeartbeats 4000000
def tab2:ByteArray:=⟨#[48,48,48,49,48,50,48,51,48,52,48,53,48,54,48,55,48,56,48,57,49,48,49,49,49,50,49,51,49,52,49,53,49,54,49,55,49,56,49,57,50,48,50,49,50,50,50,51,50,52,50,53,50,54,50,55,50,56,50,57,51,48,51,49,51,50,51,51,51,52,51,53,51,54,51,55,51,56,51,57,52,48,52,49,52,50,52,51,52,52,52,53,52,54,52,55,52,56,52,57,53,48,53,49,53,50,53,51,53,52,53,53,53,54,53,55,53,56,53,57,54,48,54,49,54,50,54,51,54,52,54,53,54,54,54,55,54,56,54,57,55,48,55,49,55,50,55,51,55,52,55,53,55,54,55,55,55,56,55,57,56,48,56,49,56,50,56,51,56,52,56,53,56,54,56,55,56,56,56,57,57,48,57,49,57,50,57,51,57,52,57,53,57,54,57,55,57,56,57,57]⟩
def tab8:ByteArray:=⟨#[0,1,2,2,3,3,3,3,4,4,4,4,4,4,4,4,5,5,5,5,5,5,5,5,5,5,5,5,5,5,5,5,6,6,6,6,6,6,6,6,6,6,6,6,6,6,6,6,6,6,6,6,6,6,6,6,6,6,6,6,6,6,6,6,7,7,7,7,7,7,7,7,7,7,7,7,7,7,7,7,7,7,7,7,7,7,7,7,7,7,7,7,7,7,7,7,7,7,7,7,7,7,7,7,7,7,7,7,7,7,7,7,7,7,7,7,7,7,7,7,7,7,7,7,7,7,7,7,8,8,8,8,8,8,8,8,8,8,8,8,8,8,8,8,8,8,8,8,8,8,8,8,8,8,8,8,8,8,8,8,8,8,8,8,8,8,8,8,8,8,8,8,8,8,8,8,8,8,8,8,8,8,8,8,8,8,8,8,8,8,8,8,8,8,8,8,8,8,8,8,8,8,8,8,8,8,8,8,8,8,8,8,8,8,8,8,8,8,8,8,8,8,8,8,8,8,8,8,8,8,8,8,8,8,8,8,8,8,8,8,8,8,8,8,8,8,8,8,8,8,8,8,8,8,8,8]⟩
section
variable (tab:ByteArray)
def F295l0Kx:PC:=(.seq (.seq (rn [mv 19 4,bk 20 .geq 19 8] [0,1,4,20]) (.cond (.t 20) (.skip) (.exit 0))) (.block 1 (.seq (rn [mv 21 1,jj 22 (.bin .rem (.t 21) (.c (.int .u64 100000000))),jj 23 (.conv (.int .u32) (.t 22)),mv 5 23] [0,1,4,5]) (.seq (rn [mv 24 1,jj 25 (.bin .quo (.t 24) (.c (.int .u64 100000000))),mv 1 25] [0,1,4,5]) (.seq (rn [mv 26 5,jj 27 (.bin .quo (.t 26) (.c (.int .u32 10000))),mv 28 5,jj 29 (.bin .rem (.t 28) (.c (.int .u32 10000))),mv 6 27,mv 7 29] [0,1,4,6,7]) (.seq (rn [mv 30 7,jj 31 (.bin .quo (.t 30) (.c (.int .u32 100))),jj 32 (.bin .mul (.t 31) (.c (.int .u32 2))),mv 33 7,jj 34 (.bin .rem (.t 33) (.c (.int .u32 100))),jj 35 (.bin .mul (.t 34) (.c (.int .u32 2))),mv 8 32,mv 9 35] [0,1,4,6,8,9]) (.seq (rn [mv 36 6,jj 37 (.bin .quo (.t 36) (.c (.int .u32 100))),jj 38 (.bin .mul (.t 37) (.c (.int .u32 2))),mv 39 6,jj 40 (.bin .rem (.t 39) (.c (.int .u32 100))),jj 41 (.bin .mul (.t 40) (.c (.int .u32 2))),mv 10 38,mv 11 41] [0,1,4,8,9,10,11]) (.seq (.region (some []) [mv 42 0,mv 43 4,bk 44 .sub 43 1,mv 45 0,mv 46 4,bk 47 .sub 46 2,mv 48 9,jj 49 (.bin .add (.t 48) (.c (.int .u32 1))),jj 50 (.indexS (.c (.string tab)) (.t 49)),mv 51 9,jj 52 (.indexS (.c (.string tab)) (.t 51)),jj 53 (.indexAddr 1 (.t 42) (.t 44)),st 1 53 50,jj 54 (.indexAddr 1 (.t 45) (.t 47)),st 1 54 52] [0,1,4,8,10,11]) (.seq (.region (some []) [mv 55 0,mv 56 4,bk 57 .sub 56 3,mv 58 0,mv 59 4,bk 60 .sub 59 4,mv 61 8,jj 62 (.bin .add (.t 61) (.c (.int .u32 1))),jj 63 (.indexS (.c (.string tab)) (.t 62)),mv 64 8,jj 65 (.indexS (.c (.string tab)) (.t 64)),jj 66 (.indexAddr 1 (.t 55) (.t 57)),st 1 66 63,jj 67 (.indexAddr 1 (.t 58) (.t 60)),st 1 67 65] [0,1,4,10,11]) (.seq (.region (some []) [mv 68 0,mv 69 4,bk 70 .sub 69 5,mv 71 0,mv 72 4,bk 73 .sub 72 6,mv 74 11,jj 75 (.bin .add (.t 74) (.c (.int .u32 1))),jj 76 (.indexS (.c (.string tab)) (.t 75)),mv 77 11,jj 78 (.indexS (.c (.string tab)) (.t 77)),jj 79 (.indexAddr 1 (.t 68) (.t 70)),st 1 79 76,jj 80 (.indexAddr 1 (.t 71) (.t 73)),st 1 80 78] [0,1,4,10]) (.seq (.region (some []) [mv 81 0,mv 82 4,bk 83 .sub 82 7,mv 84 0,mv 85 4,bk 86 .sub 85 8,mv 87 10,jj 88 (.bin .add (.t 87) (.c (.int .u32 1))),jj 89 (.indexS (.c (.string tab)) (.t 88)),mv 90 10,jj 91 (.indexS (.c (.string tab)) (.t 90)),jj 92 (.indexAddr 1 (.t 81) (.t 83)),st 1 92 89,jj 93 (.indexAddr 1 (.t 84) (.t 86)),st 1 93 91] [0,1,4]) (rn [mv 94 4,bk 95 .sub 94 8,mv 4 95] [0,1,4]))))))))))))
def F295l0K:PC:=F295l0Kx tab
theorem qbQ (C:Task->Option Res) (q:Nat) (fr:Fr) (σ : S):run C q (F295l0K tab) fr σ = run C q (F295l0Kx tab) fr σ := rfl
def F295K:PFun:=⟨2,[],.seq (rn [mv 17 0,ls 18 17,mv 4 18] [0,1,4]) (.seq (.block 0 (.loop (F295l0K tab))) (.seq (rn [mv 96 1,jj 97 (.conv (.int .u32) (.t 96)),mv 12 97] [0,4,12]) (.seq (.seq (rn [mv 98 4,bk 99 .geq 98 4] [0,4,12,99]) (.cond (.t 99) (.seq (rn [mv 100 12,jj 101 (.bin .rem (.t 100) (.c (.int .u32 10000))),mv 13 101] [0,4,12,13]) (.seq (rn [mv 102 12,jj 103 (.bin .quo (.t 102) (.c (.int .u32 10000))),mv 12 103] [0,4,12,13]) (.seq (rn [mv 104 13,jj 105 (.bin .quo (.t 104) (.c (.int .u32 100))),jj 106 (.bin .mul (.t 105) (.c (.int .u32 2))),mv 107 13,jj 108 (.bin .rem (.t 107) (.c (.int .u32 100))),jj 109 (.bin .mul (.t 108) (.c (.int .u32 2))),mv 14 106,mv 15 109] [0,4,12,14,15]) (.seq (.region (some []) [mv 110 0,mv 111 4,bk 112 .sub 111 1,mv 113 0,mv 114 4,bk 115 .sub 114 2,mv 116 15,jj 117 (.bin .add (.t 116) (.c (.int .u32 1))),jj 118 (.indexS (.c (.string tab)) (.t 117)),mv 119 15,jj 120 (.indexS (.c (.string tab)) (.t 119)),jj 121 (.indexAddr 1 (.t 110) (.t 112)),st 1 121 118,jj 122 (.indexAddr 1 (.t 113) (.t 115)),st 1 122 120] [0,4,12,14]) (.seq (.region (some []) [mv 123 0,mv 124 4,bk 125 .sub 124 3,mv 126 0,mv 127 4,bk 128 .sub 127 4,mv 129 14,jj 130 (.bin .add (.t 129) (.c (.int .u32 1))),jj 131 (.indexS (.c (.string tab)) (.t 130)),mv 132 14,jj 133 (.indexS (.c (.string tab)) (.t 132)),jj 134 (.indexAddr 1 (.t 123) (.t 125)),st 1 134 131,jj 135 (.indexAddr 1 (.t 126) (.t 128)),st 1 135 133] [0,4,12]) (rn [mv 136 4,bk 137 .sub 136 4,mv 4 137] [0,4,12])))))) (.skip))) (.seq (.seq (rn [mv 138 4,bk 139 .geq 138 2] [0,4,12,139]) (.cond (.t 139) (.seq (rn [mv 140 12,jj 141 (.bin .rem (.t 140) (.c (.int .u32 100))),jj 142 (.bin .mul (.t 141) (.c (.int .u32 2))),mv 16 142] [0,4,12,16]) (.seq (rn [mv 143 12,jj 144 (.bin .quo (.t 143) (.c (.int .u32 100))),mv 12 144] [0,4,12,16]) (.seq (.region (some []) [mv 145 0,mv 146 4,bk 147 .sub 146 1,mv 148 0,mv 149 4,bk 150 .sub 149 2,mv 151 16,jj 152 (.bin .add (.t 151) (.c (.int .u32 1))),jj 153 (.indexS (.c (.string tab)) (.t 152)),mv 154 16,jj 155 (.indexS (.c (.string tab)) (.t 154)),jj 156 (.indexAddr 1 (.t 145) (.t 147)),st 1 156 153,jj 157 (.indexAddr 1 (.t 148) (.t 150)),st 1 157 155] [0,4,12]) (rn [mv 158 4,bk 159 .sub 158 2,mv 4 159] [0,4,12])))) (.skip))) (.seq (rn [mv 160 4,bk 161 .gtr 160 0] [0,12,161]) (.cond (.t 161) (rn [mv 162 0,mv 163 12,jj 164 (.bin .add (.c (.int .u32 48)) (.t 163)),jj 165 (.conv (.int .u8) (.t 164)),jj 166 (.indexAddr 1 (.t 162) (kk 0)),st 1 166 165] []) (.skip))))))),false,false,false⟩
def F299K:PFun:=⟨1,[.tmp 2],.seq (rn [mx 2 (kk 0)] [0,2]) (.seq (.seq (rn [mv 3 0,jj 4 (.bin .geq (.t 3) (.c (.int .u64 4294967296)))] [0,2,4]) (.cond (.t 4) (.seq (rn [mv 5 0,jj 6 (.bin .shr (.t 5) (.c (.int .u64 32))),mv 0 6] [0]) (rn [mx 2 (kk 32)] [0,2])) (.skip))) (.seq (.seq (rn [mv 7 0,jj 8 (.bin .geq (.t 7) (.c (.int .u64 65536)))] [0,2,8]) (.cond (.t 8) (.seq (rn [mv 9 0,jj 10 (.bin .shr (.t 9) (.c (.int .u64 16))),mv 0 10] [0,2]) (rn [mv 11 2,bk 12 .add 11 16,mv 2 12] [0,2])) (.skip))) (.seq (.seq (rn [mv 13 0,jj 14 (.bin .geq (.t 13) (.c (.int .u64 256)))] [0,2,14]) (.cond (.t 14) (.seq (rn [mv 15 0,jj 16 (.bin .shr (.t 15) (.c (.int .u64 8))),mv 0 16] [0,2]) (rn [mv 17 2,bk 18 .add 17 8,mv 2 18] [0,2])) (.skip))) (.seq (rn [mv 19 2,mv 20 0,jj 21 (.conv (.int .u8) (.t 20)),jj 22 (.indexS (.c (.string tab)) (.t 21)),jj 23 (.conv (.int .i64) (.t 22)),bn 24 .add 19 23,mv 2 24] [2]) (.ret))))),false,false,false⟩
end
def dg (d:Nat):UInt8:=(48+d).toUInt8
theorem qoY {d:Nat} (h:d<10):(dg d).toNat=48+d:=qvA d h
theorem qtf : ∀ k,k<100->tab2[2*k]?=some (dg (k / 10)):=by decide +kernel
theorem qtg : ∀ k,k<100->tab2[2*k+1]?=some (dg (k % 10)):=by decide +kernel
theorem qq2 : ∀ x,x<256 -> ∃ l,tab8[x]?=some l/\l.toNat<=8/\(x=0->l.toNat=0)/\(0<x->2 ^ (l.toNat-1)<=x/\x<2 ^ l.toNat/\0<l.toNat):=by
 have h : ∀ x,x<256->(match tab8[x]? with
  | some l=>decide (l.toNat<=8)&&(decide (x=0->l.toNat=0)&&decide (0<x->2 ^ (l.toNat-1)<=x/\x<2 ^ l.toNat/\0<l.toNat))
  | none=>false)=true:=by decide +kernel
 intro x hx
 have:=h x hx
 cases hl:tab8[x]? with
 | none=>rw[hl] at this; cases this
 | some l=>
  rw[hl] at this
  simp only[Bool.and_eq_true,decide_eq_true_eq] at this
  exact⟨l,rfl,this.1,this.2.1,this.2.2⟩
def qkT:Nat->Nat->List UInt8
 | 0,_=>[]
 | d+1,u=>qkT d (u / 10)++[dg (u % 10)]
theorem qj4 : ∀ (k d u:Nat),u<10 ^ (d+1)->(d=0\/10 ^ d<=u)->d<k->qmL k u=qkT (d+1) u
 | 0,d,u,_,_,h=>by omega
 | k+1,0,u,h,_,_=>by
  have:u<10:=by simpa using h
  simp[qmL,qkT,this,dg,Nat.mod_eq_of_lt this]
 | k+1,d+1,u,h,h2,h3=>by
  have e : ¬ u<10:=by
   have:10 ^ 1<=10 ^ (d+1):=Nat.pow_le_pow_right (by omega) (by omega)
   rcases h2 with h2 | h2<;>omega
  have ih:=qj4 k d (u / 10) (by rw[Nat.pow_succ] at h; omega) (by
   rcases d with _ | d
   ·exact .inl rfl
   ·right
    rcases h2 with h2 | h2
    ·cases h2
    ·rw[Nat.pow_succ] at h2; omega) (by omega)
  rw[qmL,if_neg e,ih,qkT]
  rfl
theorem qco {d u:Nat} (h:u<10 ^ (d+1)) (h2:10 ^ d<=u) (hd:d<20):decB u=qkT (d+1) u:=qj4 20 d u h (.inr h2) hd
abbrev U64 (n:Nat):V := .dat (.lit (.int .u64 n))
theorem qwf {n:Nat} (h:n<18446744073709551616):IntKind.u64.wrap (n:Int)=n:=by rw[IntKind.wrap_u64]; omega
theorem qov {n:Nat} (h:n<4294967296):IntKind.u32.wrap (n:Int)=n:=by rw[IntKind.wrap_u32']; omega
theorem w8u {n:Nat} (h:n<256):IntKind.u8.wrap (n:Int)=n:=by rw[IntKind.wrap_u8']; omega
theorem qq3 (a b:Nat):Int.fdiv (a:Int) (b:Int)=((a / b:Nat):Int):=by
 rw[Int.fdiv_eq_ediv_of_nonneg _ (by omega)]; rfl
theorem qvb {u:Nat} (h0:0<u) (h1:u<2147483648) : ∃ L:Nat,L<=31/\0<L/\2 ^ (L-1)<=u/\u<2 ^ L/\Z tQ (.call 299 [U64 u] [])=some (.ret (.int L) []):=by
 have key : ∀ x a:Nat,x<256->0<x->a<=24->a*1=a -> ∃ l:UInt8,tab8[x]?=some l/\a+l.toNat<=a+8/\0<a+l.toNat/\2 ^ (a+l.toNat-1)<=x*2 ^ a/\(x+1)*2 ^ a<=2 ^ (a+l.toNat)/\l.toNat<=8:=by
  intro x a hx hp _ _
  obtain⟨l,e1,e2,_,e4⟩:=qq2 x hx
  obtain⟨e5,e6,e7⟩:=e4 hp
  refine⟨l,e1,by omega,by omega,?_,?_,e2⟩
  ·rw[show a+l.toNat-1=(l.toNat-1)+a by omega,Nat.pow_add]
   exact Nat.mul_le_mul_right _ e5
  ·rw[Nat.add_comm a,Nat.pow_add]
   exact Nat.mul_le_mul_right _ e6
 have hx:tQ 299=some (F299K tab8):=rfl
 have c1 : ¬ (4294967296:Int)<=u:=by omega
 have n16 : ∀ x:Nat,qqc .u64 (x:Int) 16=((x / 65536:Nat):Int):=fun x=>qq3 x 65536
 have n8 : ∀ x:Nat,qqc .u64 (x:Int) 8=((x / 256:Nat):Int):=fun x=>qq3 x 256
 by_cases a1:65536<=u
 ·by_cases a2:256<=u / 65536
  ·obtain⟨l,e1,e2,e3,e4,e5,e6⟩:=key (u / 65536 / 256) 24 (by omega) (by omega) (by omega) rfl
   have hL:l.toNat<=7:=by
    rcases Nat.lt_or_ge l.toNat 8 with h | h
    ·omega
    ·have:l.toNat=8:=by omega
     rw[this] at e4
     omega
   refine⟨24+l.toNat,by omega,e3,by omega,by omega,?_⟩
   refine qaa hx rfl ?_
   have w1:=w8u (show u / 65536 / 256<256 by omega)
   have w2:IntKind.i64.wrap (24+(l.toNat:Int))=((24+l.toNat:Nat):Int):=by rw[qag _ (by omega)]; omega
   have w3:=qag (l.toNat:Int) (by omega)
   have w4:IntKind.i64.wrap 24=24:=rfl
   have w5:IntKind.i64.wrap 16=16:=rfl
   have b1:(65536:Int)<=u:=by omega
   have b2:(256:Int)<=((u / 65536:Nat):Int):=by omega
   generalize tab8=tb at *
   generalize hq1:u / 65536=q1 at *
   generalize hq2:q1 / 256=q2 at *
   generalize 24+l.toNat=L at *
   simp[F299K,c1,b1,b2,n16,n8,hq1,hq2,w1,w2,w3,w4,w5,e1]
  ·obtain⟨l,e1,e2,e3,e4,e5,e6⟩:=key (u / 65536) 16 (by omega) (by omega) (by omega) rfl
   refine⟨16+l.toNat,by omega,e3,by omega,by omega,?_⟩
   refine qaa hx rfl ?_
   have w1:=w8u (show u / 65536<256 by omega)
   have w2:IntKind.i64.wrap (16+(l.toNat:Int))=((16+l.toNat:Nat):Int):=by rw[qag _ (by omega)]; omega
   have w3:=qag (l.toNat:Int) (by omega)
   have w4:IntKind.i64.wrap 16=16:=rfl
   have b1:(65536:Int)<=u:=by omega
   have b2 : ¬ (256:Int)<=((u / 65536:Nat):Int):=by omega
   generalize tab8=tb at *
   generalize hq1:u / 65536=q1 at *
   generalize 16+l.toNat=L at *
   simp[F299K,c1,b1,b2,n16,n8,hq1,w1,w2,w3,w4,e1]
 ·by_cases a2:256<=u
  ·obtain⟨l,e1,e2,e3,e4,e5,e6⟩:=key (u / 256) 8 (by omega) (by omega) (by omega) rfl
   refine⟨8+l.toNat,by omega,e3,by omega,by omega,?_⟩
   refine qaa hx rfl ?_
   have w1:=w8u (show u / 256<256 by omega)
   have w2:IntKind.i64.wrap (8+(l.toNat:Int))=((8+l.toNat:Nat):Int):=by rw[qag _ (by omega)]; omega
   have w3:=qag (l.toNat:Int) (by omega)
   have w4:IntKind.i64.wrap 8=8:=rfl
   have b1 : ¬ (65536:Int)<=u:=by omega
   have b2:(256:Int)<=u:=by omega
   generalize tab8=tb at *
   generalize hq1:u / 256=q1 at *
   generalize 8+l.toNat=L at *
   simp[F299K,c1,b1,b2,n16,n8,hq1,w1,w2,w3,w4,e1]
  ·obtain⟨l,e1,e2,e3,e4,e5,e6⟩:=key u 0 (by omega) (by omega) (by omega) rfl
   refine⟨0+l.toNat,by omega,e3,by omega,by omega,?_⟩
   refine qaa hx rfl ?_
   have w1:=w8u (show u<256 by omega)
   have w2:IntKind.i64.wrap (0+(l.toNat:Int))=((0+l.toNat:Nat):Int):=by rw[qag _ (by omega)]; omega
   have w3:=qag (l.toNat:Int) (by omega)
   have b1 : ¬ (65536:Int)<=u:=by omega
   have b2 : ¬ (256:Int)<=u:=by omega
   generalize tab8=tb at *
   simp[F299K,c1,b1,b2,n16,n8,w1,w3,e1]
theorem qvc {L:Nat} (h:L<=31):Z tQ (.call 298 [.int L] [])=some (.ret (.int (L*78913 / 262144:Nat)) []):=by
 refine qaa (pf:=F298) rfl rfl ?_
 have w1:=qag ((L:Int)*78913) (by omega)
 have n18:qqc .i64 ((L:Int)*78913) 18=((L*78913 / 262144:Nat):Int):=by
  have:=qq3 (L*78913) 262144
  rw[<- this]
  simp[qqc]
  rfl
 generalize L*78913 / 262144=q at *
 simp[F298,w1,n18]
theorem qvd (b:Bool):Z tQ (.call 300 [.bool b] [])=some (.ret (.int (if b then 1 else 0)) []):=by
 refine qaa (pf:=F300) rfl rfl ?_
 cases b<;>simp[F300]
theorem qq4 : ∀ i,i<20->cutCells G_internal_strconv_uint64pow10 i 1=some [.lit (.int .u64 (10 ^ i:Nat))]:=by
 intro i hi
 unfold cutCells G_internal_strconv_uint64pow10
 rw[List.drop_eq_getElem_cons (by simpa using hi)]
 simp
theorem qq5 {u L:Nat} (h7:7<=L) (h31:L<=31) (hl:2 ^ (L-1)<=u) (hu:u<2 ^ L) (h100:100<=u) (h2:u<2147483648) : ∃ d,3<=d/\d<=10/\10 ^ (d-1)<=u/\u<10 ^ d/\d=L*78913 / 262144+(if 10 ^ (L*78913 / 262144)<=u then 1 else 0):=by
 have hL:L=7\/L=8\/L=9\/L=10\/L=11\/L=12\/L=13\/L=14\/L=15\/L=16\/L=17\/L=18\/L=19\/L=20\/L=21\/L=22\/L=23\/L=24\/L=25\/L=26\/L=27\/L=28\/L=29\/L=30\/L=31:=by omega
 rcases hL with rfl | rfl | rfl | rfl | rfl | rfl | rfl | rfl | rfl | rfl | rfl | rfl | rfl | rfl | rfl | rfl | rfl | rfl | rfl | rfl | rfl | rfl | rfl | rfl | rfl
 all_goals
  refine⟨_,?_,?_,?_,?_,rfl⟩<;>simp only[Nat.reduceMul,Nat.reduceDiv,Nat.reducePow,Nat.reduceSub] at hl hu ⊢ <;> split<;>simp<;>omega
theorem qoZ {u:Nat} (h100:100<=u) (h2:u<2147483648) : ∃ d:Nat,3<=d/\d<=10/\10 ^ (d-1)<=u/\u<10 ^ d/\Z tQ (.call 294 [U64 u] [])=some (.ret (.int d) []):=by
 obtain⟨L,l1,l2,l3,l4,z⟩:=qvb (by omega) h2
 have h7:7<=L:=by
  rcases Nat.lt_or_ge L 7 with h | h
  ·have:2 ^ L<=2 ^ 6:=Nat.pow_le_pow_right (by omega) (by omega)
   omega
  ·exact h
 obtain⟨d,d1,d2,d3,d4,d5⟩:=qq5 h7 l1 l3 l4 h100 h2
 refine⟨d,d1,d2,d3,d4,?_⟩
 have zl:=qvc l1
 have hi:L*78913 / 262144<=9:=by omega
 generalize L*78913 / 262144=i at *
 have hp:=qq4 i (by omega)
 have zb:=qvd (decide (10 ^ i<=u))
 have hc:((10 ^ i:Nat):Int)<=(u:Int)↔10 ^ i<=u:=by omega
 have hres:IntKind.i64.wrap ((i:Int)+(if decide (10 ^ i<=u)=true then 1 else 0))=(d:Int):=by
  rw[qag _ (by split<;>omega),d5]
  by_cases h:10 ^ i<=u<;>simp[h]
 refine qaa (pf:=F294) rfl rfl ?_
 have i20:(i:Int)<20:=by omega
 generalize 10 ^ i=P at *
 generalize (if decide (P<=u)=true then (1:Int) else 0)=e at *
 simp[F294,z,zl,zb,hp,hc,hres,i20]
end Go.Pm
end SOd
section SOe
namespace Go.Pm
open F
set_option maxHeartbeats 8000000
theorem qfP:IntKind.i64.wrap 0=0/\IntKind.i64.wrap 1=1/\IntKind.i64.wrap 2=2/\IntKind.i64.wrap 3=3/\IntKind.i64.wrap 4=4/\IntKind.i64.wrap 5=5/\IntKind.i64.wrap 6=6/\IntKind.i64.wrap 7=7/\IntKind.i64.wrap 8=8/\IntKind.i64.wrap 9=9/\IntKind.i64.wrap 10=10/\IntKind.i64.wrap 11=11:=by decide
abbrev u8z:V := .dat (.lit (.int .u8 0))
theorem dgc {x y:Nat} (h:x=y):dg x=dg y:=by rw[h]
theorem wdg {n:Nat} (h:n<10):IntKind.u8.wrap (IntKind.u32.wrap (48+(n:Int)))=((dg n).toNat:Int):=by rw[qoY h,IntKind.wrap_u32',IntKind.wrap_u8']; omega
theorem dm (x k:Nat) {K:Int} (hK:K=k) (hx:x<2147483648) (hk:1<k) : ∃ a b:Nat,a=x / k/\b=x % k/\((x:Int).tdiv K=a/\(x:Int) / K=a/\IntKind.u32.wrap (a:Int)=a/\IntKind.u64.wrap (a:Int)=a/\(x:Int).tmod K=b/\(x:Int) % K=b/\IntKind.u32.wrap (b:Int)=b):=by
 subst hK
 have h1:x / k<=x:=Nat.div_le_self x k
 have h2:x % k<=x:=Nat.mod_le x k
 exact⟨_,_,rfl,rfl,rfl,rfl,qov (by omega),qwf (by omega),rfl,rfl,qov (by omega)⟩
theorem pr {x:Nat} (h:x<100) : ∃ p q:Nat,IntKind.u32.wrap ((x:Int)*2)=(p:Int)/\IntKind.u32.wrap ((p:Int)+1)=(q:Int)/\tab2[p]?=some (dg (x / 10))/\tab2[q]?=some (dg (x % 10)):=
 ⟨2*x,2*x+1,by rw[IntKind.wrap_u32']; omega,by rw[IntKind.wrap_u32']; omega,qtf x h,qtg x h⟩
theorem qlE : ∀ (n u:Nat),(qkT n u).length=n
 | 0,_=>rfl
 | n+1,u=>by rw[qkT,List.length_append,qlE n]; rfl
def buf (l:List UInt8):List V:=vb (0::(l++List.replicate (23-l.length) 0))
def FB (n u:Nat):Prop:=Z tQ (.call 295 [.msl 0 1 n 23 1,U64 u] [.cells (List.replicate 24 u8z)])=some (.ret (.tup []) [.cells (buf (decB u))])
theorem qvi {u:Nat} (h1:10 ^ 2<=u) (h2:u<10 ^ 3) (h3:u<2147483648):FB 3 u:=by
 have g1:=h1
 have g2:=h2
 simp only[Nat.reducePow] at g1 g2
 have n0:=qov (n:=u) (by omega)
 obtain⟨G,t,eG,et,m1⟩:=dm u 100 (K:=100) rfl (by omega) (by omega)
 obtain⟨p2,q2,m2⟩:=pr (x:=t) (by omega)
 have n7:=wdg (n:=G) (by omega)
 have hd:decB u=[dg (G),dg (t / 10),dg (t % 10)]:=by
  rw[qco (d:=2) h2 h1 (by omega)]
  simp only[qkT,List.nil_append,List.cons_append,List.cons.injEq,and_true,Nat.div_div_eq_div_mul,Nat.reduceMul]
  exact⟨dgc (by omega),dgc (by omega),dgc (by omega)⟩
 rw[FB,hd]
 clear hd
 obtain⟨v0,v1,v2,v3,v4,v5,v6,v7,v8,v9,v10,v11⟩:=qfP
 refine qaa (pf:=F295K tab2) rfl rfl ?_
 generalize tab2=tab at *
 simp[F295K,buf,vb,List.replicate,qac,qae,qbQ,F295l0Kx,V.len,qan,List.range_succ,v0,v1,v2,v3,v4,v5,v6,v7,v8,v9,v10,v11,n0,m1,m2,n7]
theorem qvj {u:Nat} (h1:10 ^ 3<=u) (h2:u<10 ^ 4) (h3:u<2147483648):FB 4 u:=by
 have g1:=h1
 have g2:=h2
 simp only[Nat.reducePow] at g1 g2
 have n0:=qov (n:=u) (by omega)
 obtain⟨C,E,eC,eE,m1⟩:=dm u 10000 (K:=10000) rfl (by omega) (by omega)
 obtain⟨r,s,er,es,m2⟩:=dm E 100 (K:=100) rfl (by omega) (by omega)
 obtain⟨p3,q3,m3⟩:=pr (x:=s) (by omega)
 obtain⟨p4,q4,m4⟩:=pr (x:=r) (by omega)
 have hd:decB u=[dg (r / 10),dg (r % 10),dg (s / 10),dg (s % 10)]:=by
  rw[qco (d:=3) h2 h1 (by omega)]
  simp only[qkT,List.nil_append,List.cons_append,List.cons.injEq,and_true,Nat.div_div_eq_div_mul,Nat.reduceMul]
  exact⟨dgc (by omega),dgc (by omega),dgc (by omega),dgc (by omega)⟩
 rw[FB,hd]
 clear hd
 obtain⟨v0,v1,v2,v3,v4,v5,v6,v7,v8,v9,v10,v11⟩:=qfP
 refine qaa (pf:=F295K tab2) rfl rfl ?_
 generalize tab2=tab at *
 simp[F295K,buf,vb,List.replicate,qac,qae,qbQ,F295l0Kx,V.len,qan,List.range_succ,v0,v1,v2,v3,v4,v5,v6,v7,v8,v9,v10,v11,n0,m1,m2,m3,m4]
theorem qvk {u:Nat} (h1:10 ^ 4<=u) (h2:u<10 ^ 5) (h3:u<2147483648):FB 5 u:=by
 have g1:=h1
 have g2:=h2
 simp only[Nat.reducePow] at g1 g2
 have n0:=qov (n:=u) (by omega)
 obtain⟨C,E,eC,eE,m1⟩:=dm u 10000 (K:=10000) rfl (by omega) (by omega)
 obtain⟨r,s,er,es,m2⟩:=dm E 100 (K:=100) rfl (by omega) (by omega)
 obtain⟨p3,q3,m3⟩:=pr (x:=s) (by omega)
 obtain⟨p4,q4,m4⟩:=pr (x:=r) (by omega)
 have n7:=wdg (n:=C) (by omega)
 have hd:decB u=[dg (C),dg (r / 10),dg (r % 10),dg (s / 10),dg (s % 10)]:=by
  rw[qco (d:=4) h2 h1 (by omega)]
  simp only[qkT,List.nil_append,List.cons_append,List.cons.injEq,and_true,Nat.div_div_eq_div_mul,Nat.reduceMul]
  exact⟨dgc (by omega),dgc (by omega),dgc (by omega),dgc (by omega),dgc (by omega)⟩
 rw[FB,hd]
 clear hd
 obtain⟨v0,v1,v2,v3,v4,v5,v6,v7,v8,v9,v10,v11⟩:=qfP
 refine qaa (pf:=F295K tab2) rfl rfl ?_
 generalize tab2=tab at *
 simp[F295K,buf,vb,List.replicate,qac,qae,qbQ,F295l0Kx,V.len,qan,List.range_succ,v0,v1,v2,v3,v4,v5,v6,v7,v8,v9,v10,v11,n0,m1,m2,m3,m4,n7]
theorem qvl {u:Nat} (h1:10 ^ 5<=u) (h2:u<10 ^ 6) (h3:u<2147483648):FB 6 u:=by
 have g1:=h1
 have g2:=h2
 simp only[Nat.reducePow] at g1 g2
 have n0:=qov (n:=u) (by omega)
 obtain⟨C,E,eC,eE,m1⟩:=dm u 10000 (K:=10000) rfl (by omega) (by omega)
 obtain⟨r,s,er,es,m2⟩:=dm E 100 (K:=100) rfl (by omega) (by omega)
 obtain⟨p3,q3,m3⟩:=pr (x:=s) (by omega)
 obtain⟨p4,q4,m4⟩:=pr (x:=r) (by omega)
 obtain⟨G,t,eG,et,m5⟩:=dm C 100 (K:=100) rfl (by omega) (by omega)
 obtain⟨p6,q6,m6⟩:=pr (x:=t) (by omega)
 have hd:decB u=[dg (t / 10),dg (t % 10),dg (r / 10),dg (r % 10),dg (s / 10),dg (s % 10)]:=by
  rw[qco (d:=5) h2 h1 (by omega)]
  simp only[qkT,List.nil_append,List.cons_append,List.cons.injEq,and_true,Nat.div_div_eq_div_mul,Nat.reduceMul]
  exact⟨dgc (by omega),dgc (by omega),dgc (by omega),dgc (by omega),dgc (by omega),dgc (by omega)⟩
 rw[FB,hd]
 clear hd
 obtain⟨v0,v1,v2,v3,v4,v5,v6,v7,v8,v9,v10,v11⟩:=qfP
 refine qaa (pf:=F295K tab2) rfl rfl ?_
 generalize tab2=tab at *
 simp[F295K,buf,vb,List.replicate,qac,qae,qbQ,F295l0Kx,V.len,qan,List.range_succ,v0,v1,v2,v3,v4,v5,v6,v7,v8,v9,v10,v11,n0,m1,m2,m3,m4,m5,m6]
theorem qvm {u:Nat} (h1:10 ^ 6<=u) (h2:u<10 ^ 7) (h3:u<2147483648):FB 7 u:=by
 have g1:=h1
 have g2:=h2
 simp only[Nat.reducePow] at g1 g2
 have n0:=qov (n:=u) (by omega)
 obtain⟨C,E,eC,eE,m1⟩:=dm u 10000 (K:=10000) rfl (by omega) (by omega)
 obtain⟨r,s,er,es,m2⟩:=dm E 100 (K:=100) rfl (by omega) (by omega)
 obtain⟨p3,q3,m3⟩:=pr (x:=s) (by omega)
 obtain⟨p4,q4,m4⟩:=pr (x:=r) (by omega)
 obtain⟨G,t,eG,et,m5⟩:=dm C 100 (K:=100) rfl (by omega) (by omega)
 obtain⟨p6,q6,m6⟩:=pr (x:=t) (by omega)
 have n7:=wdg (n:=G) (by omega)
 have hd:decB u=[dg (G),dg (t / 10),dg (t % 10),dg (r / 10),dg (r % 10),dg (s / 10),dg (s % 10)]:=by
  rw[qco (d:=6) h2 h1 (by omega)]
  simp only[qkT,List.nil_append,List.cons_append,List.cons.injEq,and_true,Nat.div_div_eq_div_mul,Nat.reduceMul]
  exact⟨dgc (by omega),dgc (by omega),dgc (by omega),dgc (by omega),dgc (by omega),dgc (by omega),dgc (by omega)⟩
 rw[FB,hd]
 clear hd
 obtain⟨v0,v1,v2,v3,v4,v5,v6,v7,v8,v9,v10,v11⟩:=qfP
 refine qaa (pf:=F295K tab2) rfl rfl ?_
 generalize tab2=tab at *
 simp[F295K,buf,vb,List.replicate,qac,qae,qbQ,F295l0Kx,V.len,qan,List.range_succ,v0,v1,v2,v3,v4,v5,v6,v7,v8,v9,v10,v11,n0,m1,m2,m3,m4,m5,m6,n7]
theorem qvn {u:Nat} (h1:10 ^ 7<=u) (h2:u<10 ^ 8) (h3:u<2147483648):FB 8 u:=by
 have g1:=h1
 have g2:=h2
 simp only[Nat.reducePow] at g1 g2
 have n0:=qov (n:=u) (by omega)
 obtain⟨B,A,eB,eA,m1⟩:=dm u 100000000 (K:=100000000) rfl (by omega) (by omega)
 obtain⟨H,L,eH,eL,m2⟩:=dm A 10000 (K:=10000) rfl (by omega) (by omega)
 obtain⟨x,y,ex,ey,m3⟩:=dm L 100 (K:=100) rfl (by omega) (by omega)
 obtain⟨z,w,ez,ew,m4⟩:=dm H 100 (K:=100) rfl (by omega) (by omega)
 obtain⟨p5,q5,m5⟩:=pr (x:=y) (by omega)
 obtain⟨p6,q6,m6⟩:=pr (x:=x) (by omega)
 obtain⟨p7,q7,m7⟩:=pr (x:=w) (by omega)
 obtain⟨p8,q8,m8⟩:=pr (x:=z) (by omega)
 have hd:decB u=[dg (z / 10),dg (z % 10),dg (w / 10),dg (w % 10),dg (x / 10),dg (x % 10),dg (y / 10),dg (y % 10)]:=by
  rw[qco (d:=7) h2 h1 (by omega)]
  simp only[qkT,List.nil_append,List.cons_append,List.cons.injEq,and_true,Nat.div_div_eq_div_mul,Nat.reduceMul]
  exact⟨dgc (by omega),dgc (by omega),dgc (by omega),dgc (by omega),dgc (by omega),dgc (by omega),dgc (by omega),dgc (by omega)⟩
 rw[FB,hd]
 clear hd
 obtain⟨v0,v1,v2,v3,v4,v5,v6,v7,v8,v9,v10,v11⟩:=qfP
 refine qaa (pf:=F295K tab2) rfl rfl ?_
 generalize tab2=tab at *
 simp[F295K,buf,vb,List.replicate,qac,qae,qbQ,F295l0Kx,V.len,qan,List.range_succ,v0,v1,v2,v3,v4,v5,v6,v7,v8,v9,v10,v11,n0,m1,m2,m3,m4,m5,m6,m7,m8]
theorem qvo {u:Nat} (h1:10 ^ 8<=u) (h2:u<10 ^ 9) (h3:u<2147483648):FB 9 u:=by
 have g1:=h1
 have g2:=h2
 simp only[Nat.reducePow] at g1 g2
 have n0:=qov (n:=u) (by omega)
 obtain⟨B,A,eB,eA,m1⟩:=dm u 100000000 (K:=100000000) rfl (by omega) (by omega)
 obtain⟨H,L,eH,eL,m2⟩:=dm A 10000 (K:=10000) rfl (by omega) (by omega)
 obtain⟨x,y,ex,ey,m3⟩:=dm L 100 (K:=100) rfl (by omega) (by omega)
 obtain⟨z,w,ez,ew,m4⟩:=dm H 100 (K:=100) rfl (by omega) (by omega)
 obtain⟨p5,q5,m5⟩:=pr (x:=y) (by omega)
 obtain⟨p6,q6,m6⟩:=pr (x:=x) (by omega)
 obtain⟨p7,q7,m7⟩:=pr (x:=w) (by omega)
 obtain⟨p8,q8,m8⟩:=pr (x:=z) (by omega)
 have n7:=wdg (n:=B) (by omega)
 have hd:decB u=[dg (B),dg (z / 10),dg (z % 10),dg (w / 10),dg (w % 10),dg (x / 10),dg (x % 10),dg (y / 10),dg (y % 10)]:=by
  rw[qco (d:=8) h2 h1 (by omega)]
  simp only[qkT,List.nil_append,List.cons_append,List.cons.injEq,and_true,Nat.div_div_eq_div_mul,Nat.reduceMul]
  exact⟨dgc (by omega),dgc (by omega),dgc (by omega),dgc (by omega),dgc (by omega),dgc (by omega),dgc (by omega),dgc (by omega),dgc (by omega)⟩
 rw[FB,hd]
 clear hd
 obtain⟨v0,v1,v2,v3,v4,v5,v6,v7,v8,v9,v10,v11⟩:=qfP
 refine qaa (pf:=F295K tab2) rfl rfl ?_
 generalize tab2=tab at *
 simp[F295K,buf,vb,List.replicate,qac,qae,qbQ,F295l0Kx,V.len,qan,List.range_succ,v0,v1,v2,v3,v4,v5,v6,v7,v8,v9,v10,v11,n0,m1,m2,m3,m4,m5,m6,m7,m8,n7]
theorem qts {u:Nat} (h1:10 ^ 9<=u) (h2:u<10 ^ 10) (h3:u<2147483648):FB 10 u:=by
 have g1:=h1
 have g2:=h2
 simp only[Nat.reducePow] at g1 g2
 have n0:=qov (n:=u) (by omega)
 obtain⟨B,A,eB,eA,m1⟩:=dm u 100000000 (K:=100000000) rfl (by omega) (by omega)
 obtain⟨H,L,eH,eL,m2⟩:=dm A 10000 (K:=10000) rfl (by omega) (by omega)
 obtain⟨x,y,ex,ey,m3⟩:=dm L 100 (K:=100) rfl (by omega) (by omega)
 obtain⟨z,w,ez,ew,m4⟩:=dm H 100 (K:=100) rfl (by omega) (by omega)
 obtain⟨p5,q5,m5⟩:=pr (x:=y) (by omega)
 obtain⟨p6,q6,m6⟩:=pr (x:=x) (by omega)
 obtain⟨p7,q7,m7⟩:=pr (x:=w) (by omega)
 obtain⟨p8,q8,m8⟩:=pr (x:=z) (by omega)
 obtain⟨G,t,eG,et,m9⟩:=dm B 100 (K:=100) rfl (by omega) (by omega)
 obtain⟨p10,q10,m10⟩:=pr (x:=t) (by omega)
 have hd:decB u=[dg (t / 10),dg (t % 10),dg (z / 10),dg (z % 10),dg (w / 10),dg (w % 10),dg (x / 10),dg (x % 10),dg (y / 10),dg (y % 10)]:=by
  rw[qco (d:=9) h2 h1 (by omega)]
  simp only[qkT,List.nil_append,List.cons_append,List.cons.injEq,and_true,Nat.div_div_eq_div_mul,Nat.reduceMul]
  exact⟨dgc (by omega),dgc (by omega),dgc (by omega),dgc (by omega),dgc (by omega),dgc (by omega),dgc (by omega),dgc (by omega),dgc (by omega),dgc (by omega)⟩
 rw[FB,hd]
 clear hd
 obtain⟨v0,v1,v2,v3,v4,v5,v6,v7,v8,v9,v10,v11⟩:=qfP
 refine qaa (pf:=F295K tab2) rfl rfl ?_
 generalize tab2=tab at *
 simp[F295K,buf,vb,List.replicate,qac,qae,qbQ,F295l0Kx,V.len,qan,List.range_succ,v0,v1,v2,v3,v4,v5,v6,v7,v8,v9,v10,v11,n0,m1,m2,m3,m4,m5,m6,m7,m8,m9,m10]
theorem qwG {u n:Nat} (hn:3<=n) (hn10:n<=10) (h1:10 ^ (n-1)<=u) (h2:u<10 ^ n) (h3:u<2147483648) (zf:FB n u) (z:Z tQ (.call 294 [U64 u] [])=some (.ret (.int n) [])):Z tQ (.call 291 [.int u,.int 10] [])=some (.ret (.str (bs (decB u))) []):=by
 have ht:=qiF (decB u)
 have h100:100<=u:=Nat.le_trans (show 10 ^ 2<=10 ^ (n-1) from Nat.pow_le_pow_right (show 0<10 by omega) (show 2<=n-1 by omega)) h1
 have hl:(decB u).length=n:=by
  have:=qco (d:=n-1) (u:=u) (by rw[show n-1+1=n by omega]; exact h2) h1 (by omega)
  rw[this,qlE]
  omega
 have c1 : ¬ (u:Int)<100:=by omega
 have c2 : ¬ (u:Int)<0:=by omega
 have c3:(0:Int)<=u:=by omega
 have c4:=qwf (show u<18446744073709551616 by omega)
 obtain⟨v0,v1,v2,v3,v4,v5,v6,v7,v8,v9,v10,v11⟩:=qfP
 obtain⟨W,hW⟩ : ∃ W,W=0::(decB u++List.replicate (23-(decB u).length) (0:UInt8)):=⟨_,rfl⟩
 rw[FB,buf,<- hW] at zf
 have hw:qcY (((vb W).drop 1).take n)=some (decB u):=by
  rw[hW,vb,List.map_cons,List.drop_one,List.tail_cons,List.map_append,List.take_left' (by rw[List.length_map]; exact hl)]
  exact ht
 rw[List.drop_one] at hw
 have hmin:min n 23=n:=by omega
 have hWl:(vb W).length=24:=by rw[vb,List.length_map,hW,List.length_cons,List.length_append,List.length_replicate,hl]; omega
 obtain⟨m,hm⟩ : ∃ m,m=n+1:=⟨_,rfl⟩
 have w1:IntKind.i64.wrap (1+(n:Int))=(m:Int):=by rw[qag _ (by omega)]; omega
 have b1:(m:Int)<=24:=by omega
 have b2:1<=m:=by omega
 have b3:(1:Int)<=m:=by omega
 have b4:m-1=n:=by omega
 have b5:1+n<=24:=by omega
 have b6:m<=24:=by omega
 clear ht hl h1 h2 hW hm
 generalize decB u=q at *
 simp only[List.replicate] at zf
 refine qaa (pf:=F291) rfl rfl ?_
 simp[F291,qfj,qhJ,z,zf,hw,hWl,hmin,bs,c1,c2,c3,c4,w1,b1,b2,b3,b4,b5,b6,bound,List.replicate,List.range_succ,v0,v1,v2,v3,v4,v5,v6,v7,v8,v9,v10,v11]
def tabA:ByteArray:=⟨#[48,49,50,51,52,53,54,55,56,57,97,98,99,100,101,102,103,104,105,106,107,108,109,110,111,112,113,114,115,116,117,118,119,120,121,122]⟩
theorem qrd {u:Nat} (h:u<100):Z tQ (.call 293 [.int u] [])=some (.ret (.str (bs (decB u))) []):=by
 have hA : ∀ u,u<10->tabA.extract u (u+1)=bs (decB u):=by decide +kernel
 have hB : ∀ u,u<100 -> ¬ u<10->tab2.extract (u*2) (u*2+2)=bs (decB u):=by decide +kernel
 refine qaa (pf:=F293) rfl rfl ?_
 have sA:tabA.size=36:=rfl
 have sB:tab2.size=200:=rfl
 by_cases h10:u<10
 ·have c1:(u:Int)<10:=by omega
  have e:=hA u h10
  have w1:IntKind.i64.wrap ((u:Int)+1)=((u+1:Nat):Int):=by rw[qag _ (by omega)]; omega
  obtain⟨u1,hu1⟩ : ∃ p:Nat,p=u+1:=⟨_,rfl⟩
  rw[<- hu1] at w1 e
  have b1:(u1:Int)<=tabA.size:=by rw[sA]; omega
  have b2:(u:Int)<=u1:=by omega
  simp only[tabA] at e b1
  generalize bs (decB u)=r at *
  simp[F293,c1,w1,qb3,bound,b1,b2,e]
 ·have c1 : ¬ (u:Int)<10:=by omega
  have e:=hB u h h10
  have w1:IntKind.i64.wrap ((u:Int)*2)=((u*2:Nat):Int):=by rw[qag _ (by omega)]; omega
  obtain⟨u2,hu2⟩ : ∃ p:Nat,p=u*2:=⟨_,rfl⟩
  rw[<- hu2] at w1 e
  have w2:IntKind.i64.wrap ((u2:Int)+2)=((u2+2:Nat):Int):=by rw[qag _ (by omega)]; omega
  obtain⟨u3,hu3⟩ : ∃ p:Nat,p=u2+2:=⟨_,rfl⟩
  rw[<- hu3] at w2 e
  have b1:(u3:Int)<=tab2.size:=by rw[sB]; omega
  have b2:(u2:Int)<=u3:=by omega
  simp only[tab2] at e b1
  generalize bs (decB u)=r at *
  simp[F293,c1,w1,w2,qb3,bound,b1,b2,e]
theorem qpb {u:Nat} (h:u<2147483648):Z tQ (.call 291 [.int u,.int 10] [])=some (.ret (.str (bs (decB u))) []):=by
 by_cases h1:u<100
 ·have z:=qrd h1
  have c1:(u:Int)<100:=by omega
  generalize bs (decB u)=r at *
  refine qaa (pf:=F291) rfl rfl ?_
  simp[F291,z,c1]
 ·obtain⟨d,d1,d2,d3,d4,z⟩:=qoZ (by omega) h
  have hd:d=3\/d=4\/d=5\/d=6\/d=7\/d=8\/d=9\/d=10:=by omega
  refine qwG d1 d2 d3 d4 h ?_ z
  rcases hd with rfl | rfl | rfl | rfl | rfl | rfl | rfl | rfl
  ·exact qvi d3 d4 h
  ·exact qvj d3 d4 h
  ·exact qvk d3 d4 h
  ·exact qvl d3 d4 h
  ·exact qvm d3 d4 h
  ·exact qvn d3 d4 h
  ·exact qvo d3 d4 h
  ·exact qts d3 d4 h
theorem qtt {n:Int} (h0:0<=n) (h:n<=2147483647):Z tQ (.call 283 [.int n] [])=some (.ret (.str (bs (decB n.toNat))) []):=by
 have z:=qpb (u:=n.toNat) (by omega)
 rw[show ((n.toNat:Nat):Int)=n by omega] at z
 have z2:Z tQ (.call 288 [.int n] [])=some (.ret (.str (bs (decB n.toNat))) []):=by
  refine qaa (pf:=F288) rfl rfl ?_
  simp[F288,z]
 refine qaa (pf:=F283) rfl rfl ?_
 simp[F283,z2]
end Go.Pm
end SOe
section SOf
namespace Go.Pm
open F
set_option maxHeartbeats 4000000
theorem qc2 (e:E):Z tQ (.call 282 [e.node] [])=some (.ret (.int e.lev) []):=by
 refine qaa (pf:=F282) rfl rfl ?_
 cases e with
 | un f neg e=>cases neg<;>simp[F282,E.lev,qed,ustr,qbU]
 | bin f o a b=>cases o<;>simp[F282,E.lev,Bop.prec,Bop.str,qbU]
 | _=>simp[F282,E.lev]
theorem qrD {k n:Int} {s:ByteArray} {cs:List D} {m i:Nat} {f:Bool} {ds:List D} (hi:i<m) (hm:m<2 ^ 30) (hc:cutCells cs (i*4) 4=some ds) (ho:ds.length=4) (h1 : ∀ d∈ds,V.one (.dat d)=true) :
  Z tQ (.call 274 [.dat (.agg [.lit (.int .i64 k),.lit (.int .i64 n),.lit (.string s),.sl cs m f]),.int i] [])=some (.ret (.dat (.agg ds)) []):=by
 obtain⟨a,b,c,d,rfl⟩ : ∃ a b c d,ds=[a,b,c,d]:=by
  match ds,ho with
  | [a,b,c,d],_=>exact⟨a,b,c,d,rfl⟩
 have ha:=h1 a (by simp)
 have hb:=h1 b (by simp)
 have hcc:=h1 c (by simp)
 have hd:=h1 d (by simp)
 have hlt:(i:Int)<m:=by omega
 refine qaa (pf:=F274) rfl rfl ?_
 simp[F274,hc,ha,hb,hcc,hd,hlt,hi,qan,V.len,List.range_succ]
theorem qdN {k n:Int} {s:ByteArray} {a b:Int} {t:ByteArray} {u:D} {r:List D} {m:Nat} {f:Bool} (hm:0<m) (hm2:m<2 ^ 30) (hu:V.one (.dat u)=true) :
  Z tQ (.call 274 [.dat (.agg [.lit (.int .i64 k),.lit (.int .i64 n),.lit (.string s),.sl (.lit (.int .i64 a) :: .lit (.int .i64 b) :: .lit (.string t)::u::r) m f]),.int 0] [])=some (.ret (.dat (.agg [.lit (.int .i64 a),.lit (.int .i64 b),.lit (.string t),u])) []):=
 qrD (i:=0) hm hm2 (by simp) rfl (by simp[hu,Value.oneCell'])
theorem qfX {k n:Int} {s:ByteArray} {a b:Int} {t:ByteArray} {u x0 x1 x2 x3:D} {r:List D} {m:Nat} {f:Bool} (hm:1<m) (hm2:m<2 ^ 30) (hu:V.one (.dat u)=true) :
  Z tQ (.call 274 [.dat (.agg [.lit (.int .i64 k),.lit (.int .i64 n),.lit (.string s),.sl (x0::x1::x2::x3 :: .lit (.int .i64 a) :: .lit (.int .i64 b) :: .lit (.string t)::u::r) m f]),.int 1] [])=some (.ret (.dat (.agg [.lit (.int .i64 a),.lit (.int .i64 b),.lit (.string t),u])) []):=
 qrD (i:=1) hm hm2 (by simp) rfl (by simp[hu,Value.oneCell'])
theorem qqm {k n:Int} {s:ByteArray} {a b:Int} {t:ByteArray} {u x0 x1 x2 x3 y0 y1 y2 y3:D} {r:List D} {m:Nat} {f:Bool} (hm:2<m) (hm2:m<2 ^ 30) (hu:V.one (.dat u)=true) :
  Z tQ (.call 274 [.dat (.agg [.lit (.int .i64 k),.lit (.int .i64 n),.lit (.string s),.sl (x0::x1::x2::x3::y0::y1::y2::y3 :: .lit (.int .i64 a) :: .lit (.int .i64 b) :: .lit (.string t)::u::r) m f]),.int 2] [])=some (.ret (.dat (.agg [.lit (.int .i64 a),.lit (.int .i64 b),.lit (.string t),u])) []):=
 qrD (i:=2) hm hm2 (by simp) rfl (by simp[hu,Value.oneCell'])
theorem qbz {t:ByteArray} {w w':List UInt8} (hw:w'=pw w [t]) (ht:t.size≠0) (h:w'.length<2 ^ 40):Z tQ (.call 243 [.ptr 0 0,.dat (.sl [.lit (.string t)] 1 true)] (PW w))=some (.ret (.tup []) (PW w')):=by
 subst hw
 exact qtF true (ts:=[t]) (fun x hx=>by rw[List.mem_singleton.1 hx]; exact ht) (by simp) h
theorem qe9 {t u:ByteArray} {w w':List UInt8} (hw:w'=pw w [t,u]) (ht:t.size≠0) (hu:u.size≠0) (h:w'.length<2 ^ 40):Z tQ (.call 243 [.ptr 0 0,.dat (.sl [.lit (.string t),.lit (.string u)] 2 true)] (PW w))=some (.ret (.tup []) (PW w')):=by
 subst hw
 exact qtF true (ts:=[t,u]) (fun x hx=>by
  rcases List.mem_cons.1 hx with e | hx
  ·rw[e]; exact ht
  ·rw[List.mem_singleton.1 hx]; exact hu) (by simp) h
theorem qk6 {t:ByteArray} {w w':List UInt8} (hw:w'=pw w [t]) (ht:t.size≠0) (h:w'.length<2 ^ 40):Z tQ (.dcall 243 [.dat (.lit .nilIface),.ptr 0 0,.dat (.sl [.lit (.string t)] 1 true)] (PW w))=some (.ret (.dat (.lit undef)) (PW w')):=by
 subst hw
 exact qtG true (ts:=[t]) (fun x hx=>by rw[List.mem_singleton.1 hx]; exact ht) (by simp) h
end Go.Pm
end SOf
section SOg
namespace Go.Pm
open F
set_option maxHeartbeats 8000000
attribute [local simp] qfj qhJ dkey
theorem qak {w w':List UInt8} {ts:List ByteArray} {k:Nat} (hw:w'=pw w ts) (h:w'.length<k):w.length<k:=Nat.lt_of_le_of_lt (by rw[hw]; exact qlS w ts) h
def qe3 (e:E) (p:Nat) (i:Int):Prop := ∀ w w',w'=pw w (e.tx false p)->w'.length<2 ^ 40->Z tQ (.call 273 [.ptr 0 0,e.node,.int i] (PW w))=some (.ret (.tup []) (PW w'))
theorem qgY (o:Bop):o.str.size≠0:=by cases o<;>decide
theorem qj5 (b:Bool):(ustr b).size≠0:=by cases b<;>decide
theorem qnq {n:Int} (h0:0<=n) (h1:n<=2147483647):(bs (decB n.toNat)).size≠0:=by
 obtain⟨_,_,c,r,h⟩:=qfW (n:=n.toNat) (by omega)
 rw[qbh,h]
 simp
theorem qth {n:Int} (h0:0<=n) (h1:n<=2147483647) {p:Nat} {i:Int} (hi:i=p) (hp:p<=8):qe3 (E.int n) p i:=by
 intro w w' hw hsz
 have zl:Z tQ (.call 282 [.dat (.agg [.lit (.int .i64 8),.lit (.int .i64 n),.lit (.string ⟨#[]⟩),.lit (.slice none 0 0)])] [])=some (.ret (.int 8) []):=qc2 (.int n)
 have hc : ¬ (8:Int)<i:=by omega
 have htx:(E.int n).tx false p=[bs (decB n.toNat)]:=by
  have hq : ¬ 8<p:=by omega
  simp[E.tx,qda,qed,ustr,bs,qgN,qkk,Bop.left,hq]
 have e1:w'=pw w [bs (decB n.toNat)]:=by rw[hw,htx]
 have s1:=hsz
 have z1:=qbz e1 (qnq h0 h1) s1
 have f0:=qtt h0 h1
 simp only[PW,PW'] at z1 ⊢
 clear e1 s1 hw htx hsz
 refine qaa (pf:=F273) rfl rfl ?_
 simp[F273,zl,hc,f0,z1,List.range_succ]
theorem qo0  {p:Nat} {i:Int} (hi:i=p) (hp:p<=8):qe3 (E.bool 0) p i:=by
 intro w w' hw hsz
 have zl:Z tQ (.call 282 [.dat (.agg [.lit (.int .i64 9),.lit (.int .i64 0),.lit (.string ⟨#[]⟩),.lit (.slice none 0 0)])] [])=some (.ret (.int 8) []):=qc2 (.bool 0)
 have hc : ¬ (8:Int)<i:=by omega
 have htx:(E.bool 0).tx false p=[⟨#[102,97,108,115,101]⟩]:=by
  have hq : ¬ 8<p:=by omega
  simp[E.tx,qda,qed,ustr,bs,qgN,qkk,Bop.left,hq]
 have e1:w'=pw w [⟨#[102,97,108,115,101]⟩]:=by rw[hw,htx]
 have s1:=hsz
 have z1:=qbz e1 (by decide) s1
 simp only[PW,PW'] at z1 ⊢
 clear e1 s1 hw htx hsz
 refine qaa (pf:=F273) rfl rfl ?_
 simp[F273,zl,hc,z1,List.range_succ]
theorem qo1  {p:Nat} {i:Int} (hi:i=p) (hp:p<=8):qe3 (E.bool 1) p i:=by
 intro w w' hw hsz
 have zl:Z tQ (.call 282 [.dat (.agg [.lit (.int .i64 9),.lit (.int .i64 1),.lit (.string ⟨#[]⟩),.lit (.slice none 0 0)])] [])=some (.ret (.int 8) []):=qc2 (.bool 1)
 have hc : ¬ (8:Int)<i:=by omega
 have htx:(E.bool 1).tx false p=[⟨#[116,114,117,101]⟩]:=by
  have hq : ¬ 8<p:=by omega
  simp[E.tx,qda,qed,ustr,bs,qgN,qkk,Bop.left,hq]
 have e1:w'=pw w [⟨#[116,114,117,101]⟩]:=by rw[hw,htx]
 have s1:=hsz
 have z1:=qbz e1 (by decide) s1
 simp only[PW,PW'] at z1 ⊢
 clear e1 s1 hw htx hsz
 refine qaa (pf:=F273) rfl rfl ?_
 simp[F273,zl,hc,z1,List.range_succ]
theorem qti {s:ByteArray} (hs:s.size≠0) {p:Nat} {i:Int} (hi:i=p) (hp:p<=8):qe3 (E.var s) p i:=by
 intro w w' hw hsz
 have zl:Z tQ (.call 282 [.dat (.agg [.lit (.int .i64 10),.lit (.int .i64 0),.lit (.string s),.lit (.slice none 0 0)])] [])=some (.ret (.int 8) []):=qc2 (.var s)
 have hc : ¬ (8:Int)<i:=by omega
 have htx:(E.var s).tx false p=[s]:=by
  have hq : ¬ 8<p:=by omega
  simp[E.tx,qda,qed,ustr,bs,qgN,qkk,Bop.left,hq]
 have e1:w'=pw w [s]:=by rw[hw,htx]
 have s1:=hsz
 have z1:=qbz e1 (hs) s1
 simp only[PW,PW'] at z1 ⊢
 clear e1 s1 hw htx hsz
 refine qaa (pf:=F273) rfl rfl ?_
 simp[F273,zl,hc,z1,List.range_succ]
theorem qq6 {s:ByteArray} (hs:s.size≠0) {p:Nat} {i:Int} (hi:i=p) (hp:p<=8):qe3 (E.name s) p i:=by
 intro w w' hw hsz
 have zl:Z tQ (.call 282 [.dat (.agg [.lit (.int .i64 12),.lit (.int .i64 0),.lit (.string s),.lit (.slice none 0 0)])] [])=some (.ret (.int 8) []):=qc2 (.name s)
 have hc : ¬ (8:Int)<i:=by omega
 have htx:(E.name s).tx false p=[s]:=by
  have hq : ¬ 8<p:=by omega
  simp[E.tx,qda,qed,ustr,bs,qgN,qkk,Bop.left,hq]
 have e1:w'=pw w [s]:=by rw[hw,htx]
 have s1:=hsz
 have z1:=qbz e1 (hs) s1
 simp only[PW,PW'] at z1 ⊢
 clear e1 s1 hw htx hsz
 refine qaa (pf:=F273) rfl rfl ?_
 simp[F273,zl,hc,z1,List.range_succ]
theorem qo2 {f:Bool} {s:ByteArray} {e:E} (hs:s.size≠0) (he:qe3 e 1 1) {p:Nat} {i:Int} (hi:i=p) (hp:p<=8):qe3 (E.field f s e) p i:=by
 intro w w' hw hsz
 have zl:Z tQ (.call 282 [.dat (.agg [.lit (.int .i64 11),.lit (.int .i64 0),.lit (.string s),.sl [.lit (.int .i64 e.kind),.lit (.int .i64 e.num),.lit (.string e.str),e.kids] 1 f])] [])=some (.ret (.int 8) []):=qc2 (.field f s e)
 have hc : ¬ (8:Int)<i:=by omega
 have htx:(E.field f s e).tx false p=[s,⟨#[91]⟩]++((e.tx false 1)++([⟨#[93]⟩])):=by
  have hq : ¬ 8<p:=by omega
  simp[E.tx,qda,qed,ustr,bs,qgN,qkk,Bop.left,hq]
 obtain⟨w1,e1⟩ : ∃ x,x=pw w [s,⟨#[91]⟩]:=⟨_,rfl⟩
 obtain⟨w2,e2⟩ : ∃ x,x=pw w1 (e.tx false 1):=⟨_,rfl⟩
 have e3:w'=pw w2 [⟨#[93]⟩]:=by rw[hw,htx,qat,<- e1,qat,<- e2]
 have s3:=hsz
 have s2:=qak e3 s3
 have s1:=qak e2 s2
 have z1:=qe9 e1 (hs) (by decide) s1
 have z2:=he w1 w2 e2 s2
 have z3:=qbz e3 (by decide) s3
 have f0:=qdN (k:=11) (n:=0) (s:=s) (a:=e.kind) (b:=e.num) (t:=e.str) (u:=e.kids) (r:=[]) (m:=1) (f:=f) (by omega) (by omega) (qaJ e)
 simp only[PW,PW'] at z1 z2 z3 ⊢
 clear e1 e2 e3 s1 s2 s3 hw htx hsz
 refine qaa (pf:=F273) rfl rfl ?_
 simp[F273,zl,hc,f0,z1,z2,z3,List.range_succ]
theorem qve {f neg:Bool} {e:E} {L:Nat} (hL:L=qed neg) (he:qe3 e L L) {p:Nat} {i:Int} (hi:i=p) (hp:p<=L):qe3 (E.un f neg e) p i:=by
 intro w w' hw hsz
 have zl:Z tQ (.call 282 [.dat (.agg [.lit (.int .i64 13),.lit (.int .i64 0),.lit (.string (ustr neg)),.sl [.lit (.int .i64 e.kind),.lit (.int .i64 e.num),.lit (.string e.str),e.kids] 1 f])] [])=some (.ret (.int L) []):=by
  have:=qc2 (.un f neg e)
  rw[show E.lev (.un f neg e)=L from hL.symm] at this
  exact this
 have hc : ¬ (L:Int)<i:=by omega
 have htx:(E.un f neg e).tx false p=[ustr neg]++((e.tx false L)):=by
  have hq : ¬ L<p:=by omega
  simp[E.tx,qda,bs,hL.symm,hq]
 obtain⟨w1,e1⟩ : ∃ x,x=pw w [ustr neg]:=⟨_,rfl⟩
 have e2:w'=pw w1 (e.tx false L):=by rw[hw,htx,qat,<- e1]
 have s2:=hsz
 have s1:=qak e2 s2
 have z1:=qbz e1 (qj5 neg) s1
 have z2:=he w1 w' e2 s2
 have f0:=qdN (k:=13) (n:=0) (s:=ustr neg) (a:=e.kind) (b:=e.num) (t:=e.str) (u:=e.kids) (r:=[]) (m:=1) (f:=f) (by omega) (by omega) (qaJ e)
 simp only[PW,PW'] at z1 z2 ⊢
 clear e1 e2 s1 s2 hw htx hsz
 refine qaa (pf:=F273) rfl rfl ?_
 simp[F273,zl,hc,f0,z1,z2,List.range_succ]
theorem qtj {f neg:Bool} {e:E} {L:Nat} (hL:L=qed neg) (he:qe3 e L L) {p:Nat} {i:Int} (hi:i=p) (hp:L<p):qe3 (E.un f neg e) p i:=by
 intro w w' hw hsz
 have zl:Z tQ (.call 282 [.dat (.agg [.lit (.int .i64 13),.lit (.int .i64 0),.lit (.string (ustr neg)),.sl [.lit (.int .i64 e.kind),.lit (.int .i64 e.num),.lit (.string e.str),e.kids] 1 f])] [])=some (.ret (.int L) []):=by
  have:=qc2 (.un f neg e)
  rw[show E.lev (.un f neg e)=L from hL.symm] at this
  exact this
 have hc:(L:Int)<i:=by omega
 have htx:(E.un f neg e).tx false p=[⟨#[40]⟩]++([ustr neg]++((e.tx false L)++([⟨#[41]⟩]))):=by
  have hq:L<p:=hp
  simp[E.tx,qda,bs,hL.symm,hq]
 obtain⟨w1,e1⟩ : ∃ x,x=pw w [⟨#[40]⟩]:=⟨_,rfl⟩
 obtain⟨w2,e2⟩ : ∃ x,x=pw w1 [ustr neg]:=⟨_,rfl⟩
 obtain⟨w3,e3⟩ : ∃ x,x=pw w2 (e.tx false L):=⟨_,rfl⟩
 have e4:w'=pw w3 [⟨#[41]⟩]:=by rw[hw,htx,qat,<- e1,qat,<- e2,qat,<- e3]
 have s4:=hsz
 have s3:=qak e4 s4
 have s2:=qak e3 s3
 have s1:=qak e2 s2
 have z1:=qbz e1 (by decide) s1
 have z2:=qbz e2 (qj5 neg) s2
 have z3:=he w2 w3 e3 s3
 have z4:=qk6 e4 (by decide) s4
 have f0:=qdN (k:=13) (n:=0) (s:=ustr neg) (a:=e.kind) (b:=e.num) (t:=e.str) (u:=e.kids) (r:=[]) (m:=1) (f:=f) (by omega) (by omega) (qaJ e)
 simp only[PW,PW'] at z1 z2 z3 z4 ⊢
 clear e1 e2 e3 e4 s1 s2 s3 s4 hw htx hsz
 refine qaa (pf:=F273) rfl rfl ?_
 simp[F273,zl,hc,f0,z1,z2,z3,z4,List.range_succ]
theorem qtk {f:Bool} {o:Bop} {a b:E} {L:Nat} (hl:o.prec=L) (h4:L≠4) (ha:qe3 a L L) (hb:qe3 b (L+1) ((L:Int)+1)) {p:Nat} {i:Int} (hi:i=p) (hp:p<=L):qe3 (E.bin f o a b) p i:=by
 intro w w' hw hsz
 have zl:Z tQ (.call 282 [.dat (.agg [.lit (.int .i64 14),.lit (.int .i64 0),.lit (.string o.str),.sl [.lit (.int .i64 a.kind),.lit (.int .i64 a.num),.lit (.string a.str),a.kids,.lit (.int .i64 b.kind),.lit (.int .i64 b.num),.lit (.string b.str),b.kids] 2 f])] [])=some (.ret (.int L) []):=by
  have:=qc2 (.bin f o a b)
  rw[show E.lev (.bin f o a b)=L from hl] at this
  exact this
 have hc : ¬ (L:Int)<i:=by omega
 have hlf:o.left=L:=by have:=qbG o; omega
 have h4' : ¬ (L:Int)=4:=by omega
 have wL:=qag ((L:Int)+1) (by have:=qbG o; omega)
 have htx:(E.bin f o a b).tx false p=(a.tx false L)++([o.str]++((b.tx false (L+1)))):=by
  have hq : ¬ L<p:=by omega
  simp[E.tx,qda,bs,hl,hlf,hq]
 obtain⟨w1,e1⟩ : ∃ x,x=pw w (a.tx false L):=⟨_,rfl⟩
 obtain⟨w2,e2⟩ : ∃ x,x=pw w1 [o.str]:=⟨_,rfl⟩
 have e3:w'=pw w2 (b.tx false (L+1)):=by rw[hw,htx,qat,<- e1,qat,<- e2]
 have s3:=hsz
 have s2:=qak e3 s3
 have s1:=qak e2 s2
 have z1:=ha w w1 e1 s1
 have z2:=qbz e2 (qgY o) s2
 have z3:=hb w2 w' e3 s3
 have f0:=qdN (k:=14) (n:=0) (s:=o.str) (a:=a.kind) (b:=a.num) (t:=a.str) (u:=a.kids) (r:=[.lit (.int .i64 b.kind),.lit (.int .i64 b.num),.lit (.string b.str),b.kids]) (m:=2) (f:=f) (by omega) (by omega) (qaJ a)
 have f1:=qfX (k:=14) (n:=0) (s:=o.str) (x0 := .lit (.int .i64 a.kind)) (x1 := .lit (.int .i64 a.num)) (x2 := .lit (.string a.str)) (x3:=a.kids) (a:=b.kind) (b:=b.num) (t:=b.str) (u:=b.kids) (r:=[]) (m:=2) (f:=f) (by omega) (by omega) (qaJ b)
 simp only[PW,PW'] at z1 z2 z3 ⊢
 clear e1 e2 e3 s1 s2 s3 hw htx hsz
 refine qaa (pf:=F273) rfl rfl ?_
 simp[F273,zl,hc,f0,f1,z1,z2,z3,List.range_succ,h4',wL]
theorem qq7 {f:Bool} {o:Bop} {a b:E} {L:Nat} (hl:o.prec=L) (h4:L≠4) (ha:qe3 a L L) (hb:qe3 b (L+1) ((L:Int)+1)) {p:Nat} {i:Int} (hi:i=p) (hp:L<p):qe3 (E.bin f o a b) p i:=by
 intro w w' hw hsz
 have zl:Z tQ (.call 282 [.dat (.agg [.lit (.int .i64 14),.lit (.int .i64 0),.lit (.string o.str),.sl [.lit (.int .i64 a.kind),.lit (.int .i64 a.num),.lit (.string a.str),a.kids,.lit (.int .i64 b.kind),.lit (.int .i64 b.num),.lit (.string b.str),b.kids] 2 f])] [])=some (.ret (.int L) []):=by
  have:=qc2 (.bin f o a b)
  rw[show E.lev (.bin f o a b)=L from hl] at this
  exact this
 have hc:(L:Int)<i:=by omega
 have hlf:o.left=L:=by have:=qbG o; omega
 have h4' : ¬ (L:Int)=4:=by omega
 have wL:=qag ((L:Int)+1) (by have:=qbG o; omega)
 have htx:(E.bin f o a b).tx false p=[⟨#[40]⟩]++((a.tx false L)++([o.str]++((b.tx false (L+1))++([⟨#[41]⟩])))):=by
  have hq:L<p:=hp
  simp[E.tx,qda,bs,hl,hlf,hq]
 obtain⟨w1,e1⟩ : ∃ x,x=pw w [⟨#[40]⟩]:=⟨_,rfl⟩
 obtain⟨w2,e2⟩ : ∃ x,x=pw w1 (a.tx false L):=⟨_,rfl⟩
 obtain⟨w3,e3⟩ : ∃ x,x=pw w2 [o.str]:=⟨_,rfl⟩
 obtain⟨w4,e4⟩ : ∃ x,x=pw w3 (b.tx false (L+1)):=⟨_,rfl⟩
 have e5:w'=pw w4 [⟨#[41]⟩]:=by rw[hw,htx,qat,<- e1,qat,<- e2,qat,<- e3,qat,<- e4]
 have s5:=hsz
 have s4:=qak e5 s5
 have s3:=qak e4 s4
 have s2:=qak e3 s3
 have s1:=qak e2 s2
 have z1:=qbz e1 (by decide) s1
 have z2:=ha w1 w2 e2 s2
 have z3:=qbz e3 (qgY o) s3
 have z4:=hb w3 w4 e4 s4
 have z5:=qk6 e5 (by decide) s5
 have f0:=qdN (k:=14) (n:=0) (s:=o.str) (a:=a.kind) (b:=a.num) (t:=a.str) (u:=a.kids) (r:=[.lit (.int .i64 b.kind),.lit (.int .i64 b.num),.lit (.string b.str),b.kids]) (m:=2) (f:=f) (by omega) (by omega) (qaJ a)
 have f1:=qfX (k:=14) (n:=0) (s:=o.str) (x0 := .lit (.int .i64 a.kind)) (x1 := .lit (.int .i64 a.num)) (x2 := .lit (.string a.str)) (x3:=a.kids) (a:=b.kind) (b:=b.num) (t:=b.str) (u:=b.kids) (r:=[]) (m:=2) (f:=f) (by omega) (by omega) (qaJ b)
 simp only[PW,PW'] at z1 z2 z3 z4 z5 ⊢
 clear e1 e2 e3 e4 e5 s1 s2 s3 s4 s5 hw htx hsz
 refine qaa (pf:=F273) rfl rfl ?_
 simp[F273,zl,hc,f0,f1,z1,z2,z3,z4,z5,List.range_succ,h4',wL]
theorem qq8 {f:Bool} {o:Bop} {a b:E} (hl:o.prec=4) (ha:qe3 a 5 5) (hb:qe3 b 5 5) {p:Nat} {i:Int} (hi:i=p) (hp:p<=4):qe3 (E.bin f o a b) p i:=by
 intro w w' hw hsz
 have zl:Z tQ (.call 282 [.dat (.agg [.lit (.int .i64 14),.lit (.int .i64 0),.lit (.string o.str),.sl [.lit (.int .i64 a.kind),.lit (.int .i64 a.num),.lit (.string a.str),a.kids,.lit (.int .i64 b.kind),.lit (.int .i64 b.num),.lit (.string b.str),b.kids] 2 f])] [])=some (.ret (.int 4) []):=by
  have:=qc2 (.bin f o a b)
  rw[show E.lev (.bin f o a b)=4 from hl] at this
  exact this
 have hc : ¬ (4:Int)<i:=by omega
 have hlf:o.left=5:=by have:=qbG o; omega
 have htx:(E.bin f o a b).tx false p=(a.tx false 5)++([o.str]++((b.tx false 5))):=by
  have hq : ¬ 4<p:=by omega
  simp[E.tx,qda,bs,hl,hlf,hq]
 obtain⟨w1,e1⟩ : ∃ x,x=pw w (a.tx false 5):=⟨_,rfl⟩
 obtain⟨w2,e2⟩ : ∃ x,x=pw w1 [o.str]:=⟨_,rfl⟩
 have e3:w'=pw w2 (b.tx false 5):=by rw[hw,htx,qat,<- e1,qat,<- e2]
 have s3:=hsz
 have s2:=qak e3 s3
 have s1:=qak e2 s2
 have z1:=ha w w1 e1 s1
 have z2:=qbz e2 (qgY o) s2
 have z3:=hb w2 w' e3 s3
 have f0:=qdN (k:=14) (n:=0) (s:=o.str) (a:=a.kind) (b:=a.num) (t:=a.str) (u:=a.kids) (r:=[.lit (.int .i64 b.kind),.lit (.int .i64 b.num),.lit (.string b.str),b.kids]) (m:=2) (f:=f) (by omega) (by omega) (qaJ a)
 have f1:=qfX (k:=14) (n:=0) (s:=o.str) (x0 := .lit (.int .i64 a.kind)) (x1 := .lit (.int .i64 a.num)) (x2 := .lit (.string a.str)) (x3:=a.kids) (a:=b.kind) (b:=b.num) (t:=b.str) (u:=b.kids) (r:=[]) (m:=2) (f:=f) (by omega) (by omega) (qaJ b)
 simp only[PW,PW'] at z1 z2 z3 ⊢
 clear e1 e2 e3 s1 s2 s3 hw htx hsz
 refine qaa (pf:=F273) rfl rfl ?_
 simp[F273,zl,hc,f0,f1,z1,z2,z3,List.range_succ,qag 5 (by omega)]
theorem qo3 {f:Bool} {o:Bop} {a b:E} (hl:o.prec=4) (ha:qe3 a 5 5) (hb:qe3 b 5 5) {p:Nat} {i:Int} (hi:i=p) (hp:4<p):qe3 (E.bin f o a b) p i:=by
 intro w w' hw hsz
 have zl:Z tQ (.call 282 [.dat (.agg [.lit (.int .i64 14),.lit (.int .i64 0),.lit (.string o.str),.sl [.lit (.int .i64 a.kind),.lit (.int .i64 a.num),.lit (.string a.str),a.kids,.lit (.int .i64 b.kind),.lit (.int .i64 b.num),.lit (.string b.str),b.kids] 2 f])] [])=some (.ret (.int 4) []):=by
  have:=qc2 (.bin f o a b)
  rw[show E.lev (.bin f o a b)=4 from hl] at this
  exact this
 have hc:(4:Int)<i:=by omega
 have hlf:o.left=5:=by have:=qbG o; omega
 have htx:(E.bin f o a b).tx false p=[⟨#[40]⟩]++((a.tx false 5)++([o.str]++((b.tx false 5)++([⟨#[41]⟩])))):=by
  have hq:4<p:=hp
  simp[E.tx,qda,bs,hl,hlf,hq]
 obtain⟨w1,e1⟩ : ∃ x,x=pw w [⟨#[40]⟩]:=⟨_,rfl⟩
 obtain⟨w2,e2⟩ : ∃ x,x=pw w1 (a.tx false 5):=⟨_,rfl⟩
 obtain⟨w3,e3⟩ : ∃ x,x=pw w2 [o.str]:=⟨_,rfl⟩
 obtain⟨w4,e4⟩ : ∃ x,x=pw w3 (b.tx false 5):=⟨_,rfl⟩
 have e5:w'=pw w4 [⟨#[41]⟩]:=by rw[hw,htx,qat,<- e1,qat,<- e2,qat,<- e3,qat,<- e4]
 have s5:=hsz
 have s4:=qak e5 s5
 have s3:=qak e4 s4
 have s2:=qak e3 s3
 have s1:=qak e2 s2
 have z1:=qbz e1 (by decide) s1
 have z2:=ha w1 w2 e2 s2
 have z3:=qbz e3 (qgY o) s3
 have z4:=hb w3 w4 e4 s4
 have z5:=qk6 e5 (by decide) s5
 have f0:=qdN (k:=14) (n:=0) (s:=o.str) (a:=a.kind) (b:=a.num) (t:=a.str) (u:=a.kids) (r:=[.lit (.int .i64 b.kind),.lit (.int .i64 b.num),.lit (.string b.str),b.kids]) (m:=2) (f:=f) (by omega) (by omega) (qaJ a)
 have f1:=qfX (k:=14) (n:=0) (s:=o.str) (x0 := .lit (.int .i64 a.kind)) (x1 := .lit (.int .i64 a.num)) (x2 := .lit (.string a.str)) (x3:=a.kids) (a:=b.kind) (b:=b.num) (t:=b.str) (u:=b.kids) (r:=[]) (m:=2) (f:=f) (by omega) (by omega) (qaJ b)
 simp only[PW,PW'] at z1 z2 z3 z4 z5 ⊢
 clear e1 e2 e3 e4 e5 s1 s2 s3 s4 s5 hw htx hsz
 refine qaa (pf:=F273) rfl rfl ?_
 simp[F273,zl,hc,f0,f1,z1,z2,z3,z4,z5,List.range_succ,qag 5 (by omega)]
theorem qiw {s:ByteArray} (h:s∈fieldNames):s.size≠0:=by
 simp only[fieldNames,List.mem_cons,List.not_mem_nil,or_false] at h
 rcases h with h | h | h | h | h | h | h | h<;>rw[h]<;>decide
theorem qj6 : ∀ e:E,e.good -> ∀ p i,i=((p:Nat):Int)->p<=8->qe3 e p i
 | .int n,h,p,i,hi,hp=>qth h.1 h.2 hi hp
 | .bool n,h,p,i,hi,hp=>by
  rcases h with rfl | rfl
  ·exact qo0 hi hp
  ·exact qo1 hi hp
 | .var s,h,p,i,hi,hp=>qti (qjv h.1) hi hp
 | .name s,h,p,i,hi,hp=>qq6 (by rcases h with rfl | rfl | rfl<;>decide) hi hp
 | .field f s e,h,p,i,hi,hp=>qo2 (qiw h.1) (qj6 e h.2 1 1 rfl (by omega)) hi hp
 | .un f neg e,h,p,i,hi,hp=>by
  have A:=qj6 e h (qed neg) (qed neg) rfl (by cases neg<;>decide)
  by_cases hq:qed neg<p
  ·exact qtj rfl A hi hq
  ·exact qve rfl A hi (by omega)
 | .bin f o a b,h,p,i,hi,hp=>by
  have hr:=qbG o
  have A:=qj6 a h.1 o.left o.left rfl (by omega)
  have B:=qj6 b h.2 (o.prec+1) ((o.prec:Int)+1) (by omega) (by omega)
  by_cases h4:o.prec=4
  ·rw[show o.left=5 by omega] at A
   rw[h4] at B
   by_cases hq:4<p
   ·exact qo3 h4 A B hi hq
   ·exact qq8 h4 A B hi (by omega)
  ·rw[show o.left=o.prec by omega] at A
   by_cases hq:o.prec<p
   ·exact qq7 rfl h4 A B hi hq
   ·exact qtk rfl h4 A B hi (by omega)
end Go.Pm
end SOg
