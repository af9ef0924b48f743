/- strconv: how many digits; the tables of two digits and of lengths, as parameters. -/
import Derived.Test.YtoccgneneplciaaGreatDoorPmAL
import Derived.Test.YtoccgneneplciaaGreatDoorPmYj
import Derived.Laws.BitsAllLaws
import Derived.Laws.Bits64
import Derived.Test.YtoccgneneplciaaGreatDoorPmF5
import Derived.Test.YtoccgneneplciaaGreatDoorPmEt
import Derived.Test.YtoccgneneplciaaGreatDoorPmR1
set_option linter.unusedSimpArgs false
set_option linter.unusedVariables false
set_option maxHeartbeats 4000000
namespace Go.Pm
section
open F
def tab2:ByteArray:=⟨#[48,48,48,49,48,50,48,51,48,52,48,53,48,54,48,55,48,56,48,57,49,48,49,49,49,50,49,51,49,52,49,53,49,54,49,55,49,56,49,57,50,48,50,49,50,50,50,51,50,52,50,53,50,54,50,55,50,56,50,57,51,48,51,49,51,50,51,51,51,52,51,53,51,54,51,55,51,56,51,57,52,48,52,49,52,50,52,51,52,52,52,53,52,54,52,55,52,56,52,57,53,48,53,49,53,50,53,51,53,52,53,53,53,54,53,55,53,56,53,57,54,48,54,49,54,50,54,51,54,52,54,53,54,54,54,55,54,56,54,57,55,48,55,49,55,50,55,51,55,52,55,53,55,54,55,55,55,56,55,57,56,48,56,49,56,50,56,51,56,52,56,53,56,54,56,55,56,56,56,57,57,48,57,49,57,50,57,51,57,52,57,53,57,54,57,55,57,56,57,57]⟩
def tab8:ByteArray:=⟨#[0,1,2,2,3,3,3,3,4,4,4,4,4,4,4,4,5,5,5,5,5,5,5,5,5,5,5,5,5,5,5,5,6,6,6,6,6,6,6,6,6,6,6,6,6,6,6,6,6,6,6,6,6,6,6,6,6,6,6,6,6,6,6,6,7,7,7,7,7,7,7,7,7,7,7,7,7,7,7,7,7,7,7,7,7,7,7,7,7,7,7,7,7,7,7,7,7,7,7,7,7,7,7,7,7,7,7,7,7,7,7,7,7,7,7,7,7,7,7,7,7,7,7,7,7,7,7,7,8,8,8,8,8,8,8,8,8,8,8,8,8,8,8,8,8,8,8,8,8,8,8,8,8,8,8,8,8,8,8,8,8,8,8,8,8,8,8,8,8,8,8,8,8,8,8,8,8,8,8,8,8,8,8,8,8,8,8,8,8,8,8,8,8,8,8,8,8,8,8,8,8,8,8,8,8,8,8,8,8,8,8,8,8,8,8,8,8,8,8,8,8,8,8,8,8,8,8,8,8,8,8,8,8,8,8,8,8,8,8,8,8,8,8,8,8,8,8,8,8,8,8,8,8,8,8,8]⟩
section
variable(tab:ByteArray)
def F295l0Kx:PC:=(.seq (.seq (rn [mv 19 4,bk 20 .geq 19 8] [0,1,4,20]) (.cond (.t 20) (.skip) (.exit 0))) (.block 1 (.seq (rn [mv 21 1,jj 22 (.bin .rem (.t 21) (.c (.int .u64 100000000))),jj 23 (.conv (.int .u32) (.t 22)),mv 5 23] [0,1,4,5]) (.seq (rn [mv 24 1,jj 25 (.bin .quo (.t 24) (.c (.int .u64 100000000))),mv 1 25] [0,1,4,5]) (.seq (rn [mv 26 5,jj 27 (.bin .quo (.t 26) (.c (.int .u32 10000))),mv 28 5,jj 29 (.bin .rem (.t 28) (.c (.int .u32 10000))),mv 6 27,mv 7 29] [0,1,4,6,7]) (.seq (rn [mv 30 7,jj 31 (.bin .quo (.t 30) (.c (.int .u32 100))),jj 32 (.bin .mul (.t 31) (.c (.int .u32 2))),mv 33 7,jj 34 (.bin .rem (.t 33) (.c (.int .u32 100))),jj 35 (.bin .mul (.t 34) (.c (.int .u32 2))),mv 8 32,mv 9 35] [0,1,4,6,8,9]) (.seq (rn [mv 36 6,jj 37 (.bin .quo (.t 36) (.c (.int .u32 100))),jj 38 (.bin .mul (.t 37) (.c (.int .u32 2))),mv 39 6,jj 40 (.bin .rem (.t 39) (.c (.int .u32 100))),jj 41 (.bin .mul (.t 40) (.c (.int .u32 2))),mv 10 38,mv 11 41] [0,1,4,8,9,10,11]) (.seq (.region (some []) [mv 42 0,mv 43 4,bk 44 .sub 43 1,mv 45 0,mv 46 4,bk 47 .sub 46 2,mv 48 9,jj 49 (.bin .add (.t 48) (.c (.int .u32 1))),jj 50 (.indexS (.c (.string tab)) (.t 49)),mv 51 9,jj 52 (.indexS (.c (.string tab)) (.t 51)),jj 53 (.indexAddr 1 (.t 42) (.t 44)),st 1 53 50,jj 54 (.indexAddr 1 (.t 45) (.t 47)),st 1 54 52] [0,1,4,8,10,11]) (.seq (.region (some []) [mv 55 0,mv 56 4,bk 57 .sub 56 3,mv 58 0,mv 59 4,bk 60 .sub 59 4,mv 61 8,jj 62 (.bin .add (.t 61) (.c (.int .u32 1))),jj 63 (.indexS (.c (.string tab)) (.t 62)),mv 64 8,jj 65 (.indexS (.c (.string tab)) (.t 64)),jj 66 (.indexAddr 1 (.t 55) (.t 57)),st 1 66 63,jj 67 (.indexAddr 1 (.t 58) (.t 60)),st 1 67 65] [0,1,4,10,11]) (.seq (.region (some []) [mv 68 0,mv 69 4,bk 70 .sub 69 5,mv 71 0,mv 72 4,bk 73 .sub 72 6,mv 74 11,jj 75 (.bin .add (.t 74) (.c (.int .u32 1))),jj 76 (.indexS (.c (.string tab)) (.t 75)),mv 77 11,jj 78 (.indexS (.c (.string tab)) (.t 77)),jj 79 (.indexAddr 1 (.t 68) (.t 70)),st 1 79 76,jj 80 (.indexAddr 1 (.t 71) (.t 73)),st 1 80 78] [0,1,4,10]) (.seq (.region (some []) [mv 81 0,mv 82 4,bk 83 .sub 82 7,mv 84 0,mv 85 4,bk 86 .sub 85 8,mv 87 10,jj 88 (.bin .add (.t 87) (.c (.int .u32 1))),jj 89 (.indexS (.c (.string tab)) (.t 88)),mv 90 10,jj 91 (.indexS (.c (.string tab)) (.t 90)),jj 92 (.indexAddr 1 (.t 81) (.t 83)),st 1 92 89,jj 93 (.indexAddr 1 (.t 84) (.t 86)),st 1 93 91] [0,1,4]) (rn [mv 94 4,bk 95 .sub 94 8,mv 4 95] [0,1,4]))))))))))))
def F295l0K:PC:=F295l0Kx tab
theorem qb6(C:Task->Option Res)(q:Nat)(fr:Fr)(σ : S):run C q (F295l0K tab) fr σ = run C q (F295l0Kx tab) fr σ := rfl
def F295K:PFun:=⟨2,[],.seq (rn [mv 17 0,ls 18 17,mv 4 18] [0,1,4]) (.seq (.block 0 (.loop (F295l0K tab))) (.seq (rn [mv 96 1,jj 97 (.conv (.int .u32) (.t 96)),mv 12 97] [0,4,12]) (.seq (.seq (rn [mv 98 4,bk 99 .geq 98 4] [0,4,12,99]) (.cond (.t 99) (.seq (rn [mv 100 12,jj 101 (.bin .rem (.t 100) (.c (.int .u32 10000))),mv 13 101] [0,4,12,13]) (.seq (rn [mv 102 12,jj 103 (.bin .quo (.t 102) (.c (.int .u32 10000))),mv 12 103] [0,4,12,13]) (.seq (rn [mv 104 13,jj 105 (.bin .quo (.t 104) (.c (.int .u32 100))),jj 106 (.bin .mul (.t 105) (.c (.int .u32 2))),mv 107 13,jj 108 (.bin .rem (.t 107) (.c (.int .u32 100))),jj 109 (.bin .mul (.t 108) (.c (.int .u32 2))),mv 14 106,mv 15 109] [0,4,12,14,15]) (.seq (.region (some []) [mv 110 0,mv 111 4,bk 112 .sub 111 1,mv 113 0,mv 114 4,bk 115 .sub 114 2,mv 116 15,jj 117 (.bin .add (.t 116) (.c (.int .u32 1))),jj 118 (.indexS (.c (.string tab)) (.t 117)),mv 119 15,jj 120 (.indexS (.c (.string tab)) (.t 119)),jj 121 (.indexAddr 1 (.t 110) (.t 112)),st 1 121 118,jj 122 (.indexAddr 1 (.t 113) (.t 115)),st 1 122 120] [0,4,12,14]) (.seq (.region (some []) [mv 123 0,mv 124 4,bk 125 .sub 124 3,mv 126 0,mv 127 4,bk 128 .sub 127 4,mv 129 14,jj 130 (.bin .add (.t 129) (.c (.int .u32 1))),jj 131 (.indexS (.c (.string tab)) (.t 130)),mv 132 14,jj 133 (.indexS (.c (.string tab)) (.t 132)),jj 134 (.indexAddr 1 (.t 123) (.t 125)),st 1 134 131,jj 135 (.indexAddr 1 (.t 126) (.t 128)),st 1 135 133] [0,4,12]) (rn [mv 136 4,bk 137 .sub 136 4,mv 4 137] [0,4,12])))))) (.skip))) (.seq (.seq (rn [mv 138 4,bk 139 .geq 138 2] [0,4,12,139]) (.cond (.t 139) (.seq (rn [mv 140 12,jj 141 (.bin .rem (.t 140) (.c (.int .u32 100))),jj 142 (.bin .mul (.t 141) (.c (.int .u32 2))),mv 16 142] [0,4,12,16]) (.seq (rn [mv 143 12,jj 144 (.bin .quo (.t 143) (.c (.int .u32 100))),mv 12 144] [0,4,12,16]) (.seq (.region (some []) [mv 145 0,mv 146 4,bk 147 .sub 146 1,mv 148 0,mv 149 4,bk 150 .sub 149 2,mv 151 16,jj 152 (.bin .add (.t 151) (.c (.int .u32 1))),jj 153 (.indexS (.c (.string tab)) (.t 152)),mv 154 16,jj 155 (.indexS (.c (.string tab)) (.t 154)),jj 156 (.indexAddr 1 (.t 145) (.t 147)),st 1 156 153,jj 157 (.indexAddr 1 (.t 148) (.t 150)),st 1 157 155] [0,4,12]) (rn [mv 158 4,bk 159 .sub 158 2,mv 4 159] [0,4,12])))) (.skip))) (.seq (rn [mv 160 4,bk 161 .gtr 160 0] [0,12,161]) (.cond (.t 161) (rn [mv 162 0,mv 163 12,jj 164 (.bin .add (.c (.int .u32 48)) (.t 163)),jj 165 (.conv (.int .u8) (.t 164)),jj 166 (.indexAddr 1 (.t 162) (kk 0)),st 1 166 165] []) (.skip))))))),false,false,false⟩
def F299K:PFun:=⟨1,[.tmp 2],.seq (rn [mx 2 (kk 0)] [0,2]) (.seq (.seq (rn [mv 3 0,jj 4 (.bin .geq (.t 3) (.c (.int .u64 4294967296)))] [0,2,4]) (.cond (.t 4) (.seq (rn [mv 5 0,jj 6 (.bin .shr (.t 5) (.c (.int .u64 32))),mv 0 6] [0]) (rn [mx 2 (kk 32)] [0,2])) (.skip))) (.seq (.seq (rn [mv 7 0,jj 8 (.bin .geq (.t 7) (.c (.int .u64 65536)))] [0,2,8]) (.cond (.t 8) (.seq (rn [mv 9 0,jj 10 (.bin .shr (.t 9) (.c (.int .u64 16))),mv 0 10] [0,2]) (rn [mv 11 2,bk 12 .add 11 16,mv 2 12] [0,2])) (.skip))) (.seq (.seq (rn [mv 13 0,jj 14 (.bin .geq (.t 13) (.c (.int .u64 256)))] [0,2,14]) (.cond (.t 14) (.seq (rn [mv 15 0,jj 16 (.bin .shr (.t 15) (.c (.int .u64 8))),mv 0 16] [0,2]) (rn [mv 17 2,bk 18 .add 17 8,mv 2 18] [0,2])) (.skip))) (.seq (rn [mv 19 2,mv 20 0,jj 21 (.conv (.int .u8) (.t 20)),jj 22 (.indexS (.c (.string tab)) (.t 21)),jj 23 (.conv (.int .i64) (.t 22)),bn 24 .add 19 23,mv 2 24] [2]) (.ret))))),false,false,false⟩
end
def dg(d:Nat):UInt8:=(48+d).toUInt8
theorem qrc{d:Nat}(h:d<10):(dg d).toNat=48+d:=qzA d h
theorem qwI : ∀ k,k<100->tab2[2*k]?=some (dg (k / 10)):=by decide +kernel
theorem qwJ : ∀ k,k<100->tab2[2*k+1]?=some (dg (k % 10)):=by decide +kernel
theorem qtN : ∀ x,x<256 -> ∃ l,tab8[x]?=some l/\l.toNat<=8/\(x=0->l.toNat=0)/\(0<x->2 ^ (l.toNat-1)<=x/\x<2 ^ l.toNat/\0<l.toNat):=by
 have h : ∀ x,x<256->(match tab8[x]? with
  |some l=>decide (l.toNat<=8)&&(decide (x=0->l.toNat=0)&&decide (0<x->2 ^ (l.toNat-1)<=x/\x<2 ^ l.toNat/\0<l.toNat))
  |none=>false)=true:=by decide +kernel
 intro x hx
 have:=h x hx
 cases hl:tab8[x]? with
 |none=>rw[hl] at this; cases this
 |some l=>
  rw[hl] at this
  simp only[Wu,decide_eq_true_eq] at this
  exact⟨l,rfl,this.1,this.2.1,this.2.2⟩
def ql7:Nat->Nat->List UInt8
 |0,_=>[]
 |d+1,u=>ql7 d (u / 10)++[dg (u % 10)]
theorem qla : ∀ (k d u:Nat),u<10 ^ (d+1)->(d=0\/10 ^ d<=u)->d<k->qrI k u=ql7 (d+1) u
 |0,d,u,_,_,h=>by omega
 |k+1,0,u,h,_,_=>by
  have:u<10:=by simpa using h
  simp[qrI,ql7,this,dg,Nat.mod_eq_of_lt this]
 |k+1,d+1,u,h,h2,h3=>by
  have e : ¬ u<10:=by
   have:10 ^ 1<=10 ^ (d+1):=Nat.pow_le_pow_right (by omega) (by omega)
   rcases h2 with h2|h2<;>omega
  have ih:=qla k d (u / 10) (by rw[Nat.pow_succ] at h; omega) (by
   rcases d with _|d
   ·exact .inl rfl
   ·right
    rcases h2 with h2|h2
    ·cases h2
    ·rw[Nat.pow_succ] at h2; omega) (by omega)
  rw[qrI,if_neg e,ih,ql7]
  rfl
theorem qcC{d u:Nat}(h:u<10 ^ (d+1))(h2:10 ^ d<=u)(hd:d<20):decB u=ql7 (d+1) u:=qla 20 d u h (.inr h2) hd
abbrev U64(n:Nat):V := .dat (.lit (.int .u64 n))
theorem qAf{n:Nat}(h:n<18446744073709551616):IntKind.u64.wrap (n:Int)=n:=by rw[IntKind.wrap_u64]; omega
theorem qqM{n:Nat}(h:n<4294967296):IntKind.u32.wrap (n:Int)=n:=by rw[IntKind.wrap_u32']; omega
theorem w8u{n:Nat}(h:n<256):IntKind.u8.wrap (n:Int)=n:=by rw[IntKind.wrap_u8']; omega
theorem qtO(a b:Nat):Int.fdiv (a:Int) (b:Int)=((a / b:Nat):Int):=by
 rw[Int.fdiv_eq_ediv_of_nonneg _ (by omega)]; rfl
theorem qza{u:Nat}(h0:0<u)(h1:u<2147483648) : ∃ L:Nat,L<=31/\0<L/\2 ^ (L-1)<=u/\u<2 ^ L/\Z tQ (.call 299 [U64 u] [])=some (.ret (.int L) []):=by
 have key : ∀ x a:Nat,x<256->0<x->a<=24->a*1=a -> ∃ l:UInt8,tab8[x]?=some l/\a+l.toNat<=a+8/\0<a+l.toNat/\2 ^ (a+l.toNat-1)<=x*2 ^ a/\(x+1)*2 ^ a<=2 ^ (a+l.toNat)/\l.toNat<=8:=by
  intro x a hx hp _ _
  obtain⟨l,e1,e2,_,e4⟩:=qtN x hx
  obtain⟨e5,e6,e7⟩:=e4 hp
  refine⟨l,e1,by omega,by omega,?_,?_,e2⟩
  ·rw[show a+l.toNat-1=(l.toNat-1)+a by omega,Nat.pow_add]
   exact WS _ e5
  ·rw[YI a,Nat.pow_add]
   exact WS _ e6
 have hx:tQ 299=some (F299K tab8):=rfl
 have c1 : ¬ (4294967296:Int)<=u:=by omega
 have n16 : ∀ x:Nat,qsB .u64 (x:Int) 16=((x / 65536:Nat):Int):=fun x=>qtO x 65536
 have n8 : ∀ x:Nat,qsB .u64 (x:Int) 8=((x / 256:Nat):Int):=fun x=>qtO x 256
 by_cases a1:65536<=u
 ·by_cases a2:256<=u / 65536
  ·obtain⟨l,e1,e2,e3,e4,e5,e6⟩:=key (u / 65536 / 256) 24 (by omega) (by omega) (by omega) rfl
   have hL:l.toNat<=7:=by
    rcases W9 l.toNat 8 with h|h
    ·omega
    ·have:l.toNat=8:=by omega
     rw[this] at e4
     omega
   refine⟨24+l.toNat,by omega,e3,by omega,by omega,?_⟩
   refine qaa hx rfl ?_
   have w1:=w8u (show u / 65536 / 256<256 by omega)
   have w2:IntKind.i64.wrap (24+(l.toNat:Int))=((24+l.toNat:Nat):Int):=by rw[qah _ (by omega)]; omega
   have w3:=qah (l.toNat:Int) (by omega)
   have w4:IntKind.i64.wrap 24=24:=rfl
   have w5:IntKind.i64.wrap 16=16:=rfl
   have b1:(65536:Int)<=u:=by omega
   have b2:(256:Int)<=((u / 65536:Nat):Int):=by omega
   generalize tab8=tb at *
   generalize hq1:u / 65536=q1 at *
   generalize hq2:q1 / 256=q2 at *
   generalize 24+l.toNat=L at *
   simp[F299K,c1,b1,b2,n16,n8,hq1,hq2,w1,w2,w3,w4,w5,e1]
  ·obtain⟨l,e1,e2,e3,e4,e5,e6⟩:=key (u / 65536) 16 (by omega) (by omega) (by omega) rfl
   refine⟨16+l.toNat,by omega,e3,by omega,by omega,?_⟩
   refine qaa hx rfl ?_
   have w1:=w8u (show u / 65536<256 by omega)
   have w2:IntKind.i64.wrap (16+(l.toNat:Int))=((16+l.toNat:Nat):Int):=by rw[qah _ (by omega)]; omega
   have w3:=qah (l.toNat:Int) (by omega)
   have w4:IntKind.i64.wrap 16=16:=rfl
   have b1:(65536:Int)<=u:=by omega
   have b2 : ¬ (256:Int)<=((u / 65536:Nat):Int):=by omega
   generalize tab8=tb at *
   generalize hq1:u / 65536=q1 at *
   generalize 16+l.toNat=L at *
   simp[F299K,c1,b1,b2,n16,n8,hq1,w1,w2,w3,w4,e1]
 ·by_cases a2:256<=u
  ·obtain⟨l,e1,e2,e3,e4,e5,e6⟩:=key (u / 256) 8 (by omega) (by omega) (by omega) rfl
   refine⟨8+l.toNat,by omega,e3,by omega,by omega,?_⟩
   refine qaa hx rfl ?_
   have w1:=w8u (show u / 256<256 by omega)
   have w2:IntKind.i64.wrap (8+(l.toNat:Int))=((8+l.toNat:Nat):Int):=by rw[qah _ (by omega)]; omega
   have w3:=qah (l.toNat:Int) (by omega)
   have w4:IntKind.i64.wrap 8=8:=rfl
   have b1 : ¬ (65536:Int)<=u:=by omega
   have b2:(256:Int)<=u:=by omega
   generalize tab8=tb at *
   generalize hq1:u / 256=q1 at *
   generalize 8+l.toNat=L at *
   simp[F299K,c1,b1,b2,n16,n8,hq1,w1,w2,w3,w4,e1]
  ·obtain⟨l,e1,e2,e3,e4,e5,e6⟩:=key u 0 (by omega) (by omega) (by omega) rfl
   refine⟨0+l.toNat,by omega,e3,by omega,by omega,?_⟩
   refine qaa hx rfl ?_
   have w1:=w8u (show u<256 by omega)
   have w2:IntKind.i64.wrap (0+(l.toNat:Int))=((0+l.toNat:Nat):Int):=by rw[qah _ (by omega)]; omega
   have w3:=qah (l.toNat:Int) (by omega)
   have b1 : ¬ (65536:Int)<=u:=by omega
   have b2 : ¬ (256:Int)<=u:=by omega
   generalize tab8=tb at *
   simp[F299K,c1,b1,b2,n16,n8,w1,w3,e1]
theorem qzb{L:Nat}(h:L<=31):Z tQ (.call 298 [.int L] [])=some (.ret (.int (L*78913 / 262144:Nat)) []):=by
 refine qaa (pf:=F298) rfl rfl ?_
 have w1:=qah ((L:Int)*78913) (by omega)
 have n18:qsB .i64 ((L:Int)*78913) 18=((L*78913 / 262144:Nat):Int):=by
  have:=qtO (L*78913) 262144
  rw[<- this]
  simp[qsB]
  rfl
 generalize L*78913 / 262144=q at *
 simp[F298,w1,n18]
theorem qzc(b:Bool):Z tQ (.call 300 [.bool b] [])=some (.ret (.int (if b then 1 else 0)) []):=by
 refine qaa (pf:=F300) rfl rfl ?_
 cases b<;>simp[F300]
theorem qtP : ∀ i,i<20->cutCells G_internal_strconv_uint64pow10 i 1=some [.lit (.int .u64 (10 ^ i:Nat))]:=by
 intro i hi
 unfold cutCells G_internal_strconv_uint64pow10
 rw[WK (by simpa using hi)]
 simp
theorem qtQ{u L:Nat}(h7:7<=L)(h31:L<=31)(hl:2 ^ (L-1)<=u)(hu:u<2 ^ L)(h100:100<=u)(h2:u<2147483648) : ∃ d,3<=d/\d<=10/\10 ^ (d-1)<=u/\u<10 ^ d/\d=L*78913 / 262144+(if 10 ^ (L*78913 / 262144)<=u then 1 else 0):=by
 have hL:L=7\/L=8\/L=9\/L=10\/L=11\/L=12\/L=13\/L=14\/L=15\/L=16\/L=17\/L=18\/L=19\/L=20\/L=21\/L=22\/L=23\/L=24\/L=25\/L=26\/L=27\/L=28\/L=29\/L=30\/L=31:=by omega
 rcases hL with rfl|rfl|rfl|rfl|rfl|rfl|rfl|rfl|rfl|rfl|rfl|rfl|rfl|rfl|rfl|rfl|rfl|rfl|rfl|rfl|rfl|rfl|rfl|rfl|rfl
 all_goals
  refine⟨_,?_,?_,?_,?_,rfl⟩<;>simp only[Nat.reduceMul,Nat.reduceDiv,Nat.reducePow,Nat.reduceSub] at hl hu ⊢ <;> split<;>simp<;>omega
theorem qrd{u:Nat}(h100:100<=u)(h2:u<2147483648) : ∃ d:Nat,3<=d/\d<=10/\10 ^ (d-1)<=u/\u<10 ^ d/\Z tQ (.call 294 [U64 u] [])=some (.ret (.int d) []):=by
 obtain⟨L,l1,l2,l3,l4,z⟩:=qza (by omega) h2
 have h7:7<=L:=by
  rcases W9 L 7 with h|h
  ·have:2 ^ L<=2 ^ 6:=Nat.pow_le_pow_right (by omega) (by omega)
   omega
  ·exact h
 obtain⟨d,d1,d2,d3,d4,d5⟩:=qtQ h7 l1 l3 l4 h100 h2
 refine⟨d,d1,d2,d3,d4,?_⟩
 have zl:=qzb l1
 have hi:L*78913 / 262144<=9:=by omega
 generalize L*78913 / 262144=i at *
 have hp:=qtP i (by omega)
 have zb:=qzc (decide (10 ^ i<=u))
 have hc:((10 ^ i:Nat):Int)<=(u:Int)↔10 ^ i<=u:=by omega
 have hres:IntKind.i64.wrap ((i:Int)+(if decide (10 ^ i<=u)=true then 1 else 0))=(d:Int):=by
  rw[qah _ (by split<;>omega),d5]
  by_cases h:10 ^ i<=u<;>simp[h]
 refine qaa (pf:=F294) rfl rfl ?_
 have i20:(i:Int)<20:=by omega
 generalize 10 ^ i=P at *
 generalize (if decide (P<=u)=true then (1:Int) else 0)=e at *
 simp[F294,z,zl,zb,hp,hc,hres,i20]
end
section
open F
theorem qgu:IntKind.i64.wrap 0=0/\IntKind.i64.wrap 1=1/\IntKind.i64.wrap 2=2/\IntKind.i64.wrap 3=3/\IntKind.i64.wrap 4=4/\IntKind.i64.wrap 5=5/\IntKind.i64.wrap 6=6/\IntKind.i64.wrap 7=7/\IntKind.i64.wrap 8=8/\IntKind.i64.wrap 9=9/\IntKind.i64.wrap 10=10/\IntKind.i64.wrap 11=11:=by decide
abbrev u8z:V := .dat (.lit (.int .u8 0))
theorem dgc{x y:Nat}(h:x=y):dg x=dg y:=by rw[h]
theorem wdg{n:Nat}(h:n<10):IntKind.u8.wrap (IntKind.u32.wrap (48+(n:Int)))=((dg n).toNat:Int):=by rw[qrc h,IntKind.wrap_u32',IntKind.wrap_u8']; omega
theorem dm(x k:Nat){K:Int}(hK:K=k)(hx:x<2147483648)(hk:1<k) : ∃ a b:Nat,a=x / k/\b=x % k/\((x:Int).tdiv K=a/\(x:Int) / K=a/\IntKind.u32.wrap (a:Int)=a/\IntKind.u64.wrap (a:Int)=a/\(x:Int).tmod K=b/\(x:Int) % K=b/\IntKind.u32.wrap (b:Int)=b):=by
 subst hK
 have h1:x / k<=x:=Nat.div_le_self x k
 have h2:x % k<=x:=Nat.mod_le x k
 exact⟨_,_,rfl,rfl,rfl,rfl,qqM (by omega),qAf (by omega),rfl,rfl,qqM (by omega)⟩
theorem pr{x:Nat}(h:x<100) : ∃ p q:Nat,IntKind.u32.wrap ((x:Int)*2)=(p:Int)/\IntKind.u32.wrap ((p:Int)+1)=(q:Int)/\tab2[p]?=some (dg (x / 10))/\tab2[q]?=some (dg (x % 10)):=
 ⟨2*x,2*x+1,by rw[IntKind.wrap_u32']; omega,by rw[IntKind.wrap_u32']; omega,qwI x h,qwJ x h⟩
theorem qmZ : ∀ (n u:Nat),(ql7 n u).length=n
 |0,_=>rfl
 |n+1,u=>by rw[ql7,Wc,qmZ n]; rfl
def buf(l:List UInt8):List V:=vb (0::(l++List.replicate (23-l.length) 0))
def FB(n u:Nat):Prop:=Z tQ (.call 295 [.msl 0 1 n 23 1,U64 u] [.cells (List.replicate 24 u8z)])=some (.ret (.tup []) [.cells (buf (decB u))])
theorem qzh{u:Nat}(h1:10 ^ 2<=u)(h2:u<10 ^ 3)(h3:u<2147483648):FB 3 u:=by
 have g1:=h1
 have g2:=h2
 simp only[Nat.reducePow] at g1 g2
 have n0:=qqM (n:=u) (by omega)
 obtain⟨G,t,eG,et,m1⟩:=dm u 100 (K:=100) rfl (by omega) (by omega)
 obtain⟨p2,q2,m2⟩:=pr (x:=t) (by omega)
 have n7:=wdg (n:=G) (by omega)
 have hd:decB u=[dg (G),dg (t / 10),dg (t % 10)]:=by
  rw[qcC (d:=2) h2 h1 (by omega)]
  simp only[ql7,Wf,Wh,WG,and_true,WY,Nat.reduceMul]
  exact⟨dgc (by omega),dgc (by omega),dgc (by omega)⟩
 rw[FB,hd]
 clear hd
 obtain⟨v0,v1,v2,v3,v4,v5,v6,v7,v8,v9,v10,v11⟩:=qgu
 refine qaa (pf:=F295K tab2) rfl rfl ?_
 generalize tab2=tab at *
 simp[F295K,buf,vb,List.replicate,qab,qac,qb6,F295l0Kx,V.len,qak,Wa,v0,v1,v2,v3,v4,v5,v6,v7,v8,v9,v10,v11,n0,m1,m2,n7]
theorem qzi{u:Nat}(h1:10 ^ 3<=u)(h2:u<10 ^ 4)(h3:u<2147483648):FB 4 u:=by
 have g1:=h1
 have g2:=h2
 simp only[Nat.reducePow] at g1 g2
 have n0:=qqM (n:=u) (by omega)
 obtain⟨C,E,eC,eE,m1⟩:=dm u 10000 (K:=10000) rfl (by omega) (by omega)
 obtain⟨r,s,er,es,m2⟩:=dm E 100 (K:=100) rfl (by omega) (by omega)
 obtain⟨p3,q3,m3⟩:=pr (x:=s) (by omega)
 obtain⟨p4,q4,m4⟩:=pr (x:=r) (by omega)
 have hd:decB u=[dg (r / 10),dg (r % 10),dg (s / 10),dg (s % 10)]:=by
  rw[qcC (d:=3) h2 h1 (by omega)]
  simp only[ql7,Wf,Wh,WG,and_true,WY,Nat.reduceMul]
  exact⟨dgc (by omega),dgc (by omega),dgc (by omega),dgc (by omega)⟩
 rw[FB,hd]
 clear hd
 obtain⟨v0,v1,v2,v3,v4,v5,v6,v7,v8,v9,v10,v11⟩:=qgu
 refine qaa (pf:=F295K tab2) rfl rfl ?_
 generalize tab2=tab at *
 simp[F295K,buf,vb,List.replicate,qab,qac,qb6,F295l0Kx,V.len,qak,Wa,v0,v1,v2,v3,v4,v5,v6,v7,v8,v9,v10,v11,n0,m1,m2,m3,m4]
theorem qzj{u:Nat}(h1:10 ^ 4<=u)(h2:u<10 ^ 5)(h3:u<2147483648):FB 5 u:=by
 have g1:=h1
 have g2:=h2
 simp only[Nat.reducePow] at g1 g2
 have n0:=qqM (n:=u) (by omega)
 obtain⟨C,E,eC,eE,m1⟩:=dm u 10000 (K:=10000) rfl (by omega) (by omega)
 obtain⟨r,s,er,es,m2⟩:=dm E 100 (K:=100) rfl (by omega) (by omega)
 obtain⟨p3,q3,m3⟩:=pr (x:=s) (by omega)
 obtain⟨p4,q4,m4⟩:=pr (x:=r) (by omega)
 have n7:=wdg (n:=C) (by omega)
 have hd:decB u=[dg (C),dg (r / 10),dg (r % 10),dg (s / 10),dg (s % 10)]:=by
  rw[qcC (d:=4) h2 h1 (by omega)]
  simp only[ql7,Wf,Wh,WG,and_true,WY,Nat.reduceMul]
  exact⟨dgc (by omega),dgc (by omega),dgc (by omega),dgc (by omega),dgc (by omega)⟩
 rw[FB,hd]
 clear hd
 obtain⟨v0,v1,v2,v3,v4,v5,v6,v7,v8,v9,v10,v11⟩:=qgu
 refine qaa (pf:=F295K tab2) rfl rfl ?_
 generalize tab2=tab at *
 simp[F295K,buf,vb,List.replicate,qab,qac,qb6,F295l0Kx,V.len,qak,Wa,v0,v1,v2,v3,v4,v5,v6,v7,v8,v9,v10,v11,n0,m1,m2,m3,m4,n7]
theorem qzk{u:Nat}(h1:10 ^ 5<=u)(h2:u<10 ^ 6)(h3:u<2147483648):FB 6 u:=by
 have g1:=h1
 have g2:=h2
 simp only[Nat.reducePow] at g1 g2
 have n0:=qqM (n:=u) (by omega)
 obtain⟨C,E,eC,eE,m1⟩:=dm u 10000 (K:=10000) rfl (by omega) (by omega)
 obtain⟨r,s,er,es,m2⟩:=dm E 100 (K:=100) rfl (by omega) (by omega)
 obtain⟨p3,q3,m3⟩:=pr (x:=s) (by omega)
 obtain⟨p4,q4,m4⟩:=pr (x:=r) (by omega)
 obtain⟨G,t,eG,et,m5⟩:=dm C 100 (K:=100) rfl (by omega) (by omega)
 obtain⟨p6,q6,m6⟩:=pr (x:=t) (by omega)
 have hd:decB u=[dg (t / 10),dg (t % 10),dg (r / 10),dg (r % 10),dg (s / 10),dg (s % 10)]:=by
  rw[qcC (d:=5) h2 h1 (by omega)]
  simp only[ql7,Wf,Wh,WG,and_true,WY,Nat.reduceMul]
  exact⟨dgc (by omega),dgc (by omega),dgc (by omega),dgc (by omega),dgc (by omega),dgc (by omega)⟩
 rw[FB,hd]
 clear hd
 obtain⟨v0,v1,v2,v3,v4,v5,v6,v7,v8,v9,v10,v11⟩:=qgu
 refine qaa (pf:=F295K tab2) rfl rfl ?_
 generalize tab2=tab at *
 simp[F295K,buf,vb,List.replicate,qab,qac,qb6,F295l0Kx,V.len,qak,Wa,v0,v1,v2,v3,v4,v5,v6,v7,v8,v9,v10,v11,n0,m1,m2,m3,m4,m5,m6]
theorem qzl{u:Nat}(h1:10 ^ 6<=u)(h2:u<10 ^ 7)(h3:u<2147483648):FB 7 u:=by
 have g1:=h1
 have g2:=h2
 simp only[Nat.reducePow] at g1 g2
 have n0:=qqM (n:=u) (by omega)
 obtain⟨C,E,eC,eE,m1⟩:=dm u 10000 (K:=10000) rfl (by omega) (by omega)
 obtain⟨r,s,er,es,m2⟩:=dm E 100 (K:=100) rfl (by omega) (by omega)
 obtain⟨p3,q3,m3⟩:=pr (x:=s) (by omega)
 obtain⟨p4,q4,m4⟩:=pr (x:=r) (by omega)
 obtain⟨G,t,eG,et,m5⟩:=dm C 100 (K:=100) rfl (by omega) (by omega)
 obtain⟨p6,q6,m6⟩:=pr (x:=t) (by omega)
 have n7:=wdg (n:=G) (by omega)
 have hd:decB u=[dg (G),dg (t / 10),dg (t % 10),dg (r / 10),dg (r % 10),dg (s / 10),dg (s % 10)]:=by
  rw[qcC (d:=6) h2 h1 (by omega)]
  simp only[ql7,Wf,Wh,WG,and_true,WY,Nat.reduceMul]
  exact⟨dgc (by omega),dgc (by omega),dgc (by omega),dgc (by omega),dgc (by omega),dgc (by omega),dgc (by omega)⟩
 rw[FB,hd]
 clear hd
 obtain⟨v0,v1,v2,v3,v4,v5,v6,v7,v8,v9,v10,v11⟩:=qgu
 refine qaa (pf:=F295K tab2) rfl rfl ?_
 generalize tab2=tab at *
 simp[F295K,buf,vb,List.replicate,qab,qac,qb6,F295l0Kx,V.len,qak,Wa,v0,v1,v2,v3,v4,v5,v6,v7,v8,v9,v10,v11,n0,m1,m2,m3,m4,m5,m6,n7]
theorem qzm{u:Nat}(h1:10 ^ 7<=u)(h2:u<10 ^ 8)(h3:u<2147483648):FB 8 u:=by
 have g1:=h1
 have g2:=h2
 simp only[Nat.reducePow] at g1 g2
 have n0:=qqM (n:=u) (by omega)
 obtain⟨B,A,eB,eA,m1⟩:=dm u 100000000 (K:=100000000) rfl (by omega) (by omega)
 obtain⟨H,L,eH,eL,m2⟩:=dm A 10000 (K:=10000) rfl (by omega) (by omega)
 obtain⟨x,y,ex,ey,m3⟩:=dm L 100 (K:=100) rfl (by omega) (by omega)
 obtain⟨z,w,ez,ew,m4⟩:=dm H 100 (K:=100) rfl (by omega) (by omega)
 obtain⟨p5,q5,m5⟩:=pr (x:=y) (by omega)
 obtain⟨p6,q6,m6⟩:=pr (x:=x) (by omega)
 obtain⟨p7,q7,m7⟩:=pr (x:=w) (by omega)
 obtain⟨p8,q8,m8⟩:=pr (x:=z) (by omega)
 have hd:decB u=[dg (z / 10),dg (z % 10),dg (w / 10),dg (w % 10),dg (x / 10),dg (x % 10),dg (y / 10),dg (y % 10)]:=by
  rw[qcC (d:=7) h2 h1 (by omega)]
  simp only[ql7,Wf,Wh,WG,and_true,WY,Nat.reduceMul]
  exact⟨dgc (by omega),dgc (by omega),dgc (by omega),dgc (by omega),dgc (by omega),dgc (by omega),dgc (by omega),dgc (by omega)⟩
 rw[FB,hd]
 clear hd
 obtain⟨v0,v1,v2,v3,v4,v5,v6,v7,v8,v9,v10,v11⟩:=qgu
 refine qaa (pf:=F295K tab2) rfl rfl ?_
 generalize tab2=tab at *
 simp[F295K,buf,vb,List.replicate,qab,qac,qb6,F295l0Kx,V.len,qak,Wa,v0,v1,v2,v3,v4,v5,v6,v7,v8,v9,v10,v11,n0,m1,m2,m3,m4,m5,m6,m7,m8]
theorem qzn{u:Nat}(h1:10 ^ 8<=u)(h2:u<10 ^ 9)(h3:u<2147483648):FB 9 u:=by
 have g1:=h1
 have g2:=h2
 simp only[Nat.reducePow] at g1 g2
 have n0:=qqM (n:=u) (by omega)
 obtain⟨B,A,eB,eA,m1⟩:=dm u 100000000 (K:=100000000) rfl (by omega) (by omega)
 obtain⟨H,L,eH,eL,m2⟩:=dm A 10000 (K:=10000) rfl (by omega) (by omega)
 obtain⟨x,y,ex,ey,m3⟩:=dm L 100 (K:=100) rfl (by omega) (by omega)
 obtain⟨z,w,ez,ew,m4⟩:=dm H 100 (K:=100) rfl (by omega) (by omega)
 obtain⟨p5,q5,m5⟩:=pr (x:=y) (by omega)
 obtain⟨p6,q6,m6⟩:=pr (x:=x) (by omega)
 obtain⟨p7,q7,m7⟩:=pr (x:=w) (by omega)
 obtain⟨p8,q8,m8⟩:=pr (x:=z) (by omega)
 have n7:=wdg (n:=B) (by omega)
 have hd:decB u=[dg (B),dg (z / 10),dg (z % 10),dg (w / 10),dg (w % 10),dg (x / 10),dg (x % 10),dg (y / 10),dg (y % 10)]:=by
  rw[qcC (d:=8) h2 h1 (by omega)]
  simp only[ql7,Wf,Wh,WG,and_true,WY,Nat.reduceMul]
  exact⟨dgc (by omega),dgc (by omega),dgc (by omega),dgc (by omega),dgc (by omega),dgc (by omega),dgc (by omega),dgc (by omega),dgc (by omega)⟩
 rw[FB,hd]
 clear hd
 obtain⟨v0,v1,v2,v3,v4,v5,v6,v7,v8,v9,v10,v11⟩:=qgu
 refine qaa (pf:=F295K tab2) rfl rfl ?_
 generalize tab2=tab at *
 simp[F295K,buf,vb,List.replicate,qab,qac,qb6,F295l0Kx,V.len,qak,Wa,v0,v1,v2,v3,v4,v5,v6,v7,v8,v9,v10,v11,n0,m1,m2,m3,m4,m5,m6,m7,m8,n7]
theorem qwV{u:Nat}(h1:10 ^ 9<=u)(h2:u<10 ^ 10)(h3:u<2147483648):FB 10 u:=by
 have g1:=h1
 have g2:=h2
 simp only[Nat.reducePow] at g1 g2
 have n0:=qqM (n:=u) (by omega)
 obtain⟨B,A,eB,eA,m1⟩:=dm u 100000000 (K:=100000000) rfl (by omega) (by omega)
 obtain⟨H,L,eH,eL,m2⟩:=dm A 10000 (K:=10000) rfl (by omega) (by omega)
 obtain⟨x,y,ex,ey,m3⟩:=dm L 100 (K:=100) rfl (by omega) (by omega)
 obtain⟨z,w,ez,ew,m4⟩:=dm H 100 (K:=100) rfl (by omega) (by omega)
 obtain⟨p5,q5,m5⟩:=pr (x:=y) (by omega)
 obtain⟨p6,q6,m6⟩:=pr (x:=x) (by omega)
 obtain⟨p7,q7,m7⟩:=pr (x:=w) (by omega)
 obtain⟨p8,q8,m8⟩:=pr (x:=z) (by omega)
 obtain⟨G,t,eG,et,m9⟩:=dm B 100 (K:=100) rfl (by omega) (by omega)
 obtain⟨p10,q10,m10⟩:=pr (x:=t) (by omega)
 have hd:decB u=[dg (t / 10),dg (t % 10),dg (z / 10),dg (z % 10),dg (w / 10),dg (w % 10),dg (x / 10),dg (x % 10),dg (y / 10),dg (y % 10)]:=by
  rw[qcC (d:=9) h2 h1 (by omega)]
  simp only[ql7,Wf,Wh,WG,and_true,WY,Nat.reduceMul]
  exact⟨dgc (by omega),dgc (by omega),dgc (by omega),dgc (by omega),dgc (by omega),dgc (by omega),dgc (by omega),dgc (by omega),dgc (by omega),dgc (by omega)⟩
 rw[FB,hd]
 clear hd
 obtain⟨v0,v1,v2,v3,v4,v5,v6,v7,v8,v9,v10,v11⟩:=qgu
 refine qaa (pf:=F295K tab2) rfl rfl ?_
 generalize tab2=tab at *
 simp[F295K,buf,vb,List.replicate,qab,qac,qb6,F295l0Kx,V.len,qak,Wa,v0,v1,v2,v3,v4,v5,v6,v7,v8,v9,v10,v11,n0,m1,m2,m3,m4,m5,m6,m7,m8,m9,m10]
theorem qAy{u n:Nat}(hn:3<=n)(hn10:n<=10)(h1:10 ^ (n-1)<=u)(h2:u<10 ^ n)(h3:u<2147483648)(zf:FB n u)(z:Z tQ (.call 294 [U64 u] [])=some (.ret (.int n) [])):Z tQ (.call 291 [.int u,.int 10] [])=some (.ret (.str (bs (decB u))) []):=by
 have ht:=qjq (decB u)
 have h100:100<=u:=W7 (show 10 ^ 2<=10 ^ (n-1) from Nat.pow_le_pow_right (show 0<10 by omega) (show 2<=n-1 by omega)) h1
 have hl:(decB u).length=n:=by
  have:=qcC (d:=n-1) (u:=u) (by rw[show n-1+1=n by omega]; exact h2) h1 (by omega)
  rw[this,qmZ]
  omega
 have c1 : ¬ (u:Int)<100:=by omega
 have c2 : ¬ (u:Int)<0:=by omega
 have c3:(0:Int)<=u:=by omega
 have c4:=qAf (show u<18446744073709551616 by omega)
 obtain⟨v0,v1,v2,v3,v4,v5,v6,v7,v8,v9,v10,v11⟩:=qgu
 obtain⟨W,hW⟩ : ∃ W,W=0::(decB u++List.replicate (23-(decB u).length) (0:UInt8)):=⟨_,rfl⟩
 rw[FB,buf,<- hW] at zf
 have hw:qdd (((vb W).drop 1).take n)=some (decB u):=by
  rw[hW,vb,Wm,List.drop_one,Ym,List.map_append,Yj (by rw[WZ]; exact hl)]
  exact ht
 rw[List.drop_one] at hw
 have hmin:min n 23=n:=by omega
 have hWl:(vb W).length=24:=by rw[vb,WZ,hW,We,Wc,List.length_replicate,hl]; omega
 obtain⟨m,hm⟩ : ∃ m,m=n+1:=⟨_,rfl⟩
 have w1:IntKind.i64.wrap (1+(n:Int))=(m:Int):=by rw[qah _ (by omega)]; omega
 have b1:(m:Int)<=24:=by omega
 have b2:1<=m:=by omega
 have b3:(1:Int)<=m:=by omega
 have b4:m-1=n:=by omega
 have b5:1+n<=24:=by omega
 have b6:m<=24:=by omega
 clear ht hl h1 h2 hW hm
 generalize decB u=q at *
 simp only[List.replicate] at zf
 refine qaa (pf:=F291) rfl rfl ?_
 simp[F291,qfV,qiu,z,zf,hw,hWl,hmin,bs,c1,c2,c3,c4,w1,b1,b2,b3,b4,b5,b6,bound,List.replicate,Wa,v0,v1,v2,v3,v4,v5,v6,v7,v8,v9,v10,v11]
def tabA:ByteArray:=⟨#[48,49,50,51,52,53,54,55,56,57,97,98,99,100,101,102,103,104,105,106,107,108,109,110,111,112,113,114,115,116,117,118,119,120,121,122]⟩
theorem qt0{u:Nat}(h:u<100):Z tQ (.call 293 [.int u] [])=some (.ret (.str (bs (decB u))) []):=by
 have hA : ∀ u,u<10->tabA.extract u (u+1)=bs (decB u):=by decide +kernel
 have hB : ∀ u,u<100 -> ¬ u<10->tab2.extract (u*2) (u*2+2)=bs (decB u):=by decide +kernel
 refine qaa (pf:=F293) rfl rfl ?_
 have sA:tabA.size=36:=rfl
 have sB:tab2.size=200:=rfl
 by_cases h10:u<10
 ·have c1:(u:Int)<10:=by omega
  have e:=hA u h10
  have w1:IntKind.i64.wrap ((u:Int)+1)=((u+1:Nat):Int):=by rw[qah _ (by omega)]; omega
  obtain⟨u1,hu1⟩ : ∃ p:Nat,p=u+1:=⟨_,rfl⟩
  rw[<- hu1] at w1 e
  have b1:(u1:Int)<=tabA.size:=by rw[sA]; omega
  have b2:(u:Int)<=u1:=by omega
  simp only[tabA] at e b1
  generalize bs (decB u)=r at *
  simp[F293,c1,w1,qch,bound,b1,b2,e]
 ·have c1 : ¬ (u:Int)<10:=by omega
  have e:=hB u h h10
  have w1:IntKind.i64.wrap ((u:Int)*2)=((u*2:Nat):Int):=by rw[qah _ (by omega)]; omega
  obtain⟨u2,hu2⟩ : ∃ p:Nat,p=u*2:=⟨_,rfl⟩
  rw[<- hu2] at w1 e
  have w2:IntKind.i64.wrap ((u2:Int)+2)=((u2+2:Nat):Int):=by rw[qah _ (by omega)]; omega
  obtain⟨u3,hu3⟩ : ∃ p:Nat,p=u2+2:=⟨_,rfl⟩
  rw[<- hu3] at w2 e
  have b1:(u3:Int)<=tab2.size:=by rw[sB]; omega
  have b2:(u2:Int)<=u3:=by omega
  simp only[tab2] at e b1
  generalize bs (decB u)=r at *
  simp[F293,c1,w1,w2,qch,bound,b1,b2,e]
theorem qrs{u:Nat}(h:u<2147483648):Z tQ (.call 291 [.int u,.int 10] [])=some (.ret (.str (bs (decB u))) []):=by
 by_cases h1:u<100
 ·have z:=qt0 h1
  have c1:(u:Int)<100:=by omega
  generalize bs (decB u)=r at *
  refine qaa (pf:=F291) rfl rfl ?_
  simp[F291,z,c1]
 ·obtain⟨d,d1,d2,d3,d4,z⟩:=qrd (by omega) h
  have hd:d=3\/d=4\/d=5\/d=6\/d=7\/d=8\/d=9\/d=10:=by omega
  refine qAy d1 d2 d3 d4 h ?_ z
  rcases hd with rfl|rfl|rfl|rfl|rfl|rfl|rfl|rfl
  ·exact qzh d3 d4 h
  ·exact qzi d3 d4 h
  ·exact qzj d3 d4 h
  ·exact qzk d3 d4 h
  ·exact qzl d3 d4 h
  ·exact qzm d3 d4 h
  ·exact qzn d3 d4 h
  ·exact qwV d3 d4 h
theorem qwW{n:Int}(h0:0<=n)(h:n<=2147483647):Z tQ (.call 283 [.int n] [])=some (.ret (.str (bs (decB n.toNat))) []):=by
 have z:=qrs (u:=n.toNat) (by omega)
 rw[show ((n.toNat:Nat):Int)=n by omega] at z
 have z2:Z tQ (.call 288 [.int n] [])=some (.ret (.str (bs (decB n.toNat))) []):=by
  refine qaa (pf:=F288) rfl rfl ?_
  simp[F288,z]
 refine qaa (pf:=F283) rfl rfl ?_
 simp[F283,z2]
end
section
open F
theorem qdh(e:E):Z tQ (.call 282 [e.node] [])=some (.ret (.int e.lev) []):=by
 refine qaa (pf:=F282) rfl rfl ?_
 cases e with
 |un f neg e=>cases neg<;>simp[F282,E.lev,qeO,ustr,qbh]
 |bin f o a b=>cases o<;>simp[F282,E.lev,Bop.prec,Bop.str,qbh]
 |_=>simp[F282,E.lev]
theorem quu {k n:Int} {s:ByteArray} {cs:List D} {m i:Nat} {f:Bool} {ds:List D} (hi:i<m) (hm:m<2 ^ 30) (hc:cutCells cs (i*4) 4=some ds) (ho:ds.length=4) (h1 : ∀ d∈ds,V.one (.dat d)=true) :
  Z tQ (.call 274 [.dat (.agg [.lit (.int .i64 k),.lit (.int .i64 n),.lit (.string s),.sl cs m f]),.int i] [])=some (.ret (.dat (.agg ds)) []):=by
 obtain⟨a,b,c,d,rfl⟩ : ∃ a b c d,ds=[a,b,c,d]:=by
  match ds,ho with
  |[a,b,c,d],_=>exact⟨a,b,c,d,rfl⟩
 have ha:=h1 a (by simp)
 have hb:=h1 b (by simp)
 have hcc:=h1 c (by simp)
 have hd:=h1 d (by simp)
 have hlt:(i:Int)<m:=by omega
 refine qaa (pf:=F274) rfl rfl ?_
 simp[F274,hc,ha,hb,hcc,hd,hlt,hi,qak,V.len,Wa]
theorem qei {k n:Int} {s:ByteArray} {a b:Int} {t:ByteArray} {u:D} {r:List D} {m:Nat} {f:Bool} (hm:0<m) (hm2:m<2 ^ 30) (hu:V.one (.dat u)=true) :
  Z tQ (.call 274 [.dat (.agg [.lit (.int .i64 k),.lit (.int .i64 n),.lit (.string s),.sl (.lit (.int .i64 a) :: .lit (.int .i64 b) :: .lit (.string t)::u::r) m f]),.int 0] [])=some (.ret (.dat (.agg [.lit (.int .i64 a),.lit (.int .i64 b),.lit (.string t),u])) []):=
 quu (i:=0) hm hm2 (by simp) rfl (by simp[hu,Value.oneCell'])
theorem qgB {k n:Int} {s:ByteArray} {a b:Int} {t:ByteArray} {u x0 x1 x2 x3:D} {r:List D} {m:Nat} {f:Bool} (hm:1<m) (hm2:m<2 ^ 30) (hu:V.one (.dat u)=true) :
  Z tQ (.call 274 [.dat (.agg [.lit (.int .i64 k),.lit (.int .i64 n),.lit (.string s),.sl (x0::x1::x2::x3 :: .lit (.int .i64 a) :: .lit (.int .i64 b) :: .lit (.string t)::u::r) m f]),.int 1] [])=some (.ret (.dat (.agg [.lit (.int .i64 a),.lit (.int .i64 b),.lit (.string t),u])) []):=
 quu (i:=1) hm hm2 (by simp) rfl (by simp[hu,Value.oneCell'])
theorem qsR {k n:Int} {s:ByteArray} {a b:Int} {t:ByteArray} {u x0 x1 x2 x3 y0 y1 y2 y3:D} {r:List D} {m:Nat} {f:Bool} (hm:2<m) (hm2:m<2 ^ 30) (hu:V.one (.dat u)=true) :
  Z tQ (.call 274 [.dat (.agg [.lit (.int .i64 k),.lit (.int .i64 n),.lit (.string s),.sl (x0::x1::x2::x3::y0::y1::y2::y3 :: .lit (.int .i64 a) :: .lit (.int .i64 b) :: .lit (.string t)::u::r) m f]),.int 2] [])=some (.ret (.dat (.agg [.lit (.int .i64 a),.lit (.int .i64 b),.lit (.string t),u])) []):=
 quu (i:=2) hm hm2 (by simp) rfl (by simp[hu,Value.oneCell'])
theorem qbP{t:ByteArray}{w w':List UInt8}(hw:w'=pw w [t])(ht:t.size≠0)(h:w'.length<2 ^ 40):Z tQ (.call 243 [.ptr 0 0,.dat (.sl [.lit (.string t)] 1 true)] (PW w))=some (.ret (.tup []) (PW w')):=by
 subst hw
 exact qw9 true (ts:=[t]) (fun x hx=>by rw[Wg.1 hx]; exact ht) (by simp) h
theorem qfJ{t u:ByteArray}{w w':List UInt8}(hw:w'=pw w [t,u])(ht:t.size≠0)(hu:u.size≠0)(h:w'.length<2 ^ 40):Z tQ (.call 243 [.ptr 0 0,.dat (.sl [.lit (.string t),.lit (.string u)] 2 true)] (PW w))=some (.ret (.tup []) (PW w')):=by
 subst hw
 exact qw9 true (ts:=[t,u]) (fun x hx=>by
  rcases Wq.1 hx with e|hx
  ·rw[e]; exact ht
  ·rw[Wg.1 hx]; exact hu) (by simp) h
theorem qmj{t:ByteArray}{w w':List UInt8}(hw:w'=pw w [t])(ht:t.size≠0)(h:w'.length<2 ^ 40):Z tQ (.dcall 243 [.dat (.lit .nilIface),.ptr 0 0,.dat (.sl [.lit (.string t)] 1 true)] (PW w))=some (.ret (.dat (.lit undef)) (PW w')):=by
 subst hw
 exact qxa true (ts:=[t]) (fun x hx=>by rw[Wg.1 hx]; exact ht) (by simp) h
end
section
open F
attribute [local simp] qfV qiu dkey
theorem qan{w w':List UInt8}{ts:List ByteArray}{k:Nat}(hw:w'=pw w ts)(h:w'.length<k):w.length<k:=YH (by rw[hw]; exact qnb w ts) h
def qfA(e:E)(p:Nat)(i:Int):Prop := ∀ w w',w'=pw w (e.tx false p)->w'.length<2 ^ 40->Z tQ (.call 273 [.ptr 0 0,e.node,.int i] (PW w))=some (.ret (.tup []) (PW w'))
theorem qhJ(o:Bop):o.str.size≠0:=by cases o<;>decide
theorem qlb(b:Bool):(ustr b).size≠0:=by cases b<;>decide
theorem qpi{n:Int}(h0:0<=n)(h1:n<=2147483647):(bs (decB n.toNat)).size≠0:=by
 obtain⟨_,_,c,r,h⟩:=qgA (n:=n.toNat) (by omega)
 rw[qbq,h]
 simp
theorem qwK{n:Int}(h0:0<=n)(h1:n<=2147483647){p:Nat}{i:Int}(hi:i=p)(hp:p<=8):qfA (E.int n) p i:=by
 intro w w' hw hsz
 have zl:Z tQ (.call 282 [.dat (.agg [.lit (.int .i64 8),.lit (.int .i64 n),.lit (.string ⟨#[]⟩),.lit (.slice none 0 0)])] [])=some (.ret (.int 8) []):=qdh (.int n)
 have hc : ¬ (8:Int)<i:=by omega
 have htx:(E.int n).tx false p=[bs (decB n.toNat)]:=by
  have hq : ¬ 8<p:=by omega
  simp[E.tx,qdo,qeO,ustr,bs,qhr,qls,Bop.left,hq]
 have e1:w'=pw w [bs (decB n.toNat)]:=by rw[hw,htx]
 have s1:=hsz
 have z1:=qbP e1 (qpi h0 h1) s1
 have f0:=qwW h0 h1
 simp only[PW,PW'] at z1 ⊢
 clear e1 s1 hw htx hsz
 refine qaa (pf:=F273) rfl rfl ?_
 simp[F273,zl,hc,f0,z1,Wa]
theorem qre{p:Nat}{i:Int}(hi:i=p)(hp:p<=8):qfA (E.bool 0) p i:=by
 intro w w' hw hsz
 have zl:Z tQ (.call 282 [.dat (.agg [.lit (.int .i64 9),.lit (.int .i64 0),.lit (.string ⟨#[]⟩),.lit (.slice none 0 0)])] [])=some (.ret (.int 8) []):=qdh (.bool 0)
 have hc : ¬ (8:Int)<i:=by omega
 have htx:(E.bool 0).tx false p=[⟨#[102,97,108,115,101]⟩]:=by
  have hq : ¬ 8<p:=by omega
  simp[E.tx,qdo,qeO,ustr,bs,qhr,qls,Bop.left,hq]
 have e1:w'=pw w [⟨#[102,97,108,115,101]⟩]:=by rw[hw,htx]
 have s1:=hsz
 have z1:=qbP e1 (by decide) s1
 simp only[PW,PW'] at z1 ⊢
 clear e1 s1 hw htx hsz
 refine qaa (pf:=F273) rfl rfl ?_
 simp[F273,zl,hc,z1,Wa]
theorem qrf{p:Nat}{i:Int}(hi:i=p)(hp:p<=8):qfA (E.bool 1) p i:=by
 intro w w' hw hsz
 have zl:Z tQ (.call 282 [.dat (.agg [.lit (.int .i64 9),.lit (.int .i64 1),.lit (.string ⟨#[]⟩),.lit (.slice none 0 0)])] [])=some (.ret (.int 8) []):=qdh (.bool 1)
 have hc : ¬ (8:Int)<i:=by omega
 have htx:(E.bool 1).tx false p=[⟨#[116,114,117,101]⟩]:=by
  have hq : ¬ 8<p:=by omega
  simp[E.tx,qdo,qeO,ustr,bs,qhr,qls,Bop.left,hq]
 have e1:w'=pw w [⟨#[116,114,117,101]⟩]:=by rw[hw,htx]
 have s1:=hsz
 have z1:=qbP e1 (by decide) s1
 simp only[PW,PW'] at z1 ⊢
 clear e1 s1 hw htx hsz
 refine qaa (pf:=F273) rfl rfl ?_
 simp[F273,zl,hc,z1,Wa]
theorem qwL{s:ByteArray}(hs:s.size≠0){p:Nat}{i:Int}(hi:i=p)(hp:p<=8):qfA (E.var s) p i:=by
 intro w w' hw hsz
 have zl:Z tQ (.call 282 [.dat (.agg [.lit (.int .i64 10),.lit (.int .i64 0),.lit (.string s),.lit (.slice none 0 0)])] [])=some (.ret (.int 8) []):=qdh (.var s)
 have hc : ¬ (8:Int)<i:=by omega
 have htx:(E.var s).tx false p=[s]:=by
  have hq : ¬ 8<p:=by omega
  simp[E.tx,qdo,qeO,ustr,bs,qhr,qls,Bop.left,hq]
 have e1:w'=pw w [s]:=by rw[hw,htx]
 have s1:=hsz
 have z1:=qbP e1 (hs) s1
 simp only[PW,PW'] at z1 ⊢
 clear e1 s1 hw htx hsz
 refine qaa (pf:=F273) rfl rfl ?_
 simp[F273,zl,hc,z1,Wa]
theorem qtR{s:ByteArray}(hs:s.size≠0){p:Nat}{i:Int}(hi:i=p)(hp:p<=8):qfA (E.name s) p i:=by
 intro w w' hw hsz
 have zl:Z tQ (.call 282 [.dat (.agg [.lit (.int .i64 12),.lit (.int .i64 0),.lit (.string s),.lit (.slice none 0 0)])] [])=some (.ret (.int 8) []):=qdh (.name s)
 have hc : ¬ (8:Int)<i:=by omega
 have htx:(E.name s).tx false p=[s]:=by
  have hq : ¬ 8<p:=by omega
  simp[E.tx,qdo,qeO,ustr,bs,qhr,qls,Bop.left,hq]
 have e1:w'=pw w [s]:=by rw[hw,htx]
 have s1:=hsz
 have z1:=qbP e1 (hs) s1
 simp only[PW,PW'] at z1 ⊢
 clear e1 s1 hw htx hsz
 refine qaa (pf:=F273) rfl rfl ?_
 simp[F273,zl,hc,z1,Wa]
theorem qrg{f:Bool}{s:ByteArray}{e:E}(hs:s.size≠0)(he:qfA e 1 1){p:Nat}{i:Int}(hi:i=p)(hp:p<=8):qfA (E.field f s e) p i:=by
 intro w w' hw hsz
 have zl:Z tQ (.call 282 [.dat (.agg [.lit (.int .i64 11),.lit (.int .i64 0),.lit (.string s),.sl [.lit (.int .i64 e.kind),.lit (.int .i64 e.num),.lit (.string e.str),e.kids] 1 f])] [])=some (.ret (.int 8) []):=qdh (.field f s e)
 have hc : ¬ (8:Int)<i:=by omega
 have htx:(E.field f s e).tx false p=[s,⟨#[91]⟩]++((e.tx false 1)++([⟨#[93]⟩])):=by
  have hq : ¬ 8<p:=by omega
  simp[E.tx,qdo,qeO,ustr,bs,qhr,qls,Bop.left,hq]
 obtain⟨w1,e1⟩ : ∃ x,x=pw w [s,⟨#[91]⟩]:=⟨_,rfl⟩
 obtain⟨w2,e2⟩ : ∃ x,x=pw w1 (e.tx false 1):=⟨_,rfl⟩
 have e3:w'=pw w2 [⟨#[93]⟩]:=by rw[hw,htx,qaw,<- e1,qaw,<- e2]
 have s3:=hsz
 have s2:=qan e3 s3
 have s1:=qan e2 s2
 have z1:=qfJ e1 (hs) (by decide) s1
 have z2:=he w1 w2 e2 s2
 have z3:=qbP e3 (by decide) s3
 have f0:=qei (k:=11) (n:=0) (s:=s) (a:=e.kind) (b:=e.num) (t:=e.str) (u:=e.kids) (r:=[]) (m:=1) (f:=f) (by omega) (by omega) (qbg e)
 simp only[PW,PW'] at z1 z2 z3 ⊢
 clear e1 e2 e3 s1 s2 s3 hw htx hsz
 refine qaa (pf:=F273) rfl rfl ?_
 simp[F273,zl,hc,f0,z1,z2,z3,Wa]
theorem qzd{f neg:Bool}{e:E}{L:Nat}(hL:L=qeO neg)(he:qfA e L L){p:Nat}{i:Int}(hi:i=p)(hp:p<=L):qfA (E.un f neg e) p i:=by
 intro w w' hw hsz
 have zl:Z tQ (.call 282 [.dat (.agg [.lit (.int .i64 13),.lit (.int .i64 0),.lit (.string (ustr neg)),.sl [.lit (.int .i64 e.kind),.lit (.int .i64 e.num),.lit (.string e.str),e.kids] 1 f])] [])=some (.ret (.int L) []):=by
  have:=qdh (.un f neg e)
  rw[show E.lev (.un f neg e)=L from hL.symm] at this
  exact this
 have hc : ¬ (L:Int)<i:=by omega
 have htx:(E.un f neg e).tx false p=[ustr neg]++((e.tx false L)):=by
  have hq : ¬ L<p:=by omega
  simp[E.tx,qdo,bs,hL.symm,hq]
 obtain⟨w1,e1⟩ : ∃ x,x=pw w [ustr neg]:=⟨_,rfl⟩
 have e2:w'=pw w1 (e.tx false L):=by rw[hw,htx,qaw,<- e1]
 have s2:=hsz
 have s1:=qan e2 s2
 have z1:=qbP e1 (qlb neg) s1
 have z2:=he w1 w' e2 s2
 have f0:=qei (k:=13) (n:=0) (s:=ustr neg) (a:=e.kind) (b:=e.num) (t:=e.str) (u:=e.kids) (r:=[]) (m:=1) (f:=f) (by omega) (by omega) (qbg e)
 simp only[PW,PW'] at z1 z2 ⊢
 clear e1 e2 s1 s2 hw htx hsz
 refine qaa (pf:=F273) rfl rfl ?_
 simp[F273,zl,hc,f0,z1,z2,Wa]
theorem qwM{f neg:Bool}{e:E}{L:Nat}(hL:L=qeO neg)(he:qfA e L L){p:Nat}{i:Int}(hi:i=p)(hp:L<p):qfA (E.un f neg e) p i:=by
 intro w w' hw hsz
 have zl:Z tQ (.call 282 [.dat (.agg [.lit (.int .i64 13),.lit (.int .i64 0),.lit (.string (ustr neg)),.sl [.lit (.int .i64 e.kind),.lit (.int .i64 e.num),.lit (.string e.str),e.kids] 1 f])] [])=some (.ret (.int L) []):=by
  have:=qdh (.un f neg e)
  rw[show E.lev (.un f neg e)=L from hL.symm] at this
  exact this
 have hc:(L:Int)<i:=by omega
 have htx:(E.un f neg e).tx false p=[⟨#[40]⟩]++([ustr neg]++((e.tx false L)++([⟨#[41]⟩]))):=by
  have hq:L<p:=hp
  simp[E.tx,qdo,bs,hL.symm,hq]
 obtain⟨w1,e1⟩ : ∃ x,x=pw w [⟨#[40]⟩]:=⟨_,rfl⟩
 obtain⟨w2,e2⟩ : ∃ x,x=pw w1 [ustr neg]:=⟨_,rfl⟩
 obtain⟨w3,e3⟩ : ∃ x,x=pw w2 (e.tx false L):=⟨_,rfl⟩
 have e4:w'=pw w3 [⟨#[41]⟩]:=by rw[hw,htx,qaw,<- e1,qaw,<- e2,qaw,<- e3]
 have s4:=hsz
 have s3:=qan e4 s4
 have s2:=qan e3 s3
 have s1:=qan e2 s2
 have z1:=qbP e1 (by decide) s1
 have z2:=qbP e2 (qlb neg) s2
 have z3:=he w2 w3 e3 s3
 have z4:=qmj e4 (by decide) s4
 have f0:=qei (k:=13) (n:=0) (s:=ustr neg) (a:=e.kind) (b:=e.num) (t:=e.str) (u:=e.kids) (r:=[]) (m:=1) (f:=f) (by omega) (by omega) (qbg e)
 simp only[PW,PW'] at z1 z2 z3 z4 ⊢
 clear e1 e2 e3 e4 s1 s2 s3 s4 hw htx hsz
 refine qaa (pf:=F273) rfl rfl ?_
 simp[F273,zl,hc,f0,z1,z2,z3,z4,Wa]
theorem qwN{f:Bool}{o:Bop}{a b:E}{L:Nat}(hl:o.prec=L)(h4:L≠4)(ha:qfA a L L)(hb:qfA b (L+1) ((L:Int)+1)){p:Nat}{i:Int}(hi:i=p)(hp:p<=L):qfA (E.bin f o a b) p i:=by
 intro w w' hw hsz
 have zl:Z tQ (.call 282 [.dat (.agg [.lit (.int .i64 14),.lit (.int .i64 0),.lit (.string o.str),.sl [.lit (.int .i64 a.kind),.lit (.int .i64 a.num),.lit (.string a.str),a.kids,.lit (.int .i64 b.kind),.lit (.int .i64 b.num),.lit (.string b.str),b.kids] 2 f])] [])=some (.ret (.int L) []):=by
  have:=qdh (.bin f o a b)
  rw[show E.lev (.bin f o a b)=L from hl] at this
  exact this
 have hc : ¬ (L:Int)<i:=by omega
 have hlf:o.left=L:=by have:=qbV o; omega
 have h4' : ¬ (L:Int)=4:=by omega
 have wL:=qah ((L:Int)+1) (by have:=qbV o; omega)
 have htx:(E.bin f o a b).tx false p=(a.tx false L)++([o.str]++((b.tx false (L+1)))):=by
  have hq : ¬ L<p:=by omega
  simp[E.tx,qdo,bs,hl,hlf,hq]
 obtain⟨w1,e1⟩ : ∃ x,x=pw w (a.tx false L):=⟨_,rfl⟩
 obtain⟨w2,e2⟩ : ∃ x,x=pw w1 [o.str]:=⟨_,rfl⟩
 have e3:w'=pw w2 (b.tx false (L+1)):=by rw[hw,htx,qaw,<- e1,qaw,<- e2]
 have s3:=hsz
 have s2:=qan e3 s3
 have s1:=qan e2 s2
 have z1:=ha w w1 e1 s1
 have z2:=qbP e2 (qhJ o) s2
 have z3:=hb w2 w' e3 s3
 have f0:=qei (k:=14) (n:=0) (s:=o.str) (a:=a.kind) (b:=a.num) (t:=a.str) (u:=a.kids) (r:=[.lit (.int .i64 b.kind),.lit (.int .i64 b.num),.lit (.string b.str),b.kids]) (m:=2) (f:=f) (by omega) (by omega) (qbg a)
 have f1:=qgB (k:=14) (n:=0) (s:=o.str) (x0 := .lit (.int .i64 a.kind)) (x1 := .lit (.int .i64 a.num)) (x2 := .lit (.string a.str)) (x3:=a.kids) (a:=b.kind) (b:=b.num) (t:=b.str) (u:=b.kids) (r:=[]) (m:=2) (f:=f) (by omega) (by omega) (qbg b)
 simp only[PW,PW'] at z1 z2 z3 ⊢
 clear e1 e2 e3 s1 s2 s3 hw htx hsz
 refine qaa (pf:=F273) rfl rfl ?_
 simp[F273,zl,hc,f0,f1,z1,z2,z3,Wa,h4',wL]
theorem qtS{f:Bool}{o:Bop}{a b:E}{L:Nat}(hl:o.prec=L)(h4:L≠4)(ha:qfA a L L)(hb:qfA b (L+1) ((L:Int)+1)){p:Nat}{i:Int}(hi:i=p)(hp:L<p):qfA (E.bin f o a b) p i:=by
 intro w w' hw hsz
 have zl:Z tQ (.call 282 [.dat (.agg [.lit (.int .i64 14),.lit (.int .i64 0),.lit (.string o.str),.sl [.lit (.int .i64 a.kind),.lit (.int .i64 a.num),.lit (.string a.str),a.kids,.lit (.int .i64 b.kind),.lit (.int .i64 b.num),.lit (.string b.str),b.kids] 2 f])] [])=some (.ret (.int L) []):=by
  have:=qdh (.bin f o a b)
  rw[show E.lev (.bin f o a b)=L from hl] at this
  exact this
 have hc:(L:Int)<i:=by omega
 have hlf:o.left=L:=by have:=qbV o; omega
 have h4' : ¬ (L:Int)=4:=by omega
 have wL:=qah ((L:Int)+1) (by have:=qbV o; omega)
 have htx:(E.bin f o a b).tx false p=[⟨#[40]⟩]++((a.tx false L)++([o.str]++((b.tx false (L+1))++([⟨#[41]⟩])))):=by
  have hq:L<p:=hp
  simp[E.tx,qdo,bs,hl,hlf,hq]
 obtain⟨w1,e1⟩ : ∃ x,x=pw w [⟨#[40]⟩]:=⟨_,rfl⟩
 obtain⟨w2,e2⟩ : ∃ x,x=pw w1 (a.tx false L):=⟨_,rfl⟩
 obtain⟨w3,e3⟩ : ∃ x,x=pw w2 [o.str]:=⟨_,rfl⟩
 obtain⟨w4,e4⟩ : ∃ x,x=pw w3 (b.tx false (L+1)):=⟨_,rfl⟩
 have e5:w'=pw w4 [⟨#[41]⟩]:=by rw[hw,htx,qaw,<- e1,qaw,<- e2,qaw,<- e3,qaw,<- e4]
 have s5:=hsz
 have s4:=qan e5 s5
 have s3:=qan e4 s4
 have s2:=qan e3 s3
 have s1:=qan e2 s2
 have z1:=qbP e1 (by decide) s1
 have z2:=ha w1 w2 e2 s2
 have z3:=qbP e3 (qhJ o) s3
 have z4:=hb w3 w4 e4 s4
 have z5:=qmj e5 (by decide) s5
 have f0:=qei (k:=14) (n:=0) (s:=o.str) (a:=a.kind) (b:=a.num) (t:=a.str) (u:=a.kids) (r:=[.lit (.int .i64 b.kind),.lit (.int .i64 b.num),.lit (.string b.str),b.kids]) (m:=2) (f:=f) (by omega) (by omega) (qbg a)
 have f1:=qgB (k:=14) (n:=0) (s:=o.str) (x0 := .lit (.int .i64 a.kind)) (x1 := .lit (.int .i64 a.num)) (x2 := .lit (.string a.str)) (x3:=a.kids) (a:=b.kind) (b:=b.num) (t:=b.str) (u:=b.kids) (r:=[]) (m:=2) (f:=f) (by omega) (by omega) (qbg b)
 simp only[PW,PW'] at z1 z2 z3 z4 z5 ⊢
 clear e1 e2 e3 e4 e5 s1 s2 s3 s4 s5 hw htx hsz
 refine qaa (pf:=F273) rfl rfl ?_
 simp[F273,zl,hc,f0,f1,z1,z2,z3,z4,z5,Wa,h4',wL]
theorem qtT{f:Bool}{o:Bop}{a b:E}(hl:o.prec=4)(ha:qfA a 5 5)(hb:qfA b 5 5){p:Nat}{i:Int}(hi:i=p)(hp:p<=4):qfA (E.bin f o a b) p i:=by
 intro w w' hw hsz
 have zl:Z tQ (.call 282 [.dat (.agg [.lit (.int .i64 14),.lit (.int .i64 0),.lit (.string o.str),.sl [.lit (.int .i64 a.kind),.lit (.int .i64 a.num),.lit (.string a.str),a.kids,.lit (.int .i64 b.kind),.lit (.int .i64 b.num),.lit (.string b.str),b.kids] 2 f])] [])=some (.ret (.int 4) []):=by
  have:=qdh (.bin f o a b)
  rw[show E.lev (.bin f o a b)=4 from hl] at this
  exact this
 have hc : ¬ (4:Int)<i:=by omega
 have hlf:o.left=5:=by have:=qbV o; omega
 have htx:(E.bin f o a b).tx false p=(a.tx false 5)++([o.str]++((b.tx false 5))):=by
  have hq : ¬ 4<p:=by omega
  simp[E.tx,qdo,bs,hl,hlf,hq]
 obtain⟨w1,e1⟩ : ∃ x,x=pw w (a.tx false 5):=⟨_,rfl⟩
 obtain⟨w2,e2⟩ : ∃ x,x=pw w1 [o.str]:=⟨_,rfl⟩
 have e3:w'=pw w2 (b.tx false 5):=by rw[hw,htx,qaw,<- e1,qaw,<- e2]
 have s3:=hsz
 have s2:=qan e3 s3
 have s1:=qan e2 s2
 have z1:=ha w w1 e1 s1
 have z2:=qbP e2 (qhJ o) s2
 have z3:=hb w2 w' e3 s3
 have f0:=qei (k:=14) (n:=0) (s:=o.str) (a:=a.kind) (b:=a.num) (t:=a.str) (u:=a.kids) (r:=[.lit (.int .i64 b.kind),.lit (.int .i64 b.num),.lit (.string b.str),b.kids]) (m:=2) (f:=f) (by omega) (by omega) (qbg a)
 have f1:=qgB (k:=14) (n:=0) (s:=o.str) (x0 := .lit (.int .i64 a.kind)) (x1 := .lit (.int .i64 a.num)) (x2 := .lit (.string a.str)) (x3:=a.kids) (a:=b.kind) (b:=b.num) (t:=b.str) (u:=b.kids) (r:=[]) (m:=2) (f:=f) (by omega) (by omega) (qbg b)
 simp only[PW,PW'] at z1 z2 z3 ⊢
 clear e1 e2 e3 s1 s2 s3 hw htx hsz
 refine qaa (pf:=F273) rfl rfl ?_
 simp[F273,zl,hc,f0,f1,z1,z2,z3,Wa,qah 5 (by omega)]
theorem qrh{f:Bool}{o:Bop}{a b:E}(hl:o.prec=4)(ha:qfA a 5 5)(hb:qfA b 5 5){p:Nat}{i:Int}(hi:i=p)(hp:4<p):qfA (E.bin f o a b) p i:=by
 intro w w' hw hsz
 have zl:Z tQ (.call 282 [.dat (.agg [.lit (.int .i64 14),.lit (.int .i64 0),.lit (.string o.str),.sl [.lit (.int .i64 a.kind),.lit (.int .i64 a.num),.lit (.string a.str),a.kids,.lit (.int .i64 b.kind),.lit (.int .i64 b.num),.lit (.string b.str),b.kids] 2 f])] [])=some (.ret (.int 4) []):=by
  have:=qdh (.bin f o a b)
  rw[show E.lev (.bin f o a b)=4 from hl] at this
  exact this
 have hc:(4:Int)<i:=by omega
 have hlf:o.left=5:=by have:=qbV o; omega
 have htx:(E.bin f o a b).tx false p=[⟨#[40]⟩]++((a.tx false 5)++([o.str]++((b.tx false 5)++([⟨#[41]⟩])))):=by
  have hq:4<p:=hp
  simp[E.tx,qdo,bs,hl,hlf,hq]
 obtain⟨w1,e1⟩ : ∃ x,x=pw w [⟨#[40]⟩]:=⟨_,rfl⟩
 obtain⟨w2,e2⟩ : ∃ x,x=pw w1 (a.tx false 5):=⟨_,rfl⟩
 obtain⟨w3,e3⟩ : ∃ x,x=pw w2 [o.str]:=⟨_,rfl⟩
 obtain⟨w4,e4⟩ : ∃ x,x=pw w3 (b.tx false 5):=⟨_,rfl⟩
 have e5:w'=pw w4 [⟨#[41]⟩]:=by rw[hw,htx,qaw,<- e1,qaw,<- e2,qaw,<- e3,qaw,<- e4]
 have s5:=hsz
 have s4:=qan e5 s5
 have s3:=qan e4 s4
 have s2:=qan e3 s3
 have s1:=qan e2 s2
 have z1:=qbP e1 (by decide) s1
 have z2:=ha w1 w2 e2 s2
 have z3:=qbP e3 (qhJ o) s3
 have z4:=hb w3 w4 e4 s4
 have z5:=qmj e5 (by decide) s5
 have f0:=qei (k:=14) (n:=0) (s:=o.str) (a:=a.kind) (b:=a.num) (t:=a.str) (u:=a.kids) (r:=[.lit (.int .i64 b.kind),.lit (.int .i64 b.num),.lit (.string b.str),b.kids]) (m:=2) (f:=f) (by omega) (by omega) (qbg a)
 have f1:=qgB (k:=14) (n:=0) (s:=o.str) (x0 := .lit (.int .i64 a.kind)) (x1 := .lit (.int .i64 a.num)) (x2 := .lit (.string a.str)) (x3:=a.kids) (a:=b.kind) (b:=b.num) (t:=b.str) (u:=b.kids) (r:=[]) (m:=2) (f:=f) (by omega) (by omega) (qbg b)
 simp only[PW,PW'] at z1 z2 z3 z4 z5 ⊢
 clear e1 e2 e3 e4 e5 s1 s2 s3 s4 s5 hw htx hsz
 refine qaa (pf:=F273) rfl rfl ?_
 simp[F273,zl,hc,f0,f1,z1,z2,z3,z4,z5,Wa,qah 5 (by omega)]
theorem qji{s:ByteArray}(h:s∈fieldNames):s.size≠0:=by
 simp only[fieldNames,Wq,Ww,or_false] at h
 rcases h with h|h|h|h|h|h|h|h<;>rw[h]<;>decide
theorem qlc : ∀ e:E,e.good -> ∀ p i,i=((p:Nat):Int)->p<=8->qfA e p i
 |.int n,h,p,i,hi,hp=>qwK h.1 h.2 hi hp
 |.bool n,h,p,i,hi,hp=>by
  rcases h with rfl|rfl
  ·exact qre hi hp
  ·exact qrf hi hp
 |.var s,h,p,i,hi,hp=>qwL (qkt h.1) hi hp
 |.name s,h,p,i,hi,hp=>qtR (by rcases h with rfl|rfl|rfl<;>decide) hi hp
 |.field f s e,h,p,i,hi,hp=>qrg (qji h.1) (qlc e h.2 1 1 rfl (by omega)) hi hp
 |.un f neg e,h,p,i,hi,hp=>by
  have A:=qlc e h (qeO neg) (qeO neg) rfl (by cases neg<;>decide)
  by_cases hq:qeO neg<p
  ·exact qwM rfl A hi hq
  ·exact qzd rfl A hi (by omega)
 |.bin f o a b,h,p,i,hi,hp=>by
  have hr:=qbV o
  have A:=qlc a h.1 o.left o.left rfl (by omega)
  have B:=qlc b h.2 (o.prec+1) ((o.prec:Int)+1) (by omega) (by omega)
  by_cases h4:o.prec=4
  ·rw[show o.left=5 by omega] at A
   rw[h4] at B
   by_cases hq:4<p
   ·exact qrh h4 A B hi hq
   ·exact qtT h4 A B hi (by omega)
  ·rw[show o.left=o.prec by omega] at A
   by_cases hq:o.prec<p
   ·exact qtS rfl h4 A B hi hq
   ·exact qwN rfl h4 A B hi (by omega)
end
section
open F
attribute [local simp] qfV qiu
def qkz(b:Ss):Prop := ∀ (k n:Int) (s:ByteArray) (f:Bool) w w',w'=pw w (⟨#[123]⟩::(b.tx++[⟨#[125]⟩]))->w'.length<2 ^ 40->Z tQ (.call 244 [.ptr 0 0,.dat (.agg [.lit (.int .i64 k),.lit (.int .i64 n),.lit (.string s),kd f b.fo.len b.fo.cells])] (PW w))=some (.ret (.tup []) (PW w'))
theorem qqE {f fb fc:Bool} {s:ByteArray} {e:E} (hs:s.size≠0) (he:qfA e 1 1) {w w':List UInt8} (hw:w'=pw w ([s,⟨#[61]⟩]++((e.tx false 1)++([⟨#[59]⟩])))) (hsz:w'.length<2 ^ 40) :
  Z tQ (.call 260 [.ptr 0 0,.dat (.agg [.lit (.int .i64 1),.lit (.int .i64 0),.lit (.string s),.sl [.lit (.int .i64 e.kind),.lit (.int .i64 e.num),.lit (.string e.str),e.kids] 1 f])] (PW w))=some (.ret (.tup []) (PW w')):=by
 obtain⟨w1,e1⟩ : ∃ v,v=pw w [s,⟨#[61]⟩]:=⟨_,rfl⟩
 obtain⟨w2,e2⟩ : ∃ v,v=pw w1 (e.tx false 1):=⟨_,rfl⟩
 have e3:w'=pw w2 [⟨#[59]⟩]:=by rw[hw,qaw,<- e1,qaw,<- e2]
 have s3:=hsz
 have s2:=qan e3 s3
 have s1:=qan e2 s2
 have z1:=qfJ e1 (hs) (by decide) s1
 have z2:=he w1 w2 e2 s2
 have z3:=qbP e3 (by decide) s3
 have f0:=qei (k:=1) (n:=0) (s:=s)  (a:=e.kind) (b:=e.num) (t:=e.str) (u:=e.kids) (r:=[]) (m:=1) (f:=f) (by omega) (by omega) (qbg e)
 simp only[PW,PW'] at z1 z2 z3 ⊢
 clear e1 e2 e3 s1 s2 s3 hw hsz
 refine qaa (pf:=F260) rfl rfl ?_
 simp[F260,f0,z1,z2,z3,Wa]
theorem qsl {f fb fc:Bool} {s:ByteArray} {x y:E} (hs:s.size≠0) (hx:qfA x 1 1) (hy:qfA y 1 1) {w w':List UInt8} (hw:w'=pw w ([s,⟨#[91]⟩]++((x.tx false 1)++([⟨#[93]⟩,⟨#[61]⟩]++((y.tx false 1)++([⟨#[59]⟩])))))) (hsz:w'.length<2 ^ 40) :
  Z tQ (.call 260 [.ptr 0 0,.dat (.agg [.lit (.int .i64 2),.lit (.int .i64 0),.lit (.string s),.sl [.lit (.int .i64 x.kind),.lit (.int .i64 x.num),.lit (.string x.str),x.kids,.lit (.int .i64 y.kind),.lit (.int .i64 y.num),.lit (.string y.str),y.kids] 2 f])] (PW w))=some (.ret (.tup []) (PW w')):=by
 obtain⟨w1,e1⟩ : ∃ v,v=pw w [s,⟨#[91]⟩]:=⟨_,rfl⟩
 obtain⟨w2,e2⟩ : ∃ v,v=pw w1 (x.tx false 1):=⟨_,rfl⟩
 obtain⟨w3,e3⟩ : ∃ v,v=pw w2 [⟨#[93]⟩,⟨#[61]⟩]:=⟨_,rfl⟩
 obtain⟨w4,e4⟩ : ∃ v,v=pw w3 (y.tx false 1):=⟨_,rfl⟩
 have e5:w'=pw w4 [⟨#[59]⟩]:=by rw[hw,qaw,<- e1,qaw,<- e2,qaw,<- e3,qaw,<- e4]
 have s5:=hsz
 have s4:=qan e5 s5
 have s3:=qan e4 s4
 have s2:=qan e3 s3
 have s1:=qan e2 s2
 have z1:=qfJ e1 (hs) (by decide) s1
 have z2:=hx w1 w2 e2 s2
 have z3:=qfJ e3 (by decide) (by decide) s3
 have z4:=hy w3 w4 e4 s4
 have z5:=qbP e5 (by decide) s5
 have f0:=qei (k:=2) (n:=0) (s:=s)  (a:=x.kind) (b:=x.num) (t:=x.str) (u:=x.kids) (r:=[.lit (.int .i64 y.kind),.lit (.int .i64 y.num),.lit (.string y.str),y.kids]) (m:=2) (f:=f) (by omega) (by omega) (qbg x)
 have f1:=qgB (k:=2) (n:=0) (s:=s) (x0 := .lit (.int .i64 x.kind)) (x1 := .lit (.int .i64 x.num)) (x2 := .lit (.string x.str)) (x3:=x.kids) (a:=y.kind) (b:=y.num) (t:=y.str) (u:=y.kids) (r:=[]) (m:=2) (f:=f) (by omega) (by omega) (qbg y)
 simp only[PW,PW'] at z1 z2 z3 z4 z5 ⊢
 clear e1 e2 e3 e4 e5 s1 s2 s3 s4 s5 hw hsz
 refine qaa (pf:=F260) rfl rfl ?_
 simp[F260,f0,f1,z1,z2,z3,z4,z5,Wa]
theorem qqF {f fb fc:Bool} {x y:E} (hx:qfA x 1 1) (hy:qfA y 1 1) {w w':List UInt8} (hw:w'=pw w ([⟨#[101,102,102,101,99,116]⟩]++((x.tx false 1)++([⟨#[44]⟩]++((y.tx false 1)++([⟨#[59]⟩])))))) (hsz:w'.length<2 ^ 40) :
  Z tQ (.call 260 [.ptr 0 0,.dat (.agg [.lit (.int .i64 5),.lit (.int .i64 0),.lit (.string ⟨#[]⟩),.sl [.lit (.int .i64 x.kind),.lit (.int .i64 x.num),.lit (.string x.str),x.kids,.lit (.int .i64 y.kind),.lit (.int .i64 y.num),.lit (.string y.str),y.kids] 2 f])] (PW w))=some (.ret (.tup []) (PW w')):=by
 obtain⟨w1,e1⟩ : ∃ v,v=pw w [⟨#[101,102,102,101,99,116]⟩]:=⟨_,rfl⟩
 obtain⟨w2,e2⟩ : ∃ v,v=pw w1 (x.tx false 1):=⟨_,rfl⟩
 obtain⟨w3,e3⟩ : ∃ v,v=pw w2 [⟨#[44]⟩]:=⟨_,rfl⟩
 obtain⟨w4,e4⟩ : ∃ v,v=pw w3 (y.tx false 1):=⟨_,rfl⟩
 have e5:w'=pw w4 [⟨#[59]⟩]:=by rw[hw,qaw,<- e1,qaw,<- e2,qaw,<- e3,qaw,<- e4]
 have s5:=hsz
 have s4:=qan e5 s5
 have s3:=qan e4 s4
 have s2:=qan e3 s3
 have s1:=qan e2 s2
 have z1:=qbP e1 (by decide) s1
 have z2:=hx w1 w2 e2 s2
 have z3:=qbP e3 (by decide) s3
 have z4:=hy w3 w4 e4 s4
 have z5:=qbP e5 (by decide) s5
 have f0:=qei (k:=5) (n:=0) (s:=⟨#[]⟩)  (a:=x.kind) (b:=x.num) (t:=x.str) (u:=x.kids) (r:=[.lit (.int .i64 y.kind),.lit (.int .i64 y.num),.lit (.string y.str),y.kids]) (m:=2) (f:=f) (by omega) (by omega) (qbg x)
 have f1:=qgB (k:=5) (n:=0) (s:=⟨#[]⟩) (x0 := .lit (.int .i64 x.kind)) (x1 := .lit (.int .i64 x.num)) (x2 := .lit (.string x.str)) (x3:=x.kids) (a:=y.kind) (b:=y.num) (t:=y.str) (u:=y.kids) (r:=[]) (m:=2) (f:=f) (by omega) (by omega) (qbg y)
 simp only[PW,PW'] at z1 z2 z3 z4 z5 ⊢
 clear e1 e2 e3 e4 e5 s1 s2 s3 s4 s5 hw hsz
 refine qaa (pf:=F260) rfl rfl ?_
 simp[F260,f0,f1,z1,z2,z3,z4,z5,Wa]
theorem qsm {f fb fc:Bool} {c:E} {p:Ss} (hc:qfA c 1 1) (hb:qkz p) {w w':List UInt8} (hw:w'=pw w ([⟨#[119,104,105,108,101]⟩]++((c.tx false 1)++((⟨#[123]⟩::(p.tx++[⟨#[125]⟩])))))) (hsz:w'.length<2 ^ 40) :
  Z tQ (.call 260 [.ptr 0 0,.dat (.agg [.lit (.int .i64 4),.lit (.int .i64 0),.lit (.string ⟨#[]⟩),.sl [.lit (.int .i64 c.kind),.lit (.int .i64 c.num),.lit (.string c.str),c.kids,.lit (.int .i64 7),.lit (.int .i64 0),.lit (.string ⟨#[]⟩),kd fb p.fo.len p.fo.cells] 2 f])] (PW w))=some (.ret (.tup []) (PW w')):=by
 obtain⟨w1,e1⟩ : ∃ v,v=pw w [⟨#[119,104,105,108,101]⟩]:=⟨_,rfl⟩
 obtain⟨w2,e2⟩ : ∃ v,v=pw w1 (c.tx false 1):=⟨_,rfl⟩
 have e3:w'=pw w2 (⟨#[123]⟩::(p.tx++[⟨#[125]⟩])):=by rw[hw,qaw,<- e1,qaw,<- e2]
 have s3:=hsz
 have s2:=qan e3 s3
 have s1:=qan e2 s2
 have z1:=qbP e1 (by decide) s1
 have z2:=hc w1 w2 e2 s2
 have z3:=hb 7 0 ⟨#[]⟩ fb w2 w' e3 s3
 have f0:=qei (k:=4) (n:=0) (s:=⟨#[]⟩)  (a:=c.kind) (b:=c.num) (t:=c.str) (u:=c.kids) (r:=[.lit (.int .i64 7),.lit (.int .i64 0),.lit (.string ⟨#[]⟩),kd fb p.fo.len p.fo.cells]) (m:=2) (f:=f) (by omega) (by omega) (qbg c)
 have f1:=qgB (k:=4) (n:=0) (s:=⟨#[]⟩) (x0 := .lit (.int .i64 c.kind)) (x1 := .lit (.int .i64 c.num)) (x2 := .lit (.string c.str)) (x3:=c.kids) (a:=7) (b:=0) (t:=⟨#[]⟩) (u:=kd fb p.fo.len p.fo.cells) (r:=[]) (m:=2) (f:=f) (by omega) (by omega) (qlB _ _ _)
 simp only[PW,PW'] at z1 z2 z3 ⊢
 clear e1 e2 e3 s1 s2 s3 hw hsz
 refine qaa (pf:=F260) rfl rfl ?_
 simp[F260,f0,f1,z1,z2,z3,Wa]
theorem qx6 {f fb fc:Bool} {c:E} {p q:Ss} (hc:qfA c 1 1) (hb:qkz p) (hq:q.fo.len=0) {w w':List UInt8} (hw:w'=pw w ([⟨#[105,102]⟩]++((c.tx false 1)++((⟨#[123]⟩::(p.tx++[⟨#[125]⟩])))))) (hsz:w'.length<2 ^ 40) :
  Z tQ (.call 260 [.ptr 0 0,.dat (.agg [.lit (.int .i64 3),.lit (.int .i64 0),.lit (.string ⟨#[]⟩),.sl [.lit (.int .i64 c.kind),.lit (.int .i64 c.num),.lit (.string c.str),c.kids,.lit (.int .i64 7),.lit (.int .i64 0),.lit (.string ⟨#[]⟩),kd fb p.fo.len p.fo.cells,.lit (.int .i64 7),.lit (.int .i64 0),.lit (.string ⟨#[]⟩),kd fc q.fo.len q.fo.cells] 3 f])] (PW w))=some (.ret (.tup []) (PW w')):=by
 obtain⟨w1,e1⟩ : ∃ v,v=pw w [⟨#[105,102]⟩]:=⟨_,rfl⟩
 obtain⟨w2,e2⟩ : ∃ v,v=pw w1 (c.tx false 1):=⟨_,rfl⟩
 have e3:w'=pw w2 (⟨#[123]⟩::(p.tx++[⟨#[125]⟩])):=by rw[hw,qaw,<- e1,qaw,<- e2]
 have s3:=hsz
 have s2:=qan e3 s3
 have s1:=qan e2 s2
 have z1:=qbP e1 (by decide) s1
 have z2:=hc w1 w2 e2 s2
 have z3:=hb 7 0 ⟨#[]⟩ fb w2 w' e3 s3
 have f0:=qei (k:=3) (n:=0) (s:=⟨#[]⟩)  (a:=c.kind) (b:=c.num) (t:=c.str) (u:=c.kids) (r:=[.lit (.int .i64 7),.lit (.int .i64 0),.lit (.string ⟨#[]⟩),kd fb p.fo.len p.fo.cells,.lit (.int .i64 7),.lit (.int .i64 0),.lit (.string ⟨#[]⟩),kd fc q.fo.len q.fo.cells]) (m:=3) (f:=f) (by omega) (by omega) (qbg c)
 have f1:=qgB (k:=3) (n:=0) (s:=⟨#[]⟩) (x0 := .lit (.int .i64 c.kind)) (x1 := .lit (.int .i64 c.num)) (x2 := .lit (.string c.str)) (x3:=c.kids) (a:=7) (b:=0) (t:=⟨#[]⟩) (u:=kd fb p.fo.len p.fo.cells) (r:=[.lit (.int .i64 7),.lit (.int .i64 0),.lit (.string ⟨#[]⟩),kd fc q.fo.len q.fo.cells]) (m:=3) (f:=f) (by omega) (by omega) (qlB _ _ _)
 have f2:=qsR (k:=3) (n:=0) (s:=⟨#[]⟩) (x0 := .lit (.int .i64 c.kind)) (x1 := .lit (.int .i64 c.num)) (x2 := .lit (.string c.str)) (x3:=c.kids) (y0 := .lit (.int .i64 7)) (y1 := .lit (.int .i64 0)) (y2 := .lit (.string ⟨#[]⟩)) (y3:=kd fb p.fo.len p.fo.cells) (a:=7) (b:=0) (t:=⟨#[]⟩) (u:=kd fc q.fo.len q.fo.cells) (r:=[]) (m:=3) (f:=f) (by omega) (by omega) (qlB _ _ _)
 have hq1 : ∀ cs,kd fc q.fo.len cs = .lit (.slice none 0 0):=fun cs=>by rw[hq]; rfl
 simp only[hq1] at f0 f1 f2 ⊢
 simp only[PW,PW'] at z1 z2 z3 ⊢
 clear e1 e2 e3 s1 s2 s3 hw hsz
 refine qaa (pf:=F260) rfl rfl ?_
 simp[F260,f0,f1,f2,z1,z2,z3,Wa,qdi]
theorem qx7 {f fb fc:Bool} {c:E} {p q:Ss} (hc:qfA c 1 1) (hb:qkz p) (hq:0<q.fo.len) (hd:qkz q) {w w':List UInt8} (hw:w'=pw w ([⟨#[105,102]⟩]++((c.tx false 1)++((⟨#[123]⟩::(p.tx++[⟨#[125]⟩]))++([⟨#[101,108,115,101]⟩]++((⟨#[123]⟩::(q.tx++[⟨#[125]⟩])))))))) (hsz:w'.length<2 ^ 40) :
  Z tQ (.call 260 [.ptr 0 0,.dat (.agg [.lit (.int .i64 3),.lit (.int .i64 0),.lit (.string ⟨#[]⟩),.sl [.lit (.int .i64 c.kind),.lit (.int .i64 c.num),.lit (.string c.str),c.kids,.lit (.int .i64 7),.lit (.int .i64 0),.lit (.string ⟨#[]⟩),kd fb p.fo.len p.fo.cells,.lit (.int .i64 7),.lit (.int .i64 0),.lit (.string ⟨#[]⟩),kd fc q.fo.len q.fo.cells] 3 f])] (PW w))=some (.ret (.tup []) (PW w')):=by
 obtain⟨w1,e1⟩ : ∃ v,v=pw w [⟨#[105,102]⟩]:=⟨_,rfl⟩
 obtain⟨w2,e2⟩ : ∃ v,v=pw w1 (c.tx false 1):=⟨_,rfl⟩
 obtain⟨w3,e3⟩ : ∃ v,v=pw w2 (⟨#[123]⟩::(p.tx++[⟨#[125]⟩])):=⟨_,rfl⟩
 obtain⟨w4,e4⟩ : ∃ v,v=pw w3 [⟨#[101,108,115,101]⟩]:=⟨_,rfl⟩
 have e5:w'=pw w4 (⟨#[123]⟩::(q.tx++[⟨#[125]⟩])):=by rw[hw,qaw,<- e1,qaw,<- e2,qaw,<- e3,qaw,<- e4]
 have s5:=hsz
 have s4:=qan e5 s5
 have s3:=qan e4 s4
 have s2:=qan e3 s3
 have s1:=qan e2 s2
 have z1:=qbP e1 (by decide) s1
 have z2:=hc w1 w2 e2 s2
 have z3:=hb 7 0 ⟨#[]⟩ fb w2 w3 e3 s3
 have z4:=qbP e4 (by decide) s4
 have z5:=hd 7 0 ⟨#[]⟩ fc w4 w' e5 s5
 have f0:=qei (k:=3) (n:=0) (s:=⟨#[]⟩)  (a:=c.kind) (b:=c.num) (t:=c.str) (u:=c.kids) (r:=[.lit (.int .i64 7),.lit (.int .i64 0),.lit (.string ⟨#[]⟩),kd fb p.fo.len p.fo.cells,.lit (.int .i64 7),.lit (.int .i64 0),.lit (.string ⟨#[]⟩),kd fc q.fo.len q.fo.cells]) (m:=3) (f:=f) (by omega) (by omega) (qbg c)
 have f1:=qgB (k:=3) (n:=0) (s:=⟨#[]⟩) (x0 := .lit (.int .i64 c.kind)) (x1 := .lit (.int .i64 c.num)) (x2 := .lit (.string c.str)) (x3:=c.kids) (a:=7) (b:=0) (t:=⟨#[]⟩) (u:=kd fb p.fo.len p.fo.cells) (r:=[.lit (.int .i64 7),.lit (.int .i64 0),.lit (.string ⟨#[]⟩),kd fc q.fo.len q.fo.cells]) (m:=3) (f:=f) (by omega) (by omega) (qlB _ _ _)
 have f2:=qsR (k:=3) (n:=0) (s:=⟨#[]⟩) (x0 := .lit (.int .i64 c.kind)) (x1 := .lit (.int .i64 c.num)) (x2 := .lit (.string c.str)) (x3:=c.kids) (y0 := .lit (.int .i64 7)) (y1 := .lit (.int .i64 0)) (y2 := .lit (.string ⟨#[]⟩)) (y3:=kd fb p.fo.len p.fo.cells) (a:=7) (b:=0) (t:=⟨#[]⟩) (u:=kd fc q.fo.len q.fo.cells) (r:=[]) (m:=3) (f:=f) (by omega) (by omega) (qlB _ _ _)
 have hq1:(0:Int)<q.fo.len:=by omega
 simp only[PW,PW'] at z1 z2 z3 z4 z5 ⊢
 clear e1 e2 e3 e4 e5 s1 s2 s3 s4 s5 hw hsz
 refine qaa (pf:=F260) rfl rfl ?_
 simp[F260,f0,f1,f2,z1,z2,z3,z4,z5,Wa,hq1,hq]
theorem qvG {f fb:Bool} {d:D} (hd:V.one (.dat d)=true) (hcl:V.cells (.dat d)=[.dat d]) {w w':List UInt8} (hw:w'=pw w [⟨#[115,116,111,112]⟩,⟨#[59]⟩]) (hsz:w'.length<2 ^ 40) :
  Z tQ (.call 260 [.ptr 0 0,.dat (.agg [.lit (.int .i64 6),.lit (.int .i64 0),.lit (.string ⟨#[]⟩),d])] (PW w))=some (.ret (.tup []) (PW w')):=by
 have z1:=qfJ hw (by decide) (by decide) hsz
 simp only[PW,PW'] at z1 ⊢
 refine qaa (pf:=F260) rfl rfl ?_
 simp[F260,z1,hd,hcl,Wa]
end
section
open F
attribute [local simp] qfV qiu
def qwu(s:Ss):Prop := ∀ (cs:List D) (m i:Nat) (f:Bool) w w',cs.drop (i*4)=s.fo.cells->i+s.fo.len=m->m<2 ^ 40->w'=pw w s.tx->w'.length<2 ^ 40 ->
 Z tQ (.loop 2 F244l0 [(0,.ptr 0 0),(10,.dat (.sl cs m f)),(11,.int m),(12,.int i)] (PW w))=some (.out (.exit 0) [(0,.ptr 0 0),(10,.dat (.sl cs m f)),(11,.int m),(12,.int m),(13,.bool false)] (PW w'))
def qwv:Ss->Prop
 |.block _ b r=>qkz b/\qwv r
 |_=>True
theorem qfP {cs:List D} {m i:Nat} {f:Bool} {w w1:List UInt8} {k n:Int} {s:ByteArray} {d:D} {rest:List D} (hd:cs.drop (i*4) = .lit (.int .i64 k) :: .lit (.int .i64 n) :: .lit (.string s)::d::rest)
  (h1:V.one (.dat d)=true) (hcl:V.cells (.dat d)=[.dat d]) (hi:i<m) (hm:m<2 ^ 40)
  (zs:Z tQ (.call 260 [.ptr 0 0,.dat (.agg [.lit (.int .i64 k),.lit (.int .i64 n),.lit (.string s),d])] (PW w))=some (.ret (.tup []) (PW w1)))
  {r:Res} (zr:Z tQ (.loop 2 F244l0 [(0,.ptr 0 0),(10,.dat (.sl cs m f)),(11,.int m),(12,.int ((i+1:Nat):Int))] (PW w1))=some r) :
  Z tQ (.loop 2 F244l0 [(0,.ptr 0 0),(10,.dat (.sl cs m f)),(11,.int m),(12,.int i)] (PW w))=some r:=by
 have hc:=qyH hd
 have hlt:(i:Int)<m:=by omega
 have w1':IntKind.i64.wrap ((i:Int)+1)=((i+1:Nat):Int):=by rw[qah _ (by omega)]; omega
 rw[<- zr]
 simp only[PW,PW'] at zs ⊢
 conv=>lhs; rw[qab]
 generalize ((i+1:Nat):Int)=i1 at *
 simp[qac,qgO,qak,hc,h1,hcl,hlt,hi,zs,w1',Wa]
 all_goals exact qai (by simp[gcF,h1,hcl,Wa])
theorem qmL{b:Ss}(hg:b.good none)(hl:qwu b):qkz b:=by
 intro k n s f w w' hw hsz
 obtain⟨w1,e1⟩ : ∃ v,v=pw w [⟨#[123]⟩]:=⟨_,rfl⟩
 obtain⟨w2,e2⟩ : ∃ v,v=pw w1 b.tx:=⟨_,rfl⟩
 have e3:w'=pw w2 [⟨#[125]⟩]:=by rw[hw,e2,e1,<- qaw,<- qaw]; rfl
 have s3:=hsz
 have s2:=qan e3 s3
 have s1:=qan e2 s2
 have htg:=qs8 (qiP b none hg).ok
 have hb:b.fo.len<2 ^ 40:=by
  have h1:=qfw b hg
  have h2:=qjB b.tx (wl w1) (fun t ht=>qkt (htg t ht))
  have h3:=congrArg List.length e2
  simp only[pw,Wc] at h3
  omega
 have z1:=qbP e1 (by decide) s1
 have z3:=qbP e3 (by decide) s3
 refine qaa (pf:=F244) rfl rfl ?_
 cases hbl:b.fo.len with
 |zero=>
  have hn:=qjE hbl
  subst hn
  have:w2=w1:=by rw[e2]; exact qna w1
  subst this
  simp only[PW,PW'] at z1 z3 ⊢
  simp[F244,z1,z3,qdi,qab,qac,qgO,Wa]
 |succ q=>
  have z2:=hl b.fo.cells (q+1) 0 f w1 w2 (by simp) (by omega) (by omega) e2 s2
  have hk:kd f (q+1) b.fo.cells = .sl b.fo.cells (q+1) f:=rfl
  rw[hk]
  generalize q+1=M at *
  have z2':Z tQ (.loop 2 F244l0 [(0,.ptr 0 0),(10,.dat (.sl b.fo.cells M f)),(11,.int M),(12,.int 0)] (PW w1++[.cells [.int k,.int n,.str s,.dat (.sl b.fo.cells M f)]]))=_:=(qai (by simp[gcF,Wa])).trans z2
  simp only[PW,PW',Wh,Wf] at z1 z2' z3 ⊢
  simp[F244,z1,z2',z3,qxs,Wa]
theorem qqX{cs:List D}{m:Nat}{f:Bool}{w:List UInt8}:Z tQ (.loop 2 F244l0 [(0,.ptr 0 0),(10,.dat (.sl cs m f)),(11,.int m),(12,.int m)] (PW w))=some (.out (.exit 0) [(0,.ptr 0 0),(10,.dat (.sl cs m f)),(11,.int m),(12,.int m),(13,.bool false)] (PW w)):=by
 rw[qab]
 simp[qac,qgO,Wa]
theorem pe1{e:E}(h:e.good):qfA e 1 1:=qlc e h 1 1 rfl (by omega)
theorem qww : ∀ s:Ss,(s.good none->qwu s)/\((∃ k,s.good (some k))->qwv s):=by
 intro s
 induction s with
 |nil=>
  refine⟨fun _ cs m i f w w' hd hm hm2 hw hs=>?_,fun _=>trivial⟩
  rw[Ss.tx,qna] at hw
  subst hw
  have:i=m:=by simpa [Ss.fo] using hm
  subst this
  exact qqX
 |assign g s e r ih=>
  refine⟨fun h cs m i f w w' hd hm hm2 hw hs=>?_,fun _=>trivial⟩
  obtain⟨_,hn,he,hr⟩:=h
  simp only[Ss.fo,qaY,qlD,qbp,qby,qlC,qgG,qa8] at hd hm
  obtain⟨w1,e1⟩ : ∃ v,v=pw w ([s,⟨#[61]⟩]++(e.tx false 1++[⟨#[59]⟩])):=⟨_,rfl⟩
  have e2:w'=pw w1 r.tx:=by
   rw[hw,e1,<- qaw]
   simp only[Ss.tx,Wh,Wf,Wt]
   rfl
  exact qfP hd rfl rfl (by omega) hm2 (qqE (fb:=false) (fc:=false) (qkt hn.1) (pe1 he) e1 (qan e2 hs)) (ih.1 hr cs m (i+1) f w1 w' (qcr hd) (by omega) hm2 e2 hs)
 |store g s a b r ih=>
  refine⟨fun h cs m i f w w' hd hm hm2 hw hs=>?_,fun _=>trivial⟩
  obtain⟨_,hn,ha,hb,hr⟩:=h
  simp only[Ss.fo,qaY,qlD,qbp,qby,qlC,qgG,qa8] at hd hm
  obtain⟨w1,e1⟩ : ∃ v,v=pw w ([s,⟨#[91]⟩]++(a.tx false 1++([⟨#[93]⟩,⟨#[61]⟩]++(b.tx false 1++[⟨#[59]⟩])))):=⟨_,rfl⟩
  have e2:w'=pw w1 r.tx:=by
   rw[hw,e1,<- qaw]
   simp only[Ss.tx,Wh,Wf,Wt]
   rfl
  exact qfP hd rfl rfl (by omega) hm2 (qsl (fb:=false) (fc:=false) (qji hn) (pe1 ha) (pe1 hb) e1 (qan e2 hs)) (ih.1 hr cs m (i+1) f w1 w' (qcr hd) (by omega) hm2 e2 hs)
 |effect g a b r ih=>
  refine⟨fun h cs m i f w w' hd hm hm2 hw hs=>?_,fun _=>trivial⟩
  obtain⟨_,ha,hb,hr⟩:=h
  simp only[Ss.fo,qaY,qlD,qbp,qby,qlC,qgG,qa8] at hd hm
  obtain⟨w1,e1⟩ : ∃ v,v=pw w ([⟨#[101,102,102,101,99,116]⟩]++(a.tx false 1++([⟨#[44]⟩]++(b.tx false 1++[⟨#[59]⟩])))):=⟨_,rfl⟩
  have e2:w'=pw w1 r.tx:=by
   rw[hw,e1,<- qaw]
   simp only[Ss.tx,Wh,Wf,Wt]
   rfl
  exact qfP hd rfl rfl (by omega) hm2 (qqF (fb:=false) (fc:=false) (pe1 ha) (pe1 hb) e1 (qan e2 hs)) (ih.1 hr cs m (i+1) f w1 w' (qcr hd) (by omega) hm2 e2 hs)
 |stop r ih=>
  refine⟨fun h cs m i f w w' hd hm hm2 hw hs=>?_,fun _=>trivial⟩
  obtain⟨_,hr⟩:=h
  simp only[Ss.fo,qaY,qbp,qby,qa8,qyG] at hd hm
  obtain⟨w1,e1⟩ : ∃ v,v=pw w [⟨#[115,116,111,112]⟩,⟨#[59]⟩]:=⟨_,rfl⟩
  have e2:w'=pw w1 r.tx:=by
   rw[hw,e1,<- qaw]
   rfl
  exact qfP hd rfl rfl (by omega) hm2 (qvG (f:=false) (fb:=false) rfl rfl e1 (qan e2 hs)) (ih.1 hr cs m (i+1) f w1 w' (qcr hd) (by omega) hm2 e2 hs)
 |cond w0 g c b r ihb ih=>
  refine⟨fun h cs m i f w w' hd hm hm2 hw hs=>?_,fun _=>trivial⟩
  obtain⟨_,hc,hb,hr⟩:=h
  cases w0 with
  |true=>
   obtain⟨fb,b1,rfl,hb1⟩:=qqa hb
   have hrow:=ihb.2 ⟨1,hb⟩
   simp only[Ss.fo,qaY,qlD,qbp,qby,qlC,qgG,qa8,if_true] at hd hm
   obtain⟨w1,e1⟩ : ∃ v,v=pw w ([⟨#[119,104,105,108,101]⟩]++(c.tx false 1++(⟨#[123]⟩::(b1.tx++[⟨#[125]⟩])))):=⟨_,rfl⟩
   have e2:w'=pw w1 r.tx:=by
    rw[hw,e1,<- qaw]
    simp only[Ss.tx,Wh,Wf,Wt,qfW,if_true,Wo,if_false]
    rfl
   exact qfP hd rfl rfl (by omega) hm2 (qsm (fc:=false) (pe1 hc) hrow.1 e1 (qan e2 hs)) (ih.1 hr cs m (i+1) f w1 w' (qcr hd) (by omega) hm2 e2 hs)
  |false=>
   obtain⟨fb,b1,fc,b2,rfl,hb1,hb2⟩:=qvo hb
   have hrow:=ihb.2 ⟨2,hb⟩
   simp only[Ss.fo,qaY,qlD,qbp,qby,qlC,qgG,qa8,Wo,if_false] at hd hm
   cases hl:b2.fo.len with
   |zero=>
    have hn:=qjE hl
    obtain⟨w1,e1⟩ : ∃ v,v=pw w ([⟨#[105,102]⟩]++(c.tx false 1++(⟨#[123]⟩::(b1.tx++[⟨#[125]⟩])))):=⟨_,rfl⟩
    have e2:w'=pw w1 r.tx:=by
     rw[hw,e1,<- qaw,hn]
     simp only[Ss.tx,Wh,Wf,Wt,qfW,if_true,Wo,if_false]
     rfl
    exact qfP hd rfl rfl (by omega) hm2 (qx6 (pe1 hc) hrow.1 hl e1 (qan e2 hs)) (ih.1 hr cs m (i+1) f w1 w' (qcr hd) (by omega) hm2 e2 hs)
   |succ q=>
    have he:qfW (.block fc b2 .nil)=true:=by cases b2<;>first|rfl|simp[Ss.fo] at hl
    obtain⟨w1,e1⟩ : ∃ v,v=pw w ([⟨#[105,102]⟩]++(c.tx false 1++((⟨#[123]⟩::(b1.tx++[⟨#[125]⟩]))++([⟨#[101,108,115,101]⟩]++(⟨#[123]⟩::(b2.tx++[⟨#[125]⟩])))))):=⟨_,rfl⟩
    have e2:w'=pw w1 r.tx:=by
     rw[hw,e1,<- qaw]
     simp only[Ss.tx,he,Wh,Wf,Wt,if_true,Wo,if_false]
     rfl
    exact qfP hd rfl rfl (by omega) hm2 (qx7 (pe1 hc) hrow.1 (by omega) hrow.2.1 e1 (qan e2 hs)) (ih.1 hr cs m (i+1) f w1 w' (qcr hd) (by omega) hm2 e2 hs)
 |block g b r ihb ih=>
  refine⟨fun h=>?_,fun ⟨k,h⟩=>?_⟩
  ·obtain⟨n,hn,_⟩:=h; cases hn
  ·obtain⟨n,hn,hb,hr⟩:=h
   exact⟨qmL hb (ihb.1 hb),ih.2 ⟨n,hr⟩⟩
end
section
open F
attribute [local simp] qfV qiu
theorem qeC{w:List UInt8}(h:w≠[])(hl:w.length<2 ^ 40):Z tQ (.call 245 [.ptr 0 0] (PW w))=some (.ret (.str (bs w)) [.cellsT 4 [.ptr 0 0,.own 1 w.length 1,.dat (.lit (.int .u8 (qeh w).toNat))],.dead]):=by
 have h0:0<w.length:=by cases w with|nil=>exact absurd rfl h|cons=>simp
 have hv:=qjp w
 have hb:=qjq w
 have hle:w.length<=1099511627776:=by omega
 refine qaa (pf:=F245) rfl rfl ?_
 simp[F245,h0,hv,hb,hle,bs,V.len,Wa]
theorem qpY:Z tQ (.call 245 [.ptr 0 0] PE)=some (.ret (.str ⟨#[]⟩) PE):=by
 refine qaa (pf:=F245) rfl rfl ?_
 simp[F245,V.len,Wa]
theorem qf0{t u:ByteArray}{w':List UInt8}(hw:w'=pw [] [t,u])(ht:t.size≠0)(hu:u.size≠0)(h:w'.length<2 ^ 40):Z tQ (.call 243 [.ptr 0 0,.dat (.sl [.lit (.string t),.lit (.string u)] 2 true)] PE)=some (.ret (.tup []) (PW w')):=by
 subst hw
 exact qxb true (t:=t) (ts:=[u]) ht (fun x hx=>by rw[Wg.1 hx]; exact hu) (by simp) h
theorem quT:Z tQ (.call 231 [.dat (.agg [.lit (.int .i64 0),.lit (.int .i64 0),.lit (.string ⟨#[]⟩),.lit (.slice none 0 0),.lit (.int .i64 0),.lit (.int .i64 0),.lit (.string ⟨#[]⟩),.lit (.slice none 0 0),.lit (.int .i64 0),.lit (.int .i64 0),.lit (.string ⟨#[]⟩),.lit (.slice none 0 0)])] [])=some (.ret (.str ⟨#[]⟩) []):=by
 have z1:=qpY
 simp only[PE] at z1
 refine qaa (pf:=F231) rfl rfl ?_
 simp[F231,z1,qab,qac,qcw,Wa,show IntKind.i64.wrap 1=1 from rfl,show IntKind.i64.wrap 2=2 from rfl,show IntKind.i64.wrap 3=3 from rfl]
theorem quU{f0:Bool}{b0:Ss}(h0:qkz b0){w:List UInt8}(hw:w=pw [] ([⟨#[111,110]⟩,⟨#[97,99,116]⟩]++((⟨#[123]⟩::(b0.tx++[⟨#[125]⟩])))))(hsz:w.length<2 ^ 40):Z tQ (.call 231 [.dat (.agg [.lit (.int .i64 7),.lit (.int .i64 0),.lit (.string ⟨#[]⟩),kd f0 b0.fo.len b0.fo.cells,.lit (.int .i64 0),.lit (.int .i64 0),.lit (.string ⟨#[]⟩),.lit (.slice none 0 0),.lit (.int .i64 0),.lit (.int .i64 0),.lit (.string ⟨#[]⟩),.lit (.slice none 0 0)])] [])=some (.ret (.str (bs w)) []):=by
 obtain⟨w1,e1⟩ : ∃ v,v=pw [] [⟨#[111,110]⟩,⟨#[97,99,116]⟩]:=⟨_,rfl⟩
 have e2:w=pw w1 (⟨#[123]⟩::(b0.tx++[⟨#[125]⟩])):=by rw[hw,qaw,<- e1]
 have s2:=hsz
 have s1:=qan e2 s2
 have z1:=qf0 e1 (by decide) (by decide) s1
 have z2:=h0 7 0 ⟨#[]⟩ f0 w1 w e2 s2
 have hne:w≠[]:=by
  rw[e2]
  apply qe3
  rw[e1,qfa]
  simp[qfI]
 have zs:=qeC hne hsz
 simp only[PW,PW',PE] at z1 z2 zs
 clear e1 e2 s1 s2 hw hsz
 refine qaa (pf:=F231) rfl rfl ?_
 simp[F231,z1,z2,zs,qab,qac,qcw,Wa,show IntKind.i64.wrap 1=1 from rfl,show IntKind.i64.wrap 2=2 from rfl,show IntKind.i64.wrap 3=3 from rfl]
theorem quV{f1:Bool}{b1:Ss}(h1:qkz b1){w:List UInt8}(hw:w=pw [] ([⟨#[111,110]⟩,⟨#[116,105,99,107]⟩]++((⟨#[123]⟩::(b1.tx++[⟨#[125]⟩])))))(hsz:w.length<2 ^ 40):Z tQ (.call 231 [.dat (.agg [.lit (.int .i64 0),.lit (.int .i64 0),.lit (.string ⟨#[]⟩),.lit (.slice none 0 0),.lit (.int .i64 7),.lit (.int .i64 0),.lit (.string ⟨#[]⟩),kd f1 b1.fo.len b1.fo.cells,.lit (.int .i64 0),.lit (.int .i64 0),.lit (.string ⟨#[]⟩),.lit (.slice none 0 0)])] [])=some (.ret (.str (bs w)) []):=by
 obtain⟨w1,e1⟩ : ∃ v,v=pw [] [⟨#[111,110]⟩,⟨#[116,105,99,107]⟩]:=⟨_,rfl⟩
 have e2:w=pw w1 (⟨#[123]⟩::(b1.tx++[⟨#[125]⟩])):=by rw[hw,qaw,<- e1]
 have s2:=hsz
 have s1:=qan e2 s2
 have z1:=qf0 e1 (by decide) (by decide) s1
 have z2:=h1 7 0 ⟨#[]⟩ f1 w1 w e2 s2
 have hne:w≠[]:=by
  rw[e2]
  apply qe3
  rw[e1,qfa]
  simp[qfI]
 have zs:=qeC hne hsz
 simp only[PW,PW',PE] at z1 z2 zs
 clear e1 e2 s1 s2 hw hsz
 refine qaa (pf:=F231) rfl rfl ?_
 simp[F231,z1,z2,zs,qab,qac,qcw,Wa,show IntKind.i64.wrap 1=1 from rfl,show IntKind.i64.wrap 2=2 from rfl,show IntKind.i64.wrap 3=3 from rfl]
theorem quW{f0:Bool}{b0:Ss}(h0:qkz b0){f1:Bool}{b1:Ss}(h1:qkz b1){w:List UInt8}(hw:w=pw [] ([⟨#[111,110]⟩,⟨#[97,99,116]⟩]++((⟨#[123]⟩::(b0.tx++[⟨#[125]⟩]))++([⟨#[111,110]⟩,⟨#[116,105,99,107]⟩]++((⟨#[123]⟩::(b1.tx++[⟨#[125]⟩])))))))(hsz:w.length<2 ^ 40):Z tQ (.call 231 [.dat (.agg [.lit (.int .i64 7),.lit (.int .i64 0),.lit (.string ⟨#[]⟩),kd f0 b0.fo.len b0.fo.cells,.lit (.int .i64 7),.lit (.int .i64 0),.lit (.string ⟨#[]⟩),kd f1 b1.fo.len b1.fo.cells,.lit (.int .i64 0),.lit (.int .i64 0),.lit (.string ⟨#[]⟩),.lit (.slice none 0 0)])] [])=some (.ret (.str (bs w)) []):=by
 obtain⟨w1,e1⟩ : ∃ v,v=pw [] [⟨#[111,110]⟩,⟨#[97,99,116]⟩]:=⟨_,rfl⟩
 obtain⟨w2,e2⟩ : ∃ v,v=pw w1 (⟨#[123]⟩::(b0.tx++[⟨#[125]⟩])):=⟨_,rfl⟩
 obtain⟨w3,e3⟩ : ∃ v,v=pw w2 [⟨#[111,110]⟩,⟨#[116,105,99,107]⟩]:=⟨_,rfl⟩
 have e4:w=pw w3 (⟨#[123]⟩::(b1.tx++[⟨#[125]⟩])):=by rw[hw,qaw,<- e1,qaw,<- e2,qaw,<- e3]
 have s4:=hsz
 have s3:=qan e4 s4
 have s2:=qan e3 s3
 have s1:=qan e2 s2
 have z1:=qf0 e1 (by decide) (by decide) s1
 have z2:=h0 7 0 ⟨#[]⟩ f0 w1 w2 e2 s2
 have z3:=qfJ e3 (by decide) (by decide) s3
 have z4:=h1 7 0 ⟨#[]⟩ f1 w3 w e4 s4
 have hne:w≠[]:=by
  rw[e4]
  apply qe3
  rw[e3]
  apply qe3
  rw[e2]
  apply qe3
  rw[e1,qfa]
  simp[qfI]
 have zs:=qeC hne hsz
 simp only[PW,PW',PE] at z1 z2 z3 z4 zs
 clear e1 e2 e3 e4 s1 s2 s3 s4 hw hsz
 refine qaa (pf:=F231) rfl rfl ?_
 simp[F231,z1,z2,z3,z4,zs,qab,qac,qcw,Wa,show IntKind.i64.wrap 1=1 from rfl,show IntKind.i64.wrap 2=2 from rfl,show IntKind.i64.wrap 3=3 from rfl]
theorem quX{f2:Bool}{b2:Ss}(h2:qkz b2){w:List UInt8}(hw:w=pw [] ([⟨#[111,110]⟩,⟨#[104,105,116]⟩]++((⟨#[123]⟩::(b2.tx++[⟨#[125]⟩])))))(hsz:w.length<2 ^ 40):Z tQ (.call 231 [.dat (.agg [.lit (.int .i64 0),.lit (.int .i64 0),.lit (.string ⟨#[]⟩),.lit (.slice none 0 0),.lit (.int .i64 0),.lit (.int .i64 0),.lit (.string ⟨#[]⟩),.lit (.slice none 0 0),.lit (.int .i64 7),.lit (.int .i64 0),.lit (.string ⟨#[]⟩),kd f2 b2.fo.len b2.fo.cells])] [])=some (.ret (.str (bs w)) []):=by
 obtain⟨w1,e1⟩ : ∃ v,v=pw [] [⟨#[111,110]⟩,⟨#[104,105,116]⟩]:=⟨_,rfl⟩
 have e2:w=pw w1 (⟨#[123]⟩::(b2.tx++[⟨#[125]⟩])):=by rw[hw,qaw,<- e1]
 have s2:=hsz
 have s1:=qan e2 s2
 have z1:=qf0 e1 (by decide) (by decide) s1
 have z2:=h2 7 0 ⟨#[]⟩ f2 w1 w e2 s2
 have hne:w≠[]:=by
  rw[e2]
  apply qe3
  rw[e1,qfa]
  simp[qfI]
 have zs:=qeC hne hsz
 simp only[PW,PW',PE] at z1 z2 zs
 clear e1 e2 s1 s2 hw hsz
 refine qaa (pf:=F231) rfl rfl ?_
 simp[F231,z1,z2,zs,qab,qac,qcw,Wa,show IntKind.i64.wrap 1=1 from rfl,show IntKind.i64.wrap 2=2 from rfl,show IntKind.i64.wrap 3=3 from rfl]
theorem quY{f0:Bool}{b0:Ss}(h0:qkz b0){f2:Bool}{b2:Ss}(h2:qkz b2){w:List UInt8}(hw:w=pw [] ([⟨#[111,110]⟩,⟨#[97,99,116]⟩]++((⟨#[123]⟩::(b0.tx++[⟨#[125]⟩]))++([⟨#[111,110]⟩,⟨#[104,105,116]⟩]++((⟨#[123]⟩::(b2.tx++[⟨#[125]⟩])))))))(hsz:w.length<2 ^ 40):Z tQ (.call 231 [.dat (.agg [.lit (.int .i64 7),.lit (.int .i64 0),.lit (.string ⟨#[]⟩),kd f0 b0.fo.len b0.fo.cells,.lit (.int .i64 0),.lit (.int .i64 0),.lit (.string ⟨#[]⟩),.lit (.slice none 0 0),.lit (.int .i64 7),.lit (.int .i64 0),.lit (.string ⟨#[]⟩),kd f2 b2.fo.len b2.fo.cells])] [])=some (.ret (.str (bs w)) []):=by
 obtain⟨w1,e1⟩ : ∃ v,v=pw [] [⟨#[111,110]⟩,⟨#[97,99,116]⟩]:=⟨_,rfl⟩
 obtain⟨w2,e2⟩ : ∃ v,v=pw w1 (⟨#[123]⟩::(b0.tx++[⟨#[125]⟩])):=⟨_,rfl⟩
 obtain⟨w3,e3⟩ : ∃ v,v=pw w2 [⟨#[111,110]⟩,⟨#[104,105,116]⟩]:=⟨_,rfl⟩
 have e4:w=pw w3 (⟨#[123]⟩::(b2.tx++[⟨#[125]⟩])):=by rw[hw,qaw,<- e1,qaw,<- e2,qaw,<- e3]
 have s4:=hsz
 have s3:=qan e4 s4
 have s2:=qan e3 s3
 have s1:=qan e2 s2
 have z1:=qf0 e1 (by decide) (by decide) s1
 have z2:=h0 7 0 ⟨#[]⟩ f0 w1 w2 e2 s2
 have z3:=qfJ e3 (by decide) (by decide) s3
 have z4:=h2 7 0 ⟨#[]⟩ f2 w3 w e4 s4
 have hne:w≠[]:=by
  rw[e4]
  apply qe3
  rw[e3]
  apply qe3
  rw[e2]
  apply qe3
  rw[e1,qfa]
  simp[qfI]
 have zs:=qeC hne hsz
 simp only[PW,PW',PE] at z1 z2 z3 z4 zs
 clear e1 e2 e3 e4 s1 s2 s3 s4 hw hsz
 refine qaa (pf:=F231) rfl rfl ?_
 simp[F231,z1,z2,z3,z4,zs,qab,qac,qcw,Wa,show IntKind.i64.wrap 1=1 from rfl,show IntKind.i64.wrap 2=2 from rfl,show IntKind.i64.wrap 3=3 from rfl]
theorem quZ{f1:Bool}{b1:Ss}(h1:qkz b1){f2:Bool}{b2:Ss}(h2:qkz b2){w:List UInt8}(hw:w=pw [] ([⟨#[111,110]⟩,⟨#[116,105,99,107]⟩]++((⟨#[123]⟩::(b1.tx++[⟨#[125]⟩]))++([⟨#[111,110]⟩,⟨#[104,105,116]⟩]++((⟨#[123]⟩::(b2.tx++[⟨#[125]⟩])))))))(hsz:w.length<2 ^ 40):Z tQ (.call 231 [.dat (.agg [.lit (.int .i64 0),.lit (.int .i64 0),.lit (.string ⟨#[]⟩),.lit (.slice none 0 0),.lit (.int .i64 7),.lit (.int .i64 0),.lit (.string ⟨#[]⟩),kd f1 b1.fo.len b1.fo.cells,.lit (.int .i64 7),.lit (.int .i64 0),.lit (.string ⟨#[]⟩),kd f2 b2.fo.len b2.fo.cells])] [])=some (.ret (.str (bs w)) []):=by
 obtain⟨w1,e1⟩ : ∃ v,v=pw [] [⟨#[111,110]⟩,⟨#[116,105,99,107]⟩]:=⟨_,rfl⟩
 obtain⟨w2,e2⟩ : ∃ v,v=pw w1 (⟨#[123]⟩::(b1.tx++[⟨#[125]⟩])):=⟨_,rfl⟩
 obtain⟨w3,e3⟩ : ∃ v,v=pw w2 [⟨#[111,110]⟩,⟨#[104,105,116]⟩]:=⟨_,rfl⟩
 have e4:w=pw w3 (⟨#[123]⟩::(b2.tx++[⟨#[125]⟩])):=by rw[hw,qaw,<- e1,qaw,<- e2,qaw,<- e3]
 have s4:=hsz
 have s3:=qan e4 s4
 have s2:=qan e3 s3
 have s1:=qan e2 s2
 have z1:=qf0 e1 (by decide) (by decide) s1
 have z2:=h1 7 0 ⟨#[]⟩ f1 w1 w2 e2 s2
 have z3:=qfJ e3 (by decide) (by decide) s3
 have z4:=h2 7 0 ⟨#[]⟩ f2 w3 w e4 s4
 have hne:w≠[]:=by
  rw[e4]
  apply qe3
  rw[e3]
  apply qe3
  rw[e2]
  apply qe3
  rw[e1,qfa]
  simp[qfI]
 have zs:=qeC hne hsz
 simp only[PW,PW',PE] at z1 z2 z3 z4 zs
 clear e1 e2 e3 e4 s1 s2 s3 s4 hw hsz
 refine qaa (pf:=F231) rfl rfl ?_
 simp[F231,z1,z2,z3,z4,zs,qab,qac,qcw,Wa,show IntKind.i64.wrap 1=1 from rfl,show IntKind.i64.wrap 2=2 from rfl,show IntKind.i64.wrap 3=3 from rfl]
theorem qu0{f0:Bool}{b0:Ss}(h0:qkz b0){f1:Bool}{b1:Ss}(h1:qkz b1){f2:Bool}{b2:Ss}(h2:qkz b2){w:List UInt8}(hw:w=pw [] ([⟨#[111,110]⟩,⟨#[97,99,116]⟩]++((⟨#[123]⟩::(b0.tx++[⟨#[125]⟩]))++([⟨#[111,110]⟩,⟨#[116,105,99,107]⟩]++((⟨#[123]⟩::(b1.tx++[⟨#[125]⟩]))++([⟨#[111,110]⟩,⟨#[104,105,116]⟩]++((⟨#[123]⟩::(b2.tx++[⟨#[125]⟩])))))))))(hsz:w.length<2 ^ 40):Z tQ (.call 231 [.dat (.agg [.lit (.int .i64 7),.lit (.int .i64 0),.lit (.string ⟨#[]⟩),kd f0 b0.fo.len b0.fo.cells,.lit (.int .i64 7),.lit (.int .i64 0),.lit (.string ⟨#[]⟩),kd f1 b1.fo.len b1.fo.cells,.lit (.int .i64 7),.lit (.int .i64 0),.lit (.string ⟨#[]⟩),kd f2 b2.fo.len b2.fo.cells])] [])=some (.ret (.str (bs w)) []):=by
 obtain⟨w1,e1⟩ : ∃ v,v=pw [] [⟨#[111,110]⟩,⟨#[97,99,116]⟩]:=⟨_,rfl⟩
 obtain⟨w2,e2⟩ : ∃ v,v=pw w1 (⟨#[123]⟩::(b0.tx++[⟨#[125]⟩])):=⟨_,rfl⟩
 obtain⟨w3,e3⟩ : ∃ v,v=pw w2 [⟨#[111,110]⟩,⟨#[116,105,99,107]⟩]:=⟨_,rfl⟩
 obtain⟨w4,e4⟩ : ∃ v,v=pw w3 (⟨#[123]⟩::(b1.tx++[⟨#[125]⟩])):=⟨_,rfl⟩
 obtain⟨w5,e5⟩ : ∃ v,v=pw w4 [⟨#[111,110]⟩,⟨#[104,105,116]⟩]:=⟨_,rfl⟩
 have e6:w=pw w5 (⟨#[123]⟩::(b2.tx++[⟨#[125]⟩])):=by rw[hw,qaw,<- e1,qaw,<- e2,qaw,<- e3,qaw,<- e4,qaw,<- e5]
 have s6:=hsz
 have s5:=qan e6 s6
 have s4:=qan e5 s5
 have s3:=qan e4 s4
 have s2:=qan e3 s3
 have s1:=qan e2 s2
 have z1:=qf0 e1 (by decide) (by decide) s1
 have z2:=h0 7 0 ⟨#[]⟩ f0 w1 w2 e2 s2
 have z3:=qfJ e3 (by decide) (by decide) s3
 have z4:=h1 7 0 ⟨#[]⟩ f1 w3 w4 e4 s4
 have z5:=qfJ e5 (by decide) (by decide) s5
 have z6:=h2 7 0 ⟨#[]⟩ f2 w5 w e6 s6
 have hne:w≠[]:=by
  rw[e6]
  apply qe3
  rw[e5]
  apply qe3
  rw[e4]
  apply qe3
  rw[e3]
  apply qe3
  rw[e2]
  apply qe3
  rw[e1,qfa]
  simp[qfI]
 have zs:=qeC hne hsz
 simp only[PW,PW',PE] at z1 z2 z3 z4 z5 z6 zs
 clear e1 e2 e3 e4 e5 e6 s1 s2 s3 s4 s5 s6 hw hsz
 refine qaa (pf:=F231) rfl rfl ?_
 simp[F231,z1,z2,z3,z4,z5,z6,zs,qab,qac,qcw,Wa,show IntKind.i64.wrap 1=1 from rfl,show IntKind.i64.wrap 2=2 from rfl,show IntKind.i64.wrap 3=3 from rfl]
theorem qu1 {a b c:Hd} (hg : ∀ k,qhq (Hd.opts a b c k)) (hsz:(qfI false (qco (Hd.opts a b c))).length<2 ^ 40) :
  Z tQ (.call 231 [.dat (ru a.nd b.nd c.nd)] [])=some (.ret (.str (bs (qfI false (qco (Hd.opts a b c))))) []):=by
 have hb : ∀ {s:Ss} (k:Nat),Hd.opts a b c k=some s->qkz s:=fun k h=>qmL ((hg k) _ h).1 ((qww _).1 ((hg k) _ h).1)
 rw[<- qfa] at hsz ⊢
 cases a<;>cases b<;>cases c
 ·exact quT
 ·refine quX (hb 2 rfl) ?_ hsz
  simp only[qco,qlP,Hd.opts,Hd.opt,qeI,onS,qiT,qkF,Wf,WJ,Wh,Wt]
  rfl
 ·refine quV (hb 1 rfl) ?_ hsz
  simp only[qco,qlP,Hd.opts,Hd.opt,qeI,onS,qiT,qkF,Wf,WJ,Wh,Wt]
  rfl
 ·refine quZ (hb 1 rfl) (hb 2 rfl) ?_ hsz
  simp only[qco,qlP,Hd.opts,Hd.opt,qeI,onS,qiT,qkF,Wf,WJ,Wh,Wt]
  rfl
 ·refine quU (hb 0 rfl) ?_ hsz
  simp only[qco,qlP,Hd.opts,Hd.opt,qeI,onS,qiT,qkF,Wf,WJ,Wh,Wt]
  rfl
 ·refine quY (hb 0 rfl) (hb 2 rfl) ?_ hsz
  simp only[qco,qlP,Hd.opts,Hd.opt,qeI,onS,qiT,qkF,Wf,WJ,Wh,Wt]
  rfl
 ·refine quW (hb 0 rfl) (hb 1 rfl) ?_ hsz
  simp only[qco,qlP,Hd.opts,Hd.opt,qeI,onS,qiT,qkF,Wf,WJ,Wh,Wt]
  rfl
 ·refine qu0 (hb 0 rfl) (hb 1 rfl) (hb 2 rfl) ?_ hsz
  simp only[qco,qlP,Hd.opts,Hd.opt,qeI,onS,qiT,qkF,Wf,WJ,Wh,Wt]
  rfl
end
end Go.Pm
section
namespace Go.Pm.F
def tS:Nat->Option PFun
 |152=>some F152
 |192=>some F192
 |193=>some F193
 |_=>none
end Go.Pm.F
end
namespace Go.Pm
section
open F
inductive Parts:List ByteArray->List ByteArray->Prop
 |nil:Parts [] []
 |tok {t:ByteArray} {l ts:List ByteArray} (h:Parts l ts):Parts (t::l) (t::ts)
 |sub {a l ts:List ByteArray} (ha : ∀ t∈a,t.size≠0) (h:Parts l ts):Parts (bs (qfI false a)::l) (a++ts)
end
end Go.Pm
section
namespace Go.Pm.F
def tP:Nat->Option PFun
 |228=>some F228
 |239=>some F239
 |240=>some F240
 |241=>some F241
 |242=>some F242
 |249=>some F249
 |250=>some F250
 |251=>some F251
 |252=>some F252
 |253=>some F253
 |254=>some F254
 |255=>some F255
 |256=>some F256
 |264=>some F264
 |265=>some F265
 |266=>some F266
 |267=>some F267
 |268=>some F268
 |269=>some F269
 |270=>some F270
 |271=>some F271
 |275=>some F275
 |276=>some F276
 |277=>some F277
 |278=>some F278
 |279=>some F279
 |280=>some F280
 |281=>some F281
 |284=>some F284
 |285=>some F285
 |286=>some F286
 |287=>some F287
 |289=>some F289
 |290=>some F290
 |292=>some F292
 |297=>some F297
 |303=>some F303
 |304=>some F304
 |307=>some F307
 |308=>some F308
 |309=>some F309
 |_=>none
end Go.Pm.F
end
namespace Go.Pm
section
open F
theorem qe0(c:UInt8):Z tP (.call 264 [.dat (.lit (.int .u8 c.toNat))] [])=some (.ret (.bool (qaW c)) []):=by
 refine qaa (pf:=F264) rfl rfl ?_
 by_cases h1:(97:Int)<=c.toNat
 ·have h1':97<=c.toNat:=by omega
  by_cases h2:(c.toNat:Int)<=122
  ·have h2':c.toNat<=122:=by omega
   simp[F264,qaW,h1,h1',h2,h2']
  ·have h2' : ¬ c.toNat<=122:=by omega
   simp[F264,qaW,h1,h1',h2,h2']
 ·have h1' : ¬ 97<=c.toNat:=by omega
  simp[F264,qaW,h1,h1']
theorem qgv(c:UInt8):Z tP (.call 266 [.dat (.lit (.int .u8 c.toNat))] [])=some (.ret (.bool (qav c)) []):=by
 refine qaa (pf:=F266) rfl rfl ?_
 by_cases h1:(48:Int)<=c.toNat
 ·have h1':48<=c.toNat:=by omega
  by_cases h2:(c.toNat:Int)<=57
  ·have h2':c.toNat<=57:=by omega
   simp[F266,qav,h1,h1',h2,h2']
  ·have h2' : ¬ c.toNat<=57:=by omega
   simp[F266,qav,h1,h1',h2,h2']
 ·have h1' : ¬ 48<=c.toNat:=by omega
  simp[F266,qav,h1,h1']
theorem qpt {d:D} {l:List ByteArray} (hd:RowS d l) (hl:l.length<2 ^ 40) (x:ByteArray) : ∀ (m i:Nat),i+m=l.length ->
  (x∉l.drop i->Z tP (.loop 0 F284l0 [(0,.dat d),(1,.str x),(7,.int l.length),(8,.int i)] [])=some (.out (.exit 0) [(0,.dat d),(1,.str x),(7,.int l.length),(8,.int l.length),(9,.bool false)] [])) /\
  (x∈l.drop i -> ∃ (j:Nat),Z tP (.loop 0 F284l0 [(0,.dat d),(1,.str x),(7,.int l.length),(8,.int i)] [])=some (.out .ret [(4,.int j)] []))
 |0,i,hi=>by
  obtain rfl:i=l.length:=by omega
  have ho:=hd.one
  have hc:=hd.cells
  refine⟨fun _=>?_,fun h=>by simp at h⟩
  rw[qab]
  simp[qac,qfq,ho,hc]
 |m+1,i,hi=>by
  have hlt:i<l.length:=by omega
  have hlt':(i:Int)<l.length:=by omega
  have ho:=hd.one
  have hcl:=hd.cells
  have ha:=hd.at_ i hlt
  have hc:=qgH l i hlt
  have w1:=qah ((i:Int)+1) (by omega)
  have hdr:l.drop i=l[i]::l.drop (i+1):=WK hlt
  obtain⟨ih1,ih2⟩:=qpt hd hl x m (i+1) (by omega)
  simp only[Ws,Wn] at ih1 ih2
  rw[hdr]
  generalize l[i]=y at hc ⊢
  by_cases hx:x=y
  ·subst hx
   refine⟨fun h=>absurd (WT ..) h,fun _=>⟨i,?_⟩⟩
   rw[qab]
   simp[qac,qfq,hlt',ha,hc,qbh,ho,hcl]
  ·refine⟨fun h=>?_,fun h=>?_⟩
   ·have z:=ih1 (fun h'=>h (WF _ h'))
    rw[qab]
    simp[qac,qfq,hlt',ha,hc,qbh,hx,w1,z,ho,hcl]
   ·rcases Wq.1 h with h|h
    ·exact absurd h hx
    ·obtain⟨j,z⟩:=ih2 h
     refine⟨j,?_⟩
     rw[qab]
     simp[qac,qfq,hlt',ha,hc,qbh,hx,w1,z,ho,hcl]
theorem qn8{d:D}{l:List ByteArray}(hd:RowS d l)(hl:l.length<2 ^ 40)(x:ByteArray):Z tP (.call 276 [.dat d,.str x] [])=some (.ret (.bool (decide (x∈l))) []):=by
 have ho:=hd.one
 have hc:=hd.cells
 have hn:=hd.len
 obtain⟨i1,i2⟩:=qpt hd hl x l.length 0 (by omega)
 simp only[YC,WO] at i1 i2
 by_cases h:x∈l
 ·obtain⟨j,z⟩:=i2 h
  have z2:Z tP (.call 284 [.dat d,.str x] [])=some (.ret (.int j) []):=by
   refine qaa (pf:=F284) rfl rfl ?_
   simp[F284,ho,hc,hn,z]
  have hj:(0:Int)<=j:=by omega
  refine qaa (pf:=F276) rfl rfl ?_
  simp[F276,ho,hc,z2,h,hj]
 ·have z:=i1 h
  have z2:Z tP (.call 284 [.dat d,.str x] [])=some (.ret (.int (-1)) []):=by
   refine qaa (pf:=F284) rfl rfl ?_
   simp[F284,ho,hc,hn,z]
  refine qaa (pf:=F276) rfl rfl ?_
  simp[F276,ho,hc,z2,h]
end
section
open F
def kwL:List (List UInt8 × Int):=[([111,110],2),([97,99,116],2),([116,105,99,107],2),([105,102],2),([101,108,115,101],2),([119,104,105,108,101],2),([101,102,102,101,99,116],2),([115,116,111,112],2),([116,114,117,101],2),([102,97,108,115,101],2),([115,101,108,102],2),([111,116,104,101,114],2),([120],3),([121],3),([118,120],3),([118,121],3),([97],3),([98],3),([104,105,116],3),([115,116,105,108,108],3)]
def kwM:List (Value × V):=kwL.map fun x=>(.string ⟨x.1.toArray⟩,.int x.2)
theorem qi2(s:ByteArray):Z tP (.call 239 [.str s] [])=some (.ret (.agg [.str s,.mp 0]) [.map kwM]):=by
 exact qoI (n:=2) (by kernel_rfl)
theorem qts(w:ByteArray):qev .s (.string w) kwM=some (if w∈fieldNames then some (.int 3) else if w∈wordNames then some (.int 2) else none):=by
 have key : ∀ (l:List (List UInt8 × Int)),qev .s (.string w) (l.map fun x=>(Value.string ⟨x.1.toArray⟩,V.int x.2))=some ((l.find? fun x=>decide (bs x.1=w)).map fun x => .int x.2):=fun l=>by
  induction l with
  |nil=>rfl
  |cons x l ih=>
   simp only[Wm,qev,qci,ih,List.find?_cons]
   by_cases h:bs x.1=w
   ·have h':(w==(⟨x.1.toArray⟩:ByteArray))=true:=by rw[beq_iff_eq]; exact h.symm
    have h2:((⟨x.1.toArray⟩:ByteArray)==w)=true:=by rw[beq_iff_eq]; exact h
    simp[h,h',h2]
   ·have h':(w==(⟨x.1.toArray⟩:ByteArray))=false:=by rw[beq_eq_false_iff_ne]; exact fun e=>h e.symm
    have h2:((⟨x.1.toArray⟩:ByteArray)==w)=false:=by rw[beq_eq_false_iff_ne]; exact h
    simp[h,h',h2]
 rw[kwM,key]
 congr 1
 by_cases h1:w∈fieldNames
 ·rw[if_pos h1]
  simp only[fieldNames,Wq,Ww,or_false] at h1
  rcases h1 with rfl|rfl|rfl|rfl|rfl|rfl|rfl|rfl<;>rfl
 rw[if_neg h1]
 by_cases h2:w∈wordNames
 ·rw[if_pos h2]
  have hne:w≠qkF:=fun e=>h1 (by rw[e]; decide)
  simp only[wordNames,Wq,Ww,or_false] at h2
  rcases h2 with rfl|rfl|rfl|h2|rfl|rfl|rfl|rfl|rfl|rfl|rfl|rfl|rfl
  case inr.inr.inr.inl=>exact absurd h2 hne
  all_goals rfl
 rw[if_neg h2]
 have:kwL.find? (fun x=>decide (bs x.1=w))=none:=by
  rw[YG]
  intro x hx
  have hall : ∀ x∈kwL,bs x.1∈fieldNames\/bs x.1∈wordNames:=by decide
  rw[decide_eq_true_eq]
  rintro rfl
  rcases hall x hx with h|h
  ·exact h1 h
  ·exact h2 h
 rw[this]
 rfl
abbrev pO(s:ByteArray)(m:Nat)(Q:V)(i a c:Int):Ob := .cells [.str s,.mp m,Q,.int i,.int a,.int c]
inductive LxS(s:ByteArray):S->Prop
 |nil (i a c:Int):LxS s [pO s 1 (.dat (.lit (.slice none 0 0))) i a c,.map kwM]
 |gr (cs:List D) (n t:Nat) (i a c:Int):LxS s [pO s 1 (.gsl cs n 5 2) i a c,.map kwM,.tip t]
theorem qbd:qic kwM=[]:=rfl
theorem qbY(r:Nat->Nat):qsA r kwM=kwM:=rfl
attribute [local simp] qbd qbY
theorem qi3 (s:ByteArray) (hl:s.size<2 ^ 40) {σ : S} (hσ : LxS s σ) : ∀ (m i:Nat) (cm:Bool),i+m=s.size ->
  (i+qa5 cm ((byl s).drop i)=s.size /\ ∃ v,Z tP (.loop σ.length F251l0 [(0,.ptr 0 0),(1,.int i),(5,.bool cm)] σ)=some (.out (.exit 0) [(0,.ptr 0 0),(1,.int s.size),(5,v),(13,.bool false)] σ)) \/
  Z tP (.loop σ.length F251l0 [(0,.ptr 0 0),(1,.int i),(5,.bool cm)] σ)=some (.out .ret [(4,.int ((i+qa5 cm ((byl s).drop i):Nat)))] σ)
 |0,i,cm,hi=>by
  obtain rfl:i=s.size:=by omega
  have hd:(byl s).drop s.size=[]:=WX (by rw[qaA]; exact Wk _)
  refine .inl ⟨by rw[hd]; simp[qa5],.bool cm,?_⟩
  rw[qab]
  cases hσ <;> simp[qac,qdu,V.len,Wa]
 |m+1,i,cm,hi=>by
  obtain⟨c,h1,h2⟩:=qoq (s:=s) (i:=i) (by omega)
  have hd:=qg5 h2
  have hlt:(i:Int)<s.size:=by omega
  have w1:=qah ((i:Int)+1) (by omega)
  have ih:=fun cm=>qi3 s hl hσ m (i+1) cm (by omega)
  have fin : ∀ cm',qa5 cm ((byl s).drop i)=1+qa5 cm' ((byl s).drop (i+1)) ->
    Z tP (.loop σ.length F251l0 [(0,.ptr 0 0),(1,.int i),(5,.bool cm)] σ)=Z tP (.loop σ.length F251l0 [(0,.ptr 0 0),(1,.int (i+1)),(5,.bool cm')] σ) ->
    (i+qa5 cm ((byl s).drop i)=s.size /\ ∃ v,Z tP (.loop σ.length F251l0 [(0,.ptr 0 0),(1,.int i),(5,.bool cm)] σ)=some (.out (.exit 0) [(0,.ptr 0 0),(1,.int s.size),(5,v),(13,.bool false)] σ)) \/
    Z tP (.loop σ.length F251l0 [(0,.ptr 0 0),(1,.int i),(5,.bool cm)] σ)=some (.out .ret [(4,.int ((i+qa5 cm ((byl s).drop i):Nat)))] σ):=fun cm' e z=>by
   rw[e,z]
   have ih:=ih cm'
   rw[show i+(1+qa5 cm' ((byl s).drop (i+1)))=i+1+qa5 cm' ((byl s).drop (i+1)) by omega]
   simpa using ih
  by_cases h10:c.toNat=10
  ·refine fin false (by rw[hd]; simp[qa5,h10]; omega) ?_
   rw[qab]
   cases hσ <;> simp[qac,qdu,V.len,h1,hlt,h10,w1,Wa]
  have h10' : ¬ (c.toNat:Int)=10:=by omega
  by_cases hc:cm=true\/c.toNat=32\/c.toNat=9
  ·refine fin cm (by rw[hd]; simp only[qa5,if_neg h10,if_pos hc]; omega) ?_
   rw[qab]
   cases cm
   ·have h9:c.toNat=32\/c.toNat=9:=by simpa using hc
    rcases h9 with h9|h9<;>cases hσ <;> simp[qac,qdu,V.len,h1,hlt,h10',h9,w1,Wa]
   ·cases hσ <;> simp[qac,qdu,V.len,h1,hlt,h10',w1,Wa]
  have hc':=hc
  simp only[not_or,Bool.not_eq_true] at hc'
  obtain⟨rfl,h32,h9⟩:=hc'
  have h32' : ¬ (c.toNat:Int)=32:=by omega
  have h9' : ¬ (c.toNat:Int)=9:=by omega
  by_cases h35:c.toNat=35
  ·refine fin true (by rw[hd]; simp only[qa5,if_neg h10,if_neg hc,if_pos h35]; omega) ?_
   rw[qab]
   cases hσ <;> simp[qac,qdu,V.len,h1,hlt,h35,w1,Wa]
  ·have h35' : ¬ (c.toNat:Int)=35:=by omega
   have e:qa5 false ((byl s).drop i)=0:=by rw[hd]; simp only[qa5,if_neg h10,if_neg hc,if_neg h35]
   rw[e]
   refine .inr ?_
   rw[qab]
   cases hσ <;> simp[qac,qdu,V.len,h1,hlt,h10',h32',h9',h35',Wa]
theorem qo0(s:ByteArray)(hl:s.size<2 ^ 40){σ : S}(hσ : LxS s σ){i:Nat}(hi:i<=s.size):Z tP (.call 251 [.ptr 0 0,.int i] σ)=some (.ret (.int ((i+qa5 false ((byl s).drop i):Nat))) σ):=by
 rcases qi3 s hl hσ (s.size-i) i false (by omega) with ⟨h,v,z⟩|z
 ·rw[h]
  refine qaa (pf:=F251) rfl rfl ?_
  cases hσ <;> simp only[We,Wl,Nat.reduceAdd] at z<;>simp[F251,z,Wa]
 ·generalize i+qa5 false ((byl s).drop i)=j at z ⊢
  refine qaa (pf:=F251) rfl rfl ?_
  cases hσ <;> simp only[We,Wl,Nat.reduceAdd] at z<;>simp[F251,z,Wa]
end
section
open F
attribute [local simp] qbd qbY
abbrev tk5:Ob := .cells [.int 0,.str ⟨#[]⟩,.int 0,.int 0,.int 0]
theorem qi4 (s:ByteArray) (hl:s.size<2 ^ 40) {σ : S} (hσ : LxS s σ) (a:Int) : ∀ (m i:Nat),i+m=s.size ->
  Z tP (.loop σ.length F265l0 [(0,.ptr 0 0),(1,.int a),(4,.ptr σ.length 0),(5,.int i)] (σ ++ [tk5]))=some (.out (.exit 0) [(0,.ptr 0 0),(1,.int a),(4,.ptr σ.length 0),(5,.int ((i+qbF qaL ((byl s).drop i):Nat))),(34,.bool false)] (σ ++ [tk5]))
 |0,i,hi=>by
  obtain rfl:i=s.size:=by omega
  have hd:(byl s).drop s.size=[]:=WX (by rw[qaA]; exact Wk _)
  rw[qab,hd]
  cases hσ <;> simp[qac,qfn,V.len,qbF,Wa]
 |m+1,i,hi=>by
  obtain⟨c,h1,h2⟩:=qoq (s:=s) (i:=i) (by omega)
  have hd:=qg5 h2
  have hlt:(i:Int)<s.size:=by omega
  have w1:=qah ((i:Int)+1) (by omega)
  have zl:=qe0 c
  have zd:=qgv c
  have ih:=qi4 s hl hσ a m (i+1) (by omega)
  simp only[Ws,Wn] at ih
  by_cases hc:qaL c=true
  ·have e:(i:Int)+((qbF qaL ((byl s).drop (i+1)):Int)+1)=i+1+qbF qaL ((byl s).drop (i+1)):=by omega
   rw[qab,hd]
   simp only[qaL,Yb] at hc
   by_cases hcl:qaW c=true
   ·cases hσ <;> simp only[Wh,Wf,We,Wl,Nat.reduceAdd] at ih<;>simp[qac,qfn,V.len,qbF,h1,hlt,w1,zl,zd,hcl,ih,qaL,e,Wa]
   ·have hcd:qav c=true:=by rcases hc with h|h; exact absurd h hcl; exact h
    cases hσ <;> simp only[Wh,Wf,We,Wl,Nat.reduceAdd] at ih<;>simp[qac,qfn,V.len,qbF,h1,hlt,w1,zl,zd,hcl,hcd,ih,qaL,e,Wa]
  ·simp only[qaL,Yb,not_or] at hc
   rw[qab,hd]
   cases hσ <;> simp[qac,qfn,V.len,qbF,h1,hlt,w1,zl,zd,hc.1,hc.2,qaL,Wa]
abbrev ptD(k:Int)(t:ByteArray)(a v c:Int):V := .dat (.agg [.lit (.int .i64 k),.lit (.string t),.lit (.int .i64 a),.lit (.int .i64 v),.lit (.int .i64 c)])
def pkW(w:ByteArray):Int:=if w∈fieldNames then 3 else if w∈wordNames then 2 else if 8<w.size then 6 else 1
def pcW(w:ByteArray):Int:=if w∈fieldNames\/w∈wordNames then 0 else if 8<w.size then 2 else 0
theorem qtt(s:ByteArray)(hl:s.size<2 ^ 40){σ : S}(hσ : LxS s σ){i:Nat}(hi:i<=s.size):Z tP (.call 265 [.ptr 0 0,.int i] σ)=some (.ret (ptD (pkW (s.extract i (i+qbF qaL ((byl s).drop i)))) (s.extract i (i+qbF qaL ((byl s).drop i))) i 0 (pcW (s.extract i (i+qbF qaL ((byl s).drop i))))) σ):=by
 have z:=qi4 s hl hσ i (s.size-i) i (by omega)
 have hr:=qf7 qaL ((byl s).drop i)
 rw[W4,qaA] at hr
 generalize hq:i+qbF qaL ((byl s).drop i)=q at z ⊢
 have q1:(i:Int)<=q:=by omega
 have q2:(q:Int)<=s.size:=by omega
 have q3:(i:Int)<=s.size:=by omega
 have hk:=qts (s.extract i q)
 have hws:(s.extract i q).size<=s.size:=by rw[ByteArray.size_extract]; omega
 obtain⟨w,hw⟩ : ∃ w,s.extract i q=w:=⟨_,rfl⟩
 rw[hw] at hk hws ⊢
 refine qaa (pf:=F265) rfl rfl ?_
 unfold pkW pcW
 by_cases h1:w∈fieldNames
 ·rw[if_pos h1] at hk
  cases hσ <;> simp only[Wh,Wf,We,Wl,Nat.reduceAdd] at z<;>simp[F265,z,qch,bound,q1,q2,q3,hw,hk,h1,qeK,qbH,qaz,Wa]
 by_cases h2:w∈wordNames
 ·rw[if_neg h1,if_pos h2] at hk
  cases hσ <;> simp only[Wh,Wf,We,Wl,Nat.reduceAdd] at z<;>simp[F265,z,qch,bound,q1,q2,q3,hw,hk,h1,h2,qeK,qbH,qaz,Wa]
 rw[if_neg h1,if_neg h2] at hk
 by_cases h3:8<w.size
 ·have h3':(8:Int)<w.size:=by omega
  cases hσ <;> simp only[Wh,Wf,We,Wl,Nat.reduceAdd] at z<;>simp[F265,z,qch,bound,q1,q2,q3,hw,hk,h1,h2,h3,h3',V.len,qeK,qbH,qaz,Wa]
 ·have h3' : ¬ (8:Int)<w.size:=by omega
  cases hσ <;> simp only[Wh,Wf,We,Wl,Nat.reduceAdd] at z<;>simp[F265,z,qch,bound,q1,q2,q3,hw,hk,h1,h2,h3,h3',V.len,qeK,qbH,qaz,Wa]
def qqV(v:Nat)(l:List UInt8):Nat:=l.foldl (fun v c=>min (10*v+(c.toNat-48)) 2147483648) v
theorem qtu(l:List UInt8) : ∀ n,qqV (min n 2147483648) l=min (l.foldl (fun v c=>10*v+(c.toNat-48)) n) 2147483648:=by
 induction l with
 |nil=>intro n; rfl
 |cons c l ih=>
  intro n
  have:=ih (10*n+(c.toNat-48))
  simp only[qqV,W6] at this ⊢
  rw[<- this]
  congr 1
  omega
theorem qqW(l:List UInt8):qqV 0 l=min (digV l) 2147483648:=qtu l 0
theorem qk0 (s:ByteArray) (hl:s.size<2 ^ 40) {σ : S} (hσ : LxS s σ) (a:Int) : ∀ (m i v:Nat),i+m=s.size->v<=2147483648 ->
  Z tP (.loop σ.length F267l0 [(0,.ptr 0 0),(1,.int a),(4,.ptr σ.length 0),(5,.int i),(6,.int v)] (σ ++ [tk5]))=some (.out (.exit 0) [(0,.ptr 0 0),(1,.int a),(4,.ptr σ.length 0),(5,.int ((i+qbF qav ((byl s).drop i):Nat))),(6,.int (qqV v (((byl s).drop i).take (qbF qav ((byl s).drop i))))),(24,.bool false)] (σ ++ [tk5]))
 |0,i,v,hi,hv=>by
  obtain rfl:i=s.size:=by omega
  have hd:(byl s).drop s.size=[]:=WX (by rw[qaA]; exact Wk _)
  rw[qab,hd]
  cases hσ <;> simp[qac,qgP,V.len,qbF,qqV,Wa]
 |m+1,i,v,hi,hv=>by
  obtain⟨c,h1,h2⟩:=qoq (s:=s) (i:=i) (by omega)
  have hd:=qg5 h2
  have hlt:(i:Int)<s.size:=by omega
  have w1:=qah ((i:Int)+1) (by omega)
  have zd:=qgv c
  by_cases hc:qav c=true
  ·have hc2:48<=c.toNat/\c.toNat<=57:=by simpa [qav] using hc
   have ih:=qk0 s hl hσ a m (i+1) (min (10*v+(c.toNat-48)) 2147483648) (by omega) (Nat.min_le_right _ _)
   have e:(i:Int)+((qbF qav ((byl s).drop (i+1)):Int)+1)=i+1+qbF qav ((byl s).drop (i+1)):=by omega
   have es:qqV v (((byl s).drop i).take (qbF qav ((byl s).drop i)))=qqV (min (10*v+(c.toNat-48)) 2147483648) (((byl s).drop (i+1)).take (qbF qav ((byl s).drop (i+1)))):=by
    rw[hd]; simp[qbF,hc,qqV]
   rw[es]
   have er:i+qbF qav ((byl s).drop i)=i+1+qbF qav ((byl s).drop (i+1)):=by
    rw[hd]; simp[qbF,hc]; omega
   rw[er]
   have u0 : ∀ d:Nat,d<10->IntKind.u8.wrap (d:Int)=d:=by decide
   have u1:IntKind.u8.wrap ((c.toNat:Int)-48)=c.toNat-48:=by
    rw[show ((c.toNat:Int)-48)=((c.toNat-48:Nat):Int) by omega]; exact u0 _ (by omega)
   have u2:IntKind.i64.wrap ((c.toNat:Int)-48)=c.toNat-48:=qah _ (by omega)
   have u3:IntKind.i64.wrap (10*(v:Int))=10*v:=qah _ (by omega)
   have u4:IntKind.i64.wrap (10*(v:Int)+((c.toNat:Int)-48))=10*v+(c.toNat-48):=qah _ (by omega)
   have u5:(if 2147483648<10*(v:Int)+(c.toNat-48) then 2147483648 else 10*(v:Int)+(c.toNat-48))=((min (10*v+(c.toNat-48)) 2147483648:Nat):Int):=by split<;>omega
   generalize min (10*v+(c.toNat-48)) 2147483648=v' at ih u5 ⊢
   rw[<- ih,qab]
   cases hσ <;> simp[qac,qgP,V.len,h1,hlt,w1,zd,hc,u1,u2,u3,u4,u5,qqL,qjd,Wa]
  ·have e0:qbF qav ((byl s).drop i)=0:=by rw[hd]; simp[qbF,hc]
   rw[e0,qab]
   cases hσ <;> simp[qac,qgP,V.len,h1,hlt,zd,hc,qqV,Wa]
end
section
open F
attribute [local simp] qbd qbY
theorem qwO (s:ByteArray) (hl:s.size<2 ^ 40) {σ : S} (hσ : LxS s σ) {i:Nat} (hi:i<=s.size):Z tP (.call 267 [.ptr 0 0,.int i] σ) =
  some (.ret (ptD (if 2147483647<digV (((byl s).drop i).take (qbF qav ((byl s).drop i))) then 6 else 4) (s.extract i (i+qbF qav ((byl s).drop i))) i (min (digV (((byl s).drop i).take (qbF qav ((byl s).drop i)))) 2147483648:Nat) (if 2147483647<digV (((byl s).drop i).take (qbF qav ((byl s).drop i))) then 6 else 0)) σ):=by
 have z:=qk0 s hl hσ i (s.size-i) i 0 (by omega) (by omega)
 rw[qqW] at z
 have hr:=qf7 qav ((byl s).drop i)
 rw[W4,qaA] at hr
 generalize digV (((byl s).drop i).take (qbF qav ((byl s).drop i)))=n at z ⊢
 generalize hq:i+qbF qav ((byl s).drop i)=q at z ⊢
 have q1:(i:Int)<=q:=by omega
 have q2:(q:Int)<=s.size:=by omega
 have q3:(i:Int)<=s.size:=by omega
 obtain⟨w,hw⟩ : ∃ w,s.extract i q=w:=⟨_,rfl⟩
 rw[hw]
 refine qaa (pf:=F267) rfl rfl ?_
 by_cases hn:2147483647<n
 ·have e:min n 2147483648=2147483648:=by omega
  rw[e] at z ⊢
  rw[if_pos hn,if_pos hn]
  simp only[YC,Wn] at z
  cases hσ <;> simp only[Wh,Wf,We,Wl,Nat.reduceAdd] at z<;>simp[F267,z,qch,bound,q1,q2,q3,hw,Wa]
 ·have e:min n 2147483648=n:=by omega
  have hn' : ¬ (2147483647:Int)<n:=by omega
  rw[e] at z ⊢
  rw[if_neg hn,if_neg hn]
  simp only[YC] at z
  cases hσ <;> simp only[Wh,Wf,We,Wl,Nat.reduceAdd] at z<;>simp[F267,z,qch,bound,q1,q2,q3,hw,hn',Wa]
def qsF:ByteArray:=⟨#[123,125,91,93,40,41,61,59,44,60,62,43,45,42,47,33]⟩
theorem qtU(c:UInt8):decide (0<=firstIdx qsF c)=decide (c.toNat∈qj2):=by
 have h : ∀ n:_root_.Fin 256,decide (0<=firstIdx qsF n.val.toUInt8)=decide (n.val.toUInt8.toNat∈qj2):=by decide +kernel
 have:=h ⟨c.toNat,c.toNat_lt⟩
 simpa using this
theorem qwP(c:UInt8):Z tP (.call 268 [.str qsF,.dat (.lit (.int .u8 c.toNat))] [])=some (.ret (.int (firstIdx qsF c)) []):=by
 have z:Z tP (.call 275 [.str qsF,.dat (.lit (.int .u8 c.toNat))] [])=some (.ret (.int (firstIdx qsF c)) []):=by
  refine qaa (pf:=F275) rfl rfl ?_
  simp[F275]
 refine qaa (pf:=F268) rfl rfl ?_
 simp[F268,z]
def kindT(t:Tk):Int:=if t.bad≠0 then 6 else if t.s=⟨#[]⟩ then 0 else if qaG qaW t.s then (if t.s∈fieldNames then 3 else if t.s∈wordNames then 2 else 1) else if qaG qav t.s then 4 else 5
def qfB(t:Tk):ByteArray:=if t.bad=12 then ⟨#[]⟩ else t.s
def valT(t:Tk):Nat:=if qaG qav t.s then min (digV (byl t.s)) 2147483648 else 0
abbrev ptk(t:Tk):V:=ptD (kindT t) (qfB t) t.at_ (valT t) t.bad
end
section
open F
attribute [local simp] qbd qbY
theorem qec(p:UInt8->Bool)(c:UInt8)(r:List UInt8):qaG p (bs (c::r))=p c:=by rw[qbM,qdk]; rfl
theorem qo9{c:UInt8}(h:qaW c=true):qav c=false:=by
 simp only[qaW,qav,Wu,decide_eq_true_eq,W0,decide_eq_false_iff_not] at h ⊢
 omega
theorem qmS{p:UInt8->Bool}{c:UInt8}(r:List UInt8)(h:p c=true):(c::r).take (qbF p (c::r))=c::r.take (qbF p r):=by simp[qbF,h]
theorem qq3(s:ByteArray){σ : S}(hσ : LxS s σ):Z tP (.call 250 [.ptr 0 0,.int s.size] σ)=some (.ret (ptD 0 ⟨#[]⟩ s.size 0 0) σ):=by
 refine qaa (pf:=F250) rfl rfl ?_
 cases hσ <;> simp[F250,V.len,Wa]
theorem qq4(s:ByteArray){σ : S}(hσ : LxS s σ){i:Nat}(hi:i<s.size){c:UInt8}(h1:s[i]?=some c)(hc:qaW c=true){v:D}(ho:V.one (.dat v)=true){k n x e:Int}{t:ByteArray}(z:Z tP (.call 265 [.ptr 0 0,.int i] σ)=some (.ret (ptD k t n x e) σ)):Z tP (.call 250 [.ptr 0 0,.int i] σ)=some (.ret (ptD k t n x e) σ):=by
 have zl:=qe0 c
 have hne : ¬ (i:Int)=s.size:=by omega
 have hne' : ¬ i=s.size:=by omega
 refine qaa (pf:=F250) rfl rfl ?_
 cases hσ <;> simp[F250,V.len,h1,hne,hne',zl,hc,z,Wa]
theorem qq5(s:ByteArray){σ : S}(hσ : LxS s σ){i:Nat}(hi:i<s.size){c:UInt8}(h1:s[i]?=some c)(hl:qaW c=false)(hc:qav c=true){k n x e:Int}{t:ByteArray}(z:Z tP (.call 267 [.ptr 0 0,.int i] σ)=some (.ret (ptD k t n x e) σ)):Z tP (.call 250 [.ptr 0 0,.int i] σ)=some (.ret (ptD k t n x e) σ):=by
 have zl:=qe0 c
 have zd:=qgv c
 have hne : ¬ (i:Int)=s.size:=by omega
 have hne' : ¬ i=s.size:=by omega
 refine qaa (pf:=F250) rfl rfl ?_
 cases hσ <;> simp[F250,V.len,h1,hne,hne',zl,zd,hl,hc,z,Wa]
theorem qpa(s:ByteArray)(hs:s.size<2 ^ 40){σ : S}(hσ : LxS s σ){i:Nat}(hi:i+2<=s.size){c:UInt8}(h1:s[i]?=some c)(hl:qaW c=false)(hc:qav c=false){p:ByteArray}(hx:s.extract i (i+2)=p)(hp:p∈qd7):Z tP (.call 250 [.ptr 0 0,.int i] σ)=some (.ret (ptD 5 p i 0 0) σ):=by
 have zl:=qe0 c
 have zd:=qgv c
 have hne : ¬ (i:Int)=s.size:=by omega
 have hne' : ¬ i=s.size:=by omega
 have w2:=qah ((i:Int)+2) (by omega)
 have hle:(i:Int)+2<=s.size:=by omega
 have b1:(i:Int)<=s.size:=by omega
 have b2:(i:Int)<=(i:Int)+2:=by omega
 have b3:(0:Int)<=(i:Int)+2:=by omega
 have b4:((i:Int)+2).toNat=i+2:=by omega
 simp only[qd7,bs,Wq,Ww,or_false] at hp
 refine qaa (pf:=F250) rfl rfl ?_
 rcases hp with rfl|rfl|rfl|rfl|rfl|rfl<;>cases hσ <;> simp[F250,V.len,h1,hne,hne',zl,zd,hl,hc,w2,hle,qch,bound,b1,b2,b3,b4,hx,qbh,Wa]
theorem qq6(s:ByteArray)(hs:s.size<2 ^ 40){σ : S}(hσ : LxS s σ){i:Nat}(hi:i<s.size){c:UInt8}(h1:s[i]?=some c)(hl:qaW c=false)(hc:qav c=false)(hp:i+2<=s.size->s.extract i (i+2)∉qd7){x:ByteArray}(hx:s.extract i (i+1)=x):Z tP (.call 250 [.ptr 0 0,.int i] σ)=some (.ret (if c.toNat∈qj2 then ptD 5 x i 0 0 else ptD 6 ⟨#[]⟩ i 0 12) σ):=by
 have zl:=qe0 c
 have zd:=qgv c
 have zx:=qwP c
 have hm:=qtU c
 obtain⟨j,hj0⟩ : ∃ j,firstIdx qsF c=j:=⟨_,rfl⟩
 rw[hj0] at zx hm
 simp only[qsF] at zx
 have hne : ¬ (i:Int)=s.size:=by omega
 have hne' : ¬ i=s.size:=by omega
 have w1:=qah ((i:Int)+1) (by omega)
 have w2:=qah ((i:Int)+2) (by omega)
 have a1:(i:Int)+1<=s.size:=by omega
 have a2:(i:Int)<=(i:Int)+1:=by omega
 have a3:(0:Int)<=(i:Int)+1:=by omega
 have a4:((i:Int)+1).toNat=i+1:=by omega
 have b1:(i:Int)<=s.size:=by omega
 have b2:(i:Int)<=(i:Int)+2:=by omega
 have b3:(0:Int)<=(i:Int)+2:=by omega
 have b4:((i:Int)+2).toNat=i+2:=by omega
 by_cases hle:i+2<=s.size
 ·have hle':(i:Int)+2<=s.size:=by omega
  have hp':=hp hle
  generalize hy:s.extract i (i+2)=y at hp'
  simp only[qd7,bs,Wq,Ww,or_false,not_or] at hp'
  obtain⟨n1,n2,n3,n4,n5,n6⟩:=hp'
  refine qaa (pf:=F250) rfl rfl ?_
  by_cases hk:c.toNat∈qj2
  ·have hj:(0:Int)<=j:=by simpa [hk] using hm
   rw[if_pos hk]
   cases hσ <;> simp[F250,V.len,h1,hne,hne',zl,zd,zx,hl,hc,w1,w2,hle',qch,bound,a1,a2,a3,a4,b1,b2,b3,b4,hx,hy,n1,n2,n3,n4,n5,n6,hj,qbh,Wa]
  ·have hj : ¬ (0:Int)<=j:=by simpa [hk] using hm
   rw[if_neg hk]
   cases hσ <;> simp[F250,V.len,h1,hne,hne',zl,zd,zx,hl,hc,w1,w2,hle',qch,bound,a1,a2,a3,a4,b1,b2,b3,b4,hx,hy,n1,n2,n3,n4,n5,n6,hj,qbh,Wa]
 ·have hle' : ¬ (i:Int)+2<=s.size:=by omega
  refine qaa (pf:=F250) rfl rfl ?_
  by_cases hk:c.toNat∈qj2
  ·have hj:(0:Int)<=j:=by simpa [hk] using hm
   rw[if_pos hk]
   cases hσ <;> simp[F250,V.len,h1,hne,hne',zl,zd,zx,hl,hc,w1,w2,hle',qch,bound,a1,a2,a3,a4,hx,hj,qbh,Wa]
  ·have hj : ¬ (0:Int)<=j:=by simpa [hk] using hm
   rw[if_neg hk]
   cases hσ <;> simp[F250,V.len,h1,hne,hne',zl,zd,zx,hl,hc,w1,w2,hle',qch,bound,hj,qbh,Wa]
end
section
open F
theorem qtB{c:UInt8}{r:List UInt8}:bs (c::r)≠⟨#[]⟩:=fun h=>by
 have:=congrArg ByteArray.size h
 rw[qbq,We] at this
 exact absurd this (by show ¬ r.length+1=0; omega)
theorem qsD(s:ByteArray)(hl:s.size<2 ^ 40){σ : S}(hσ : LxS s σ){i:Nat}(hi:i<=s.size):Z tP (.call 250 [.ptr 0 0,.int i] σ)=some (.ret (ptk (tokAt 12 2 6 s i)) σ):=by
 by_cases hend:i=s.size
 ·subst hend
  have hd:(byl s).drop s.size=[]:=WX (by rw[qaA]; exact Wk _)
  have e:tokAt 12 2 6 s s.size=⟨s.size,⟨#[]⟩,0⟩:=by rw[qdV,hd]; rfl
  rw[e]
  exact qq3 s hσ
 have hi':i<s.size:=by omega
 obtain⟨c,h1,h2⟩:=qoq hi'
 have hd:=qg5 h2
 rw[qdV,hd]
 by_cases hlet:qaW c=true
 ·have hw:qaL c=true:=by simp[qaL,hlet]
  have ht:=qmS ((byl s).drop (i+1)) hw
  have htok:tokL 12 2 6 (c::(byl s).drop (i+1))=(c::((byl s).drop (i+1)).take (qbF qaL ((byl s).drop (i+1))),if 8<qbF qaL (c::(byl s).drop (i+1))/\bs (c::((byl s).drop (i+1)).take (qbF qaL ((byl s).drop (i+1))))∉fieldNames/\bs (c::((byl s).drop (i+1)).take (qbF qaL ((byl s).drop (i+1))))∉wordNames then 2 else 0):=by
   simp only[tokL,hlet,if_true,ht]
  have z:=qtt s hl hσ hi
  rw[qcA,hd,ht] at z
  have hsz:(bs (c::((byl s).drop (i+1)).take (qbF qaL ((byl s).drop (i+1))))).size=qbF qaL (c::(byl s).drop (i+1)):=by
   rw[qbq,<- ht,WR,Nat.min_eq_left (qf7 _ _)]
  rw[htok]
  have s1:=qec qaW c (((byl s).drop (i+1)).take (qbF qaL ((byl s).drop (i+1))))
  have s2:=qec qav c (((byl s).drop (i+1)).take (qbF qaL ((byl s).drop (i+1))))
  have hne:=qtB (c:=c) (r:=((byl s).drop (i+1)).take (qbF qaL ((byl s).drop (i+1))))
  rw[hlet] at s1
  rw[qo9 hlet] at s2
  rw[<- hsz]
  generalize bs (c::((byl s).drop (i+1)).take (qbF qaL ((byl s).drop (i+1))))=w at *
  have e:ptk ⟨i,w,if 8<w.size/\w∉fieldNames/\w∉wordNames then 2 else 0⟩=ptD (pkW w) w i 0 (pcW w):=by
   have hb:((if 8<w.size/\w∉fieldNames/\w∉wordNames then 2 else 0:Nat):Int)=pcW w:=by
    unfold pcW
    by_cases a:w∈fieldNames<;>by_cases b:w∈wordNames<;>by_cases d:8<w.size<;>simp[a,b,d]
   have hk:kindT ⟨i,w,if 8<w.size/\w∉fieldNames/\w∉wordNames then 2 else 0⟩=pkW w:=by
    unfold pkW kindT
    by_cases a:w∈fieldNames<;>by_cases b:w∈wordNames<;>by_cases d:8<w.size<;>simp[a,b,d,hne,s1]
   have hx:qfB ⟨i,w,if 8<w.size/\w∉fieldNames/\w∉wordNames then 2 else 0⟩=w:=by
    unfold qfB
    by_cases a:8<w.size/\w∉fieldNames/\w∉wordNames<;>simp[a]
   unfold ptk
   rw[hk,hx,hb]
   simp[valT,s2]
  rw[e]
  exact qq4 s hσ hi' h1 hlet (v := .lit (.bool true)) rfl z
 have hlet':qaW c=false:=by simpa using hlet
 by_cases hdig:qav c=true
 ·have ht:=qmS ((byl s).drop (i+1)) hdig
  have htok:tokL 12 2 6 (c::(byl s).drop (i+1))=(c::((byl s).drop (i+1)).take (qbF qav ((byl s).drop (i+1))),if 2147483647<digV (c::((byl s).drop (i+1)).take (qbF qav ((byl s).drop (i+1)))) then 6 else 0):=by
   simp only[tokL,hlet',hdig,if_true,Wo,if_false,ht]
  have z:=qwO s hl hσ hi
  rw[qcA,hd,ht] at z
  rw[htok]
  have s1:=qec qaW c (((byl s).drop (i+1)).take (qbF qav ((byl s).drop (i+1))))
  have s2:=qec qav c (((byl s).drop (i+1)).take (qbF qav ((byl s).drop (i+1))))
  have hne:=qtB (c:=c) (r:=((byl s).drop (i+1)).take (qbF qav ((byl s).drop (i+1))))
  rw[hlet'] at s1
  rw[hdig] at s2
  have hbl:=qdk (c::((byl s).drop (i+1)).take (qbF qav ((byl s).drop (i+1))))
  generalize c::((byl s).drop (i+1)).take (qbF qav ((byl s).drop (i+1)))=l at *
  have e:ptk ⟨i,bs l,if 2147483647<digV l then 6 else 0⟩=ptD (if 2147483647<digV l then 6 else 4) (bs l) i (min (digV l) 2147483648:Nat) (if 2147483647<digV l then 6 else 0):=by
   unfold ptk kindT qfB valT
   by_cases a:2147483647<digV l<;>simp[a,hne,s1,s2,hbl]
  rw[e]
  exact qq5 s hσ hi' h1 hlet' hdig z
 have hdig':qav c=false:=by simpa using hdig
 by_cases hp:bs ((c::(byl s).drop (i+1)).take 2)∈qd7
 ·have htok:tokL 12 2 6 (c::(byl s).drop (i+1))=((c::(byl s).drop (i+1)).take 2,0):=by
   simp only[tokL,hlet',hdig',if_pos hp,Wo,if_false]
  have hsz:=qfx hp
  rw[qbq,WR,We,W4,qaA] at hsz
  have z:=qpa s hl hσ (i:=i) (by omega) h1 hlet' hdig' (p:=bs ((c::(byl s).drop (i+1)).take 2)) (by rw[qcA,hd]) hp
  rw[htok,z]
  have e:ptk ⟨i,bs ((c::(byl s).drop (i+1)).take 2),0⟩=ptD 5 (bs ((c::(byl s).drop (i+1)).take 2)) i 0 0:=by
   generalize bs ((c::(byl s).drop (i+1)).take 2)=w at hp
   simp only[qd7,Wq,Ww,or_false] at hp
   rcases hp with rfl|rfl|rfl|rfl|rfl|rfl<;>rfl
  rw[e]
 ·have z:=qq6 s hl hσ hi' h1 hlet' hdig' (fun h=>by rw[qcA,hd]; exact hp) (x:=bs [c]) (by rw[qcA,hd]; rfl)
  rw[z]
  have s1:=qec qaW c []
  have s2:=qec qav c []
  by_cases hs:c.toNat∈qj2
  ·have htok:tokL 12 2 6 (c::(byl s).drop (i+1))=([c],0):=by simp only[tokL,hlet',hdig',if_neg hp,if_pos hs,Wo,if_false]
   rw[htok,if_pos hs]
   have e:ptk ⟨i,bs [c],0⟩=ptD 5 (bs [c]) i 0 0:=by
    unfold ptk kindT qfB valT
    simp[s1,s2,hlet',hdig',qtB]
   rw[e]
  ·have htok:tokL 12 2 6 (c::(byl s).drop (i+1))=([c],12):=by simp only[tokL,hlet',hdig',if_neg hp,if_neg hs,Wo,if_false]
   rw[htok,if_neg hs]
   have e:ptk ⟨i,bs [c],12⟩=ptD 6 ⟨#[]⟩ i 0 12:=by
    unfold ptk kindT qfB valT
    simp[s2,hdig']
   rw[e]
end
section
@[simp] def qvB:Nat->PC->PC
 |n+1,.seq a b => .seq a (qvB n b)
 |0,_ => .skip
 |_,p=>p
end
section
open F
attribute [local simp] qbd qbY
theorem qld(s:ByteArray):Z tP (.call 241 [.ptr 0 0] [pO s 1 (.dat (.lit (.slice none 0 0))) 0 0 12,.map kwM])=some (.ret (.fn 249 [] [.ptr 2 0]) [pO s 1 (.dat (.lit (.slice none 0 0))) 0 0 12,.map kwM,.cells [.ptr 0 0]]):=by
 refine qaa (pf:=F241) rfl rfl ?_
 simp[F241,Wa]
abbrev lp8:Ob := .loop ⟨[(2,.ptr 2 0),(3,.ptr 3 0),(4,.ptr 4 0),(5,.ptr 5 0),(19,.fn 249 [] [.ptr 1 0])],[20],F228a0,F228b0,0,none⟩
abbrev TT0(s:ByteArray):S:=[lp8,.cells [.ptr 6 0],qvW,.cells [.int 0],.cells [.int 0],.cells [.ptr 6 0],pO s 7 (.dat (.lit (.slice none 0 0))) 0 0 12,.map kwM]
abbrev TT1(s:ByteArray)(cs:List D)(n:Nat):S:=[lp8,.cells [.ptr 6 0],qvW,.cells [.int 0],.cells [.int 0],.cells [.ptr 6 0],pO s 7 (.gsl cs n 5 8) 0 0 12,.map kwM,.tip cs.length]
abbrev lpR:Ob := .loop ⟨[(2,.ptr 1 0),(3,.ptr 2 0),(4,.ptr 3 0),(5,.ptr 4 0),(19,.fn 249 [] [.ptr 5 0])],[20],F228a0,F228b0,0,none⟩
abbrev Q0(s:ByteArray):S:=[lpR,qvW,.cells [.int 0],.cells [.int 0],.cells [.ptr 6 0],.cells [.ptr 6 0],pO s 7 (.dat (.lit (.slice none 0 0))) 0 0 12,.map kwM]
abbrev Q1(s:ByteArray)(cs:List D)(n:Nat):S:=[lpR,qvW,.cells [.int 0],.cells [.int 0],.cells [.ptr 6 0],.cells [.ptr 6 0],pO s 7 (.gsl cs n 5 8) 0 0 12,.map kwM,.tip cs.length]
def qho(k:Int)(t:ByteArray)(a v c:Int):List D:=[.lit (.int .i64 k),.lit (.string t),.lit (.int .i64 a),.lit (.int .i64 v),.lit (.int .i64 c)]
section
variable{s:ByteArray}{k a v c:Int}{t:ByteArray}
theorem qAg:Z tP (.round [.yld 0,ptD k t a v c] (Q0 s))=some (.ret (.bool true) (Q1 s (qho k t a v c) 1)):=by
 have r1:qaK 1 48=true:=by simp only[qaK,decide_eq_true_eq]; omega
 rw[qcL]
 simp[qbt,qia,qib,qi9,qja,qc6,Lp.ended,Ex.isNormal,V.len,qcu,qmQ,r1,qho,dkey,qbH,qaz,Wa]
theorem qAh{cs:List D}{n:Nat}(hc:cs.length=n*5)(h0:0<n)(hn:n<2 ^ 30):Z tP (.round [.yld 0,ptD k t a v c] (Q1 s cs n))=some (.ret (.bool true) (Q1 s (cs++qho k t a v c) (n+1))):=by
 have r1:qaK (n+1) 48=true:=by simp only[qaK,decide_eq_true_eq]; omega
 have hne : ¬ n=0:=by omega
 rw[qcL]
 simp[qbt,qia,qib,qi9,qja,qc6,Lp.ended,Ex.isNormal,V.len,qcu,qmQ,r1,hc,hne,qho,dkey,qbH,qaz,Wa]
end
abbrev tkO(k:Int)(t:ByteArray)(a v c:Int):Ob := .cells [.int k,.str t,.int a,.int v,.int c]
section
variable{s:ByteArray}{i j:Nat}{k a v c:Int}{t:ByteArray}
theorem qri
  (zs:Z tP (.call 251 [.ptr 0 0,.int i] [pO s 1 (.dat (.lit (.slice none 0 0))) 0 0 12,.map kwM])=some (.ret (.int j) [pO s 1 (.dat (.lit (.slice none 0 0))) 0 0 12,.map kwM]))
  (zc:Z tP (.call 250 [.ptr 0 0,.int j] [pO s 1 (.dat (.lit (.slice none 0 0))) 0 0 12,.map kwM])=some (.ret (ptD k t a v c) [pO s 1 (.dat (.lit (.slice none 0 0))) 0 0 12,.map kwM]))
  (ha:IntKind.i64.wrap (a+t.size)=a+t.size) (h0:decide (k=0)=false) (h6:decide (k=6)=false) :
  Z tP (.loop 8 F249l0 [(0,.yld 0),(1,.ptr 1 0),(3,.int i)] (TT0 s))=Z tP (.loop 8 F249l0 [(0,.yld 0),(1,.ptr 1 0),(3,.int (a+t.size))] (TT1 s (qho k t a v c) 1)):=by
 have zr:=qAg (s:=s) (k:=k) (a:=a) (v:=v) (c:=c) (t:=t)
 simp only[pO,ptD,qho] at zs zc zr
 conv=>lhs; rw[qab]
 simp[qac,qfm,zs,zc,zr,V.len,ha,h0,h6,qho,qbH,qaz,Wa]
 exact qai (by simp[Wa])
theorem qrj
  (zs:Z tP (.call 251 [.ptr 0 0,.int i] [pO s 1 (.dat (.lit (.slice none 0 0))) 0 0 12,.map kwM])=some (.ret (.int j) [pO s 1 (.dat (.lit (.slice none 0 0))) 0 0 12,.map kwM]))
  (zc:Z tP (.call 250 [.ptr 0 0,.int j] [pO s 1 (.dat (.lit (.slice none 0 0))) 0 0 12,.map kwM])=some (.ret (ptD k t a v c) [pO s 1 (.dat (.lit (.slice none 0 0))) 0 0 12,.map kwM]))
  (h:k=0\/k=6) :
  Z tP (.loop 8 F249l0 [(0,.yld 0),(1,.ptr 1 0),(3,.int i)] (TT0 s))=some (.out .ret [(0,.yld 0),(1,.ptr 1 0),(4,.ptr 8 0),(23,.bool true)] [lp8,.cells [.ptr 6 0],qvW,.cells [.int 0],.cells [.int 0],.cells [.ptr 6 0],pO s 7 (.gsl (qho k t a v c) 1 5 9) 0 0 12,.map kwM,tkO k t a v c,.tip 5]):=by
 have zr:=qAg (s:=s) (k:=k) (a:=a) (v:=v) (c:=c) (t:=t)
 simp only[pO,ptD,qho] at zs zc zr
 rw[qab]
 rcases h with rfl|rfl<;>simp[qac,qfm,zs,zc,zr,V.len,qho,qbH,qaz,Wa]
theorem qrk {cs:List D} {n:Nat} (hc:cs.length=n*5) (hn0:0<n) (hn:n<2 ^ 30)
  (zs:Z tP (.call 251 [.ptr 0 0,.int i] [pO s 1 (.gsl cs n 5 2) 0 0 12,.map kwM,.tip cs.length])=some (.ret (.int j) [pO s 1 (.gsl cs n 5 2) 0 0 12,.map kwM,.tip cs.length]))
  (zc:Z tP (.call 250 [.ptr 0 0,.int j] [pO s 1 (.gsl cs n 5 2) 0 0 12,.map kwM,.tip cs.length])=some (.ret (ptD k t a v c) [pO s 1 (.gsl cs n 5 2) 0 0 12,.map kwM,.tip cs.length]))
  (ha:IntKind.i64.wrap (a+t.size)=a+t.size) (h0:decide (k=0)=false) (h6:decide (k=6)=false) :
  Z tP (.loop 8 F249l0 [(0,.yld 0),(1,.ptr 1 0),(3,.int i)] (TT1 s cs n))=Z tP (.loop 8 F249l0 [(0,.yld 0),(1,.ptr 1 0),(3,.int (a+t.size))] (TT1 s (cs++qho k t a v c) (n+1))):=by
 have zr:=qAh (s:=s) (k:=k) (a:=a) (v:=v) (c:=c) (t:=t) hc hn0 hn
 simp only[pO,ptD,qho] at zs zc zr
 conv=>lhs; rw[qab]
 simp[qac,qfm,zs,zc,zr,V.len,ha,h0,h6,qho,qbH,qaz,Wa]
 exact qai (by simp[Wa])
theorem qrl {cs:List D} {n:Nat} (hc:cs.length=n*5) (hn0:0<n) (hn:n<2 ^ 30)
  (zs:Z tP (.call 251 [.ptr 0 0,.int i] [pO s 1 (.gsl cs n 5 2) 0 0 12,.map kwM,.tip cs.length])=some (.ret (.int j) [pO s 1 (.gsl cs n 5 2) 0 0 12,.map kwM,.tip cs.length]))
  (zc:Z tP (.call 250 [.ptr 0 0,.int j] [pO s 1 (.gsl cs n 5 2) 0 0 12,.map kwM,.tip cs.length])=some (.ret (ptD k t a v c) [pO s 1 (.gsl cs n 5 2) 0 0 12,.map kwM,.tip cs.length]))
  (h:k=0\/k=6) :
  Z tP (.loop 8 F249l0 [(0,.yld 0),(1,.ptr 1 0),(3,.int i)] (TT1 s cs n))=some (.out .ret [(0,.yld 0),(1,.ptr 1 0),(4,.ptr 9 0),(23,.bool true)] (TT1 s (cs++qho k t a v c) (n+1)++[tkO k t a v c])):=by
 have zr:=qAh (s:=s) (k:=k) (a:=a) (v:=v) (c:=c) (t:=t) hc hn0 hn
 simp only[pO,ptD,qho] at zs zc zr
 rw[qab]
 rcases h with rfl|rfl<;>simp[qac,qfm,zs,zc,zr,V.len,qho,qbH,qaz,Wa]
end
end
section
open F
attribute [local simp] qbd qbY
abbrev ptT(t:Tk):List D:=qho (kindT t) (qfB t) t.at_ (valT t) t.bad
def ptC:List Tk->List D
 |[]=>[]
 |t::r=>ptT t++ptC r
theorem qgF(t:Tk):(kindT t=0\/kindT t=6)↔(t.bad≠0\/t.s.size=0):=by
 have he:t.s=⟨#[]⟩↔t.s.size=0:=⟨fun h=>by rw[h]; rfl,fun h=>by
  have:=qfM t.s
  have hb:byl t.s=[]:=WH (by rw[qaA]; exact h)
  rw[hb] at this
  exact this.symm⟩
 unfold kindT
 by_cases hb:t.bad=0
 ·by_cases h0:t.s=⟨#[]⟩
  ·simp[hb,h0]
   rfl
  ·have h0' : ¬ t.s.size=0:=fun h=>h0 (he.2 h)
   simp only[hb,h0,h0',ne_eq,not_true_eq_false,if_false,false_or,or_self,iff_false]
   split<;>(try split)<;>(try split)<;>omega
 ·simp[hb]
theorem qao{t:Tk}(h:t.bad=0):qfB t=t.s:=by unfold qfB; rw[h]; rfl
theorem qr8(s:ByteArray){i:Nat}(hi:i<=s.size):qh6 s (s.size-i) false i=i+qa5 false ((byl s).drop i)/\i+qa5 false ((byl s).drop i)<=s.size:=by
 refine⟨qkx s _ false i (Wk _),?_⟩
 have:=qhU ((byl s).drop i) false
 rw[W4,qaA] at this
 omega
theorem qny(s:ByteArray)(n:Nat){i:Nat}(hi:i<=s.size){t:Tk}(ht:tokAt 12 2 6 s (i+qa5 false ((byl s).drop i))=t):qcf 12 2 6 s (n+1) i=if t.bad≠0\/t.s.size=0 then [t] else t::qcf 12 2 6 s n (t.at_+t.s.size):=by
 rw[qcf,(qr8 s hi).1,ht]
theorem qs9(s:ByteArray){i:Nat}(hi:i<=s.size){t:Tk}(ht:tokAt 12 2 6 s (i+qa5 false ((byl s).drop i))=t)(h : ¬ (t.bad≠0\/t.s.size=0)):i<t.at_+t.s.size/\t.at_+t.s.size<=s.size:=by
 obtain⟨_,h2⟩:=qr8 s hi
 have hij:i<=i+qa5 false ((byl s).drop i):=by omega
 generalize i+qa5 false ((byl s).drop i)=j at ht h2 hij
 by_cases hj:j<s.size
 ·have hp:=qlJ hj 12 2 6
  have ha:t.at_=j:=by rw[<- ht,qdV]
  rw[ht] at hp
  omega
 ·obtain rfl:j=s.size:=by omega
  have hd:(byl s).drop s.size=[]:=WX (by rw[qaA]; exact Wk _)
  exfalso
  apply h
  rw[<- ht,qdV,hd]
  exact .inr rfl
theorem qjC (s:ByteArray) (hl:s.size<2 ^ 29) : ∀ (n i:Nat) (cs:List D) (m:Nat),s.size-i<n->i<=s.size->0<m->cs.length=m*5->m+(s.size-i)<2 ^ 30 ->
  ∃ k t a v c,Z tP (.loop 8 F249l0 [(0,.yld 0),(1,.ptr 1 0),(3,.int i)] (TT1 s cs m))=some (.out .ret [(0,.yld 0),(1,.ptr 1 0),(4,.ptr 9 0),(23,.bool true)] (TT1 s (cs++ptC (qcf 12 2 6 s n i)) (m+(qcf 12 2 6 s n i).length)++[tkO k t a v c]))
 |0,i,cs,m,h,_,_,_,_=>by omega
 |n+1,i,cs,m,hn,hi,h0,hc,hm=>by
  obtain⟨j1,j2⟩:=qr8 s hi
  have zs:=qo0 s (by omega) (LxS.gr cs m cs.length 0 0 12) hi
  have zc:=qsD s (by omega) (LxS.gr cs m cs.length 0 0 12) j2
  obtain⟨t,ht⟩ : ∃ t,tokAt 12 2 6 s (i+qa5 false ((byl s).drop i))=t:=⟨_,rfl⟩
  rw[qny s n hi ht]
  rw[ht] at zc
  by_cases hend:t.bad≠0\/t.s.size=0
  ·rw[if_pos hend]
   have z:=qrl hc h0 (by omega) zs zc ((qgF t).2 hend)
   simp only[ptC,WJ,Wi]
   exact⟨_,_,_,_,_,z⟩
  ·rw[if_neg hend]
   obtain⟨q1,q2⟩:=qs9 s hi ht hend
   have hb:t.bad=0:=by simp only[not_or,ne_eq,Decidable.not_not] at hend; exact hend.1
   have hk : ¬ (kindT t=0\/kindT t=6):=fun h=>hend ((qgF t).1 h)
   simp only[not_or] at hk
   have z:=qrk hc h0 (by omega) zs zc (by rw[qao hb,qah _ (by omega)]) (decide_eq_false hk.1) (decide_eq_false hk.2)
   have hT:qho (kindT t) t.s t.at_ (valT t) t.bad=ptT t:=by show _=qho (kindT t) (qfB t) t.at_ (valT t) t.bad; rw[qao hb]
   rw[qao hb,hT] at z
   obtain⟨k,x,a,v,c,ih⟩:=qjC s hl n (t.at_+t.s.size) (cs++ptT t) (m+1) (by omega) q2 (by omega) (by rw[Wc,hc]; simp only[qho,We,Wl]; omega) (by omega)
   refine⟨k,x,a,v,c,z.trans ?_⟩
   have e1:((t.at_:Int)+t.s.size)=((t.at_+t.s.size:Nat):Int):=by omega
   rw[e1,ih]
   simp only[ptC,Wt,We]
   rw[show m+1+(qcf 12 2 6 s n (t.at_+t.s.size)).length=m+((qcf 12 2 6 s n (t.at_+t.s.size)).length+1) by omega]
theorem qql(s:ByteArray)(hl:s.size<2 ^ 29):Z tP (.call 249 [.yld 0,.ptr 1 0] (TT0 s))=some (.ret (.tup []) (TT1 s (ptC (qkE s)) (qkE s).length)):=by
 obtain⟨j1,j2⟩:=qr8 s (i:=0) (by omega)
 have zs:=qo0 s (by omega) (LxS.nil 0 0 12) (i:=0) (by omega)
 have zc:=qsD s (by omega) (LxS.nil 0 0 12) j2
 obtain⟨t,ht⟩ : ∃ t,tokAt 12 2 6 s (0+qa5 false ((byl s).drop 0))=t:=⟨_,rfl⟩
 have hn:=qny s s.size (i:=0) (by omega) ht
 rw[show qkE s=qcf 12 2 6 s (s.size+1) 0 from rfl,hn]
 rw[ht] at zc
 by_cases hend:t.bad≠0\/t.s.size=0
 ·rw[if_pos hend]
  have z:=qrj zs zc ((qgF t).2 hend)
  simp only[YC] at z
  refine qaa (pf:=F249) rfl rfl ?_
  simp[F249,z,ptC,qho,Wa]
 ·rw[if_neg hend]
  obtain⟨q1,q2⟩:=qs9 s (i:=0) (by omega) ht hend
  have hb:t.bad=0:=by simp only[not_or,ne_eq,Decidable.not_not] at hend; exact hend.1
  have hk : ¬ (kindT t=0\/kindT t=6):=fun h=>hend ((qgF t).1 h)
  simp only[not_or] at hk
  have z:=qri zs zc (by rw[qao hb,qah _ (by omega)]) (decide_eq_false hk.1) (decide_eq_false hk.2)
  have hT:qho (kindT t) t.s t.at_ (valT t) t.bad=ptT t:=by show _=qho (kindT t) (qfB t) t.at_ (valT t) t.bad; rw[qao hb]
  rw[qao hb,hT] at z
  obtain⟨k,x,a,v,c,ih⟩:=qjC s hl s.size (t.at_+t.s.size) (ptT t) 1 (by omega) q2 (by omega) (by simp only[qho,We,Wl]) (by omega)
  have e1:((t.at_:Int)+t.s.size)=((t.at_+t.s.size:Nat):Int):=by omega
  rw[e1,ih] at z
  simp only[YC] at z
  have e2:ptT t++ptC (qcf 12 2 6 s s.size (t.at_+t.s.size))=ptC (t::qcf 12 2 6 s s.size (t.at_+t.s.size)):=rfl
  rw[e2] at z
  have e3:1+(qcf 12 2 6 s s.size (t.at_+t.s.size)).length=(t::qcf 12 2 6 s s.size (t.at_+t.s.size)).length:=by rw[We]; omega
  rw[e3] at z
  generalize t::qcf 12 2 6 s s.size (t.at_+t.s.size)=T at z ⊢
  refine qaa (pf:=F249) rfl rfl ?_
  simp[F249,z,Wa]
end
end Go.Pm
