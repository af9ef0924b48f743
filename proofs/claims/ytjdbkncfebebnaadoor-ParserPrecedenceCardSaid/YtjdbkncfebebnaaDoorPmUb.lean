/- Equal, of the program and of the reference: equal but for marks. The abstract machine's program, printed by a program of our own: group 01n. The abstract machine's programs: tables of functions. strconv: how many digits; the tables of two digits and of lengths, as parameters. -/
import Derived.Test.YtjdbkncfebebnaaDoorPmYh
import Derived.Test.YtjdbkncfebebnaaDoorPmG3
import Derived.Test.YtjdbkncfebebnaaDoorPmFx
import Derived.Laws.BitsAllLaws
import Derived.Laws.Bits64
set_option linter.unusedSimpArgs false
set_option linter.unusedVariables false
section SUb
namespace Go.Pm
open F
set_option maxHeartbeats 4000000
abbrev quN (k n:Int) (s:ByteArray) (d:D) (k' n':Int) (s':ByteArray) (d':D):S:=[.cells [.int k,.int n,.str s,.dat d],.cells [.int k',.int n',.str s',.dat d']]
def ndEq (k n:Int) (s:ByteArray) (a:Fo) (k' n':Int) (s':ByteArray) (b:Fo):Bool:=(decide (k=k')&&(decide (n=n')&&decide (s=s')))&&a.eqv b
def qxP (a b:Fo):Prop := ∀ (k n:Int) (s:ByteArray) (f:Bool) (k' n':Int) (s':ByteArray) (f':Bool),Z tE (.call 235 [nd k n s f a,nd k' n' s' f' b] [])=some (.ret (.bool (ndEq k n s a k' n' s' b)) [])
def qxQ (a:Fo):Prop := ∀ (b:Fo) (ca cb:List D) (m i:Nat) (k n:Int) (s:ByteArray) (f:Bool) (k' n':Int) (s':ByteArray) (f':Bool),ca.drop (i*4)=a.cells->cb.drop (i*4)=b.cells->a.len=b.len->i+a.len=m->m<2 ^ 30 ->
 Z tE (.loop 0 F235l0 [(2,.ptr 0 0),(3,.ptr 1 0),(36,.int m),(37,.int i)] (quN k n s (.sl ca m f) k' n' s' (.sl cb m f')))=some (if a.eqv b then .out (.exit 0) [(2,.ptr 0 0),(3,.ptr 1 0),(36,.int m),(37,.int m),(38,.bool false)] (quN k n s (.sl ca m f) k' n' s' (.sl cb m f')) else .out .ret [(4,.bool false)] (quN k n s (.sl ca m f) k' n' s' (.sl cb m f')))
theorem qrI {a:Fo} (hq:qxQ a) (ha:a.len<2 ^ 30) (b:Fo):qxP a b:=by
 intro k n s f k' n' s' f'
 refine Z_call (pf:=F235) rfl rfl ?_
 unfold ndEq
 by_cases h1:k=k'
 ·by_cases h2:n=n'
  ·by_cases h3:s=s'
   ·subst h1 h2 h3
    by_cases h4:a.len=b.len
    ·cases hl:a.len with
     | zero=>
      have hb:b.len=0:=by omega
      have e:a.eqv b=true:=by
       cases a with
       | nil=>cases b with | nil=>rfl | cons=>simp at hb
       | cons=>simp at hl
      have z0:Z tE (.loop 0 F235l0 [(2,.ptr 0 0),(3,.ptr 1 0),(36,.int 0),(37,.int 0)] (quN k n s (.lit (.slice none 0 0)) k n s (.lit (.slice none 0 0))))=some (.out (.exit 0) [(2,.ptr 0 0),(3,.ptr 1 0),(36,.int 0),(37,.int 0),(38,.bool false)] (quN k n s (.lit (.slice none 0 0)) k n s (.lit (.slice none 0 0)))):=by
       rw[qac]
       simp -implicitDefEqProofs [qad,qe9,qic,List.range_succ]
      have hh:nd k n s f a = .dat (.agg [.lit (.int .i64 k),.lit (.int .i64 n),.lit (.string s),.lit (.slice none 0 0)]):=by rw[nd,hl,qrq]
      have hh':nd k n s f' b = .dat (.agg [.lit (.int .i64 k),.lit (.int .i64 n),.lit (.string s),.lit (.slice none 0 0)]):=by rw[nd,hb,qrq]
      rw[hh,hh']
      simp -implicitDefEqProofs [F235,z0,e,qa2,qic,List.range_succ]
     | succ q=>
      have z:=hq b a.cells b.cells a.len 0 k n s f k n s f' (by simp) (by simp) h4 (by omega) ha
      have hb:b.len=a.len:=h4.symm
      have ka : ∀ g cs,kd g (q+1) cs = .sl cs (q+1) g:=fun g cs=>rfl
      have hh : ∀ g (c:Fo),c.len=q+1->nd k n s g c = .dat (.agg [.lit (.int .i64 k),.lit (.int .i64 n),.lit (.string s),.sl c.cells (q+1) g]):=fun g c hc=>by rw[nd,hc,ka]
      rw[hh f a hl,hh f' b (hb.trans hl)]
      rw[hl] at z
      clear hh ka hq hb hl h4 ha
      generalize q+1=m at *
      simp only[Int.cast_ofNat_Int] at z
      by_cases he:a.eqv b=true
      ·rw[if_pos he] at z
       simp -implicitDefEqProofs [F235,z,he,qa2,qgl,List.range_succ]
      ·rw[if_neg he] at z
       simp -implicitDefEqProofs [F235,z,he,qa2,qgl,List.range_succ]
    ·have he:a.eqv b=false:=by
      cases h:a.eqv b with
      | false=>rfl
      | true=>exact absurd (qpS h) h4
     have h4' : ¬ (a.len:Int)=b.len:=by omega
     simp -implicitDefEqProofs [F235,h4,h4',he,qa2,List.range_succ]
   ·simp -implicitDefEqProofs [F235,h1,h2,h3,qa2,List.range_succ]
  ·simp -implicitDefEqProofs [F235,h1,h2,qa2,List.range_succ]
 ·simp -implicitDefEqProofs [F235,h1,qa2,List.range_succ]
theorem qlT : ∀ a:Fo,a.size<2 ^ 30->qxQ a
 | .nil,_=>by
  intro b ca cb m i k n s f k' n' s' f' hA hB hl hm hm2
  cases b with
  | cons=>simp at hl
  | nil=>
   have:i=m:=by simpa using hm
   subst this
   rw[show Fo.nil.eqv .nil=true from rfl,if_pos rfl,qac]
   simp -implicitDefEqProofs [qad,qe9,qgl,List.range_succ]
 | .cons ka na sa fa ksa ra,hsz=>by
  intro b ca cb m i k n s f k' n' s' f' hA hB hl hm hm2
  cases b with
  | nil=>simp at hl
  | cons kb nb sb fb ksb rb=>
   simp only[qaQ] at hsz
   have hks:=qrI (qlT ksa (by omega)) (by have:=qii ksa; omega) ksb ka na sa fa kb nb sb fb
   simp only[qaw,qaG] at hA hB hl hm
   have c1:=qwq hA
   have c2:=qwq hB
   have hlt:(i:Int)<m:=by omega
   have hlt':i<m:=by omega
   have w1:IntKind.i64.wrap ((i:Int)+1)=((i+1:Nat):Int):=by rw[qag _ (by omega)]; omega
   have ih:=qlT ra (by omega) rb ca cb m (i+1) k n s f k' n' s' f' (qcw hA) (qcw hB) (by omega) (by omega) hm2
   rw[show (Fo.cons ka na sa fa ksa ra).eqv (.cons kb nb sb fb ksb rb)=(ndEq ka na sa ksa kb nb sb ksb&&ra.eqv rb) by simp[Fo.eqv,ndEq,Bool.and_assoc]]
   simp only[nd] at hks
   generalize ndEq ka na sa ksa kb nb sb ksb=B at *
   generalize ((i+1:Nat):Int)=i1 at *
   cases B with
   | true=>
    rw[Bool.true_and,<- ih]
    conv=>lhs; rw[qac]
    simp -implicitDefEqProofs [qad,qe9,qaf,qgl,c1,c2,hlt,hlt',hks,w1,List.range_succ]
   | false=>
    rw[Bool.false_and,if_neg (by simp)]
    rw[qac]
    simp -implicitDefEqProofs [qad,qe9,qaf,qgl,c1,c2,hlt,hlt',hks,List.range_succ]
theorem qhm {a b:Fo} (ha:a.size<2 ^ 30):qxP a b:=qrI (qlT a ha) (by have:=qii a; omega) b
theorem qmK {a b c a' b' c':Nd} (ha:a.ks.size<2 ^ 30) (hb:b.ks.size<2 ^ 30) (hc:c.ks.size<2 ^ 30):Z tE (.call 232 [.dat (ru a b c),.dat (ru a' b' c')] []) =
  some (.ret (.bool (ndEq a.k a.n a.s a.ks a'.k a'.n a'.s a'.ks&&(ndEq b.k b.n b.s b.ks b'.k b'.n b'.s b'.ks&&ndEq c.k c.n c.s c.ks c'.k c'.n c'.s c'.ks))) []):=by
 have z1:=qhm ha (b:=a'.ks) a.k a.n a.s a.f a'.k a'.n a'.s a'.f
 have z2:=qhm hb (b:=b'.ks) b.k b.n b.s b.f b'.k b'.n b'.s b'.f
 have z3:=qhm hc (b:=c'.ks) c.k c.n c.s c.f c'.k c'.n c'.s c'.f
 refine Z_call (pf:=F232) rfl rfl ?_
 simp only[nd] at z1 z2 z3
 generalize ndEq a.k a.n a.s a.ks a'.k a'.n a'.s a'.ks=B1 at *
 generalize ndEq b.k b.n b.s b.ks b'.k b'.n b'.s b'.ks=B2 at *
 generalize ndEq c.k c.n c.s c.ks c'.k c'.n c'.s c'.ks=B3 at *
 cases B1<;>cases B2<;>cases B3<;>simp -implicitDefEqProofs [F232,ru,Nd.d,z1,z2,z3,List.range_succ]
end Go.Pm
end SUb
section SF01n
namespace Go.Pm.F
variable (C:Task->Option Res) (q:Nat) (fr:Fr) (σ : S)
def F225:PFun:=⟨2,[.tmp 4],.seq (rn [jj 4 (.mov (.c (.string ⟨#[]⟩)))] [0,1]) (.seq (.seq (rn [mv 5 0,lz 6 5,mv 7 1,bn 8 .gtr 6 7] [0,1,8]) (.cond (.t 8) (.seq (rn [mv 9 0,mv 10 1,jj 11 (.sliceS (.t 9) none (some (.t 10))),mv 4 11] [4]) (.ret)) (.skip))) (.seq (rn [mv 12 0,mv 4 12] [4]) (.ret))),false,false,false⟩
end Go.Pm.F
end SF01n
section STK
namespace Go.Pm.F
def tK:Nat->Option PFun
 | 229=>some F229
 | _=>none
def tKd:Nat->Option PFun
 | 221=>some F221
 | _=>none
end Go.Pm.F
end STK
section SOd
namespace Go.Pm
open F
set_option maxHeartbeats 4000000
def tab2:ByteArray:=⟨#[48,48,48,49,48,50,48,51,48,52,48,53,48,54,48,55,48,56,48,57,49,48,49,49,49,50,49,51,49,52,49,53,49,54,49,55,49,56,49,57,50,48,50,49,50,50,50,51,50,52,50,53,50,54,50,55,50,56,50,57,51,48,51,49,51,50,51,51,51,52,51,53,51,54,51,55,51,56,51,57,52,48,52,49,52,50,52,51,52,52,52,53,52,54,52,55,52,56,52,57,53,48,53,49,53,50,53,51,53,52,53,53,53,54,53,55,53,56,53,57,54,48,54,49,54,50,54,51,54,52,54,53,54,54,54,55,54,56,54,57,55,48,55,49,55,50,55,51,55,52,55,53,55,54,55,55,55,56,55,57,56,48,56,49,56,50,56,51,56,52,56,53,56,54,56,55,56,56,56,57,57,48,57,49,57,50,57,51,57,52,57,53,57,54,57,55,57,56,57,57]⟩
def tab8:ByteArray:=⟨#[0,1,2,2,3,3,3,3,4,4,4,4,4,4,4,4,5,5,5,5,5,5,5,5,5,5,5,5,5,5,5,5,6,6,6,6,6,6,6,6,6,6,6,6,6,6,6,6,6,6,6,6,6,6,6,6,6,6,6,6,6,6,6,6,7,7,7,7,7,7,7,7,7,7,7,7,7,7,7,7,7,7,7,7,7,7,7,7,7,7,7,7,7,7,7,7,7,7,7,7,7,7,7,7,7,7,7,7,7,7,7,7,7,7,7,7,7,7,7,7,7,7,7,7,7,7,7,7,8,8,8,8,8,8,8,8,8,8,8,8,8,8,8,8,8,8,8,8,8,8,8,8,8,8,8,8,8,8,8,8,8,8,8,8,8,8,8,8,8,8,8,8,8,8,8,8,8,8,8,8,8,8,8,8,8,8,8,8,8,8,8,8,8,8,8,8,8,8,8,8,8,8,8,8,8,8,8,8,8,8,8,8,8,8,8,8,8,8,8,8,8,8,8,8,8,8,8,8,8,8,8,8,8,8,8,8,8,8,8,8,8,8,8,8,8,8,8,8,8,8,8,8,8,8,8,8]⟩
section
variable (tab:ByteArray)
def F295l0Kx:PC:=(.seq (.seq (rn [mv 19 4,bk 20 .geq 19 8] [0,1,4,20]) (.cond (.t 20) (.skip) (.exit 0))) (.block 1 (.seq (rn [mv 21 1,jj 22 (.bin .rem (.t 21) (.c (.int .u64 100000000))),jj 23 (.conv (.int .u32) (.t 22)),mv 5 23] [0,1,4,5]) (.seq (rn [mv 24 1,jj 25 (.bin .quo (.t 24) (.c (.int .u64 100000000))),mv 1 25] [0,1,4,5]) (.seq (rn [mv 26 5,jj 27 (.bin .quo (.t 26) (.c (.int .u32 10000))),mv 28 5,jj 29 (.bin .rem (.t 28) (.c (.int .u32 10000))),mv 6 27,mv 7 29] [0,1,4,6,7]) (.seq (rn [mv 30 7,jj 31 (.bin .quo (.t 30) (.c (.int .u32 100))),jj 32 (.bin .mul (.t 31) (.c (.int .u32 2))),mv 33 7,jj 34 (.bin .rem (.t 33) (.c (.int .u32 100))),jj 35 (.bin .mul (.t 34) (.c (.int .u32 2))),mv 8 32,mv 9 35] [0,1,4,6,8,9]) (.seq (rn [mv 36 6,jj 37 (.bin .quo (.t 36) (.c (.int .u32 100))),jj 38 (.bin .mul (.t 37) (.c (.int .u32 2))),mv 39 6,jj 40 (.bin .rem (.t 39) (.c (.int .u32 100))),jj 41 (.bin .mul (.t 40) (.c (.int .u32 2))),mv 10 38,mv 11 41] [0,1,4,8,9,10,11]) (.seq (.region (some []) [mv 42 0,mv 43 4,bk 44 .sub 43 1,mv 45 0,mv 46 4,bk 47 .sub 46 2,mv 48 9,jj 49 (.bin .add (.t 48) (.c (.int .u32 1))),jj 50 (.indexS (.c (.string tab)) (.t 49)),mv 51 9,jj 52 (.indexS (.c (.string tab)) (.t 51)),jj 53 (.indexAddr 1 (.t 42) (.t 44)),st 1 53 50,jj 54 (.indexAddr 1 (.t 45) (.t 47)),st 1 54 52] [0,1,4,8,10,11]) (.seq (.region (some []) [mv 55 0,mv 56 4,bk 57 .sub 56 3,mv 58 0,mv 59 4,bk 60 .sub 59 4,mv 61 8,jj 62 (.bin .add (.t 61) (.c (.int .u32 1))),jj 63 (.indexS (.c (.string tab)) (.t 62)),mv 64 8,jj 65 (.indexS (.c (.string tab)) (.t 64)),jj 66 (.indexAddr 1 (.t 55) (.t 57)),st 1 66 63,jj 67 (.indexAddr 1 (.t 58) (.t 60)),st 1 67 65] [0,1,4,10,11]) (.seq (.region (some []) [mv 68 0,mv 69 4,bk 70 .sub 69 5,mv 71 0,mv 72 4,bk 73 .sub 72 6,mv 74 11,jj 75 (.bin .add (.t 74) (.c (.int .u32 1))),jj 76 (.indexS (.c (.string tab)) (.t 75)),mv 77 11,jj 78 (.indexS (.c (.string tab)) (.t 77)),jj 79 (.indexAddr 1 (.t 68) (.t 70)),st 1 79 76,jj 80 (.indexAddr 1 (.t 71) (.t 73)),st 1 80 78] [0,1,4,10]) (.seq (.region (some []) [mv 81 0,mv 82 4,bk 83 .sub 82 7,mv 84 0,mv 85 4,bk 86 .sub 85 8,mv 87 10,jj 88 (.bin .add (.t 87) (.c (.int .u32 1))),jj 89 (.indexS (.c (.string tab)) (.t 88)),mv 90 10,jj 91 (.indexS (.c (.string tab)) (.t 90)),jj 92 (.indexAddr 1 (.t 81) (.t 83)),st 1 92 89,jj 93 (.indexAddr 1 (.t 84) (.t 86)),st 1 93 91] [0,1,4]) (rn [mv 94 4,bk 95 .sub 94 8,mv 4 95] [0,1,4]))))))))))))
def F295l0K:PC:=F295l0Kx tab
theorem qcc (C:Task->Option Res) (q:Nat) (fr:Fr) (σ : S):run C q (F295l0K tab) fr σ = run C q (F295l0Kx tab) fr σ := rfl
def F295K:PFun:=⟨2,[],.seq (rn [mv 17 0,ls 18 17,mv 4 18] [0,1,4]) (.seq (.block 0 (.loop (F295l0K tab))) (.seq (rn [mv 96 1,jj 97 (.conv (.int .u32) (.t 96)),mv 12 97] [0,4,12]) (.seq (.seq (rn [mv 98 4,bk 99 .geq 98 4] [0,4,12,99]) (.cond (.t 99) (.seq (rn [mv 100 12,jj 101 (.bin .rem (.t 100) (.c (.int .u32 10000))),mv 13 101] [0,4,12,13]) (.seq (rn [mv 102 12,jj 103 (.bin .quo (.t 102) (.c (.int .u32 10000))),mv 12 103] [0,4,12,13]) (.seq (rn [mv 104 13,jj 105 (.bin .quo (.t 104) (.c (.int .u32 100))),jj 106 (.bin .mul (.t 105) (.c (.int .u32 2))),mv 107 13,jj 108 (.bin .rem (.t 107) (.c (.int .u32 100))),jj 109 (.bin .mul (.t 108) (.c (.int .u32 2))),mv 14 106,mv 15 109] [0,4,12,14,15]) (.seq (.region (some []) [mv 110 0,mv 111 4,bk 112 .sub 111 1,mv 113 0,mv 114 4,bk 115 .sub 114 2,mv 116 15,jj 117 (.bin .add (.t 116) (.c (.int .u32 1))),jj 118 (.indexS (.c (.string tab)) (.t 117)),mv 119 15,jj 120 (.indexS (.c (.string tab)) (.t 119)),jj 121 (.indexAddr 1 (.t 110) (.t 112)),st 1 121 118,jj 122 (.indexAddr 1 (.t 113) (.t 115)),st 1 122 120] [0,4,12,14]) (.seq (.region (some []) [mv 123 0,mv 124 4,bk 125 .sub 124 3,mv 126 0,mv 127 4,bk 128 .sub 127 4,mv 129 14,jj 130 (.bin .add (.t 129) (.c (.int .u32 1))),jj 131 (.indexS (.c (.string tab)) (.t 130)),mv 132 14,jj 133 (.indexS (.c (.string tab)) (.t 132)),jj 134 (.indexAddr 1 (.t 123) (.t 125)),st 1 134 131,jj 135 (.indexAddr 1 (.t 126) (.t 128)),st 1 135 133] [0,4,12]) (rn [mv 136 4,bk 137 .sub 136 4,mv 4 137] [0,4,12])))))) (.skip))) (.seq (.seq (rn [mv 138 4,bk 139 .geq 138 2] [0,4,12,139]) (.cond (.t 139) (.seq (rn [mv 140 12,jj 141 (.bin .rem (.t 140) (.c (.int .u32 100))),jj 142 (.bin .mul (.t 141) (.c (.int .u32 2))),mv 16 142] [0,4,12,16]) (.seq (rn [mv 143 12,jj 144 (.bin .quo (.t 143) (.c (.int .u32 100))),mv 12 144] [0,4,12,16]) (.seq (.region (some []) [mv 145 0,mv 146 4,bk 147 .sub 146 1,mv 148 0,mv 149 4,bk 150 .sub 149 2,mv 151 16,jj 152 (.bin .add (.t 151) (.c (.int .u32 1))),jj 153 (.indexS (.c (.string tab)) (.t 152)),mv 154 16,jj 155 (.indexS (.c (.string tab)) (.t 154)),jj 156 (.indexAddr 1 (.t 145) (.t 147)),st 1 156 153,jj 157 (.indexAddr 1 (.t 148) (.t 150)),st 1 157 155] [0,4,12]) (rn [mv 158 4,bk 159 .sub 158 2,mv 4 159] [0,4,12])))) (.skip))) (.seq (rn [mv 160 4,bk 161 .gtr 160 0] [0,12,161]) (.cond (.t 161) (rn [mv 162 0,mv 163 12,jj 164 (.bin .add (.c (.int .u32 48)) (.t 163)),jj 165 (.conv (.int .u8) (.t 164)),jj 166 (.indexAddr 1 (.t 162) (kk 0)),st 1 166 165] []) (.skip))))))),false,false,false⟩
def F299K:PFun:=⟨1,[.tmp 2],.seq (rn [mx 2 (kk 0)] [0,2]) (.seq (.seq (rn [mv 3 0,jj 4 (.bin .geq (.t 3) (.c (.int .u64 4294967296)))] [0,2,4]) (.cond (.t 4) (.seq (rn [mv 5 0,jj 6 (.bin .shr (.t 5) (.c (.int .u64 32))),mv 0 6] [0]) (rn [mx 2 (kk 32)] [0,2])) (.skip))) (.seq (.seq (rn [mv 7 0,jj 8 (.bin .geq (.t 7) (.c (.int .u64 65536)))] [0,2,8]) (.cond (.t 8) (.seq (rn [mv 9 0,jj 10 (.bin .shr (.t 9) (.c (.int .u64 16))),mv 0 10] [0,2]) (rn [mv 11 2,bk 12 .add 11 16,mv 2 12] [0,2])) (.skip))) (.seq (.seq (rn [mv 13 0,jj 14 (.bin .geq (.t 13) (.c (.int .u64 256)))] [0,2,14]) (.cond (.t 14) (.seq (rn [mv 15 0,jj 16 (.bin .shr (.t 15) (.c (.int .u64 8))),mv 0 16] [0,2]) (rn [mv 17 2,bk 18 .add 17 8,mv 2 18] [0,2])) (.skip))) (.seq (rn [mv 19 2,mv 20 0,jj 21 (.conv (.int .u8) (.t 20)),jj 22 (.indexS (.c (.string tab)) (.t 21)),jj 23 (.conv (.int .i64) (.t 22)),bn 24 .add 19 23,mv 2 24] [2]) (.ret))))),false,false,false⟩
end
def dg (d:Nat):UInt8:=(48+d).toUInt8
theorem qhn {d:Nat} (h:d<10):(dg d).toNat=48+d:=qxj d h
theorem qb4 : ∀ k,k<100->tab2[2*k]?=some (dg (k / 10)):=by decide +kernel
theorem qb5 : ∀ k,k<100->tab2[2*k+1]?=some (dg (k % 10)):=by decide +kernel
theorem qsH : ∀ x,x<256 -> ∃ l,tab8[x]?=some l/\l.toNat<=8/\(x=0->l.toNat=0)/\(0<x->2 ^ (l.toNat-1)<=x/\x<2 ^ l.toNat/\0<l.toNat):=by
 have h : ∀ x,x<256->(match tab8[x]? with
  | some l=>decide (l.toNat<=8)&&(decide (x=0->l.toNat=0)&&decide (0<x->2 ^ (l.toNat-1)<=x/\x<2 ^ l.toNat/\0<l.toNat))
  | none=>false)=true:=by decide +kernel
 intro x hx
 have:=h x hx
 cases hl:tab8[x]? with
 | none=>rw[hl] at this; cases this
 | some l=>
  rw[hl] at this
  simp only[Bool.and_eq_true,decide_eq_true_eq] at this
  exact⟨l,rfl,this.1,this.2.1,this.2.2⟩
def qnC:Nat->Nat->List UInt8
 | 0,_=>[]
 | d+1,u=>qnC d (u / 10)++[dg (u % 10)]
theorem qk2 : ∀ (k d u:Nat),u<10 ^ (d+1)->(d=0\/10 ^ d<=u)->d<k->qis k u=qnC (d+1) u
 | 0,d,u,_,_,h=>by omega
 | k+1,0,u,h,_,_=>by
  have:u<10:=by simpa using h
  simp[qis,qnC,this,dg,Nat.mod_eq_of_lt this]
 | k+1,d+1,u,h,h2,h3=>by
  have e : ¬ u<10:=by
   have:10 ^ 1<=10 ^ (d+1):=Nat.pow_le_pow_right (by omega) (by omega)
   rcases h2 with h2 | h2<;>omega
  have ih:=qk2 k d (u / 10) (by rw[Nat.pow_succ] at h; omega) (by
   rcases d with _ | d
   ·exact .inl rfl
   ·right
    rcases h2 with h2 | h2
    ·cases h2
    ·rw[Nat.pow_succ] at h2; omega) (by omega)
  rw[qis,if_neg e,ih,qnC]
  rfl
theorem qdd {d u:Nat} (h:u<10 ^ (d+1)) (h2:10 ^ d<=u) (hd:d<20):decB u=qnC (d+1) u:=qk2 20 d u h (.inr h2) hd
abbrev U64 (n:Nat):V := .dat (.lit (.int .u64 n))
theorem qoR {n:Nat} (h:n<18446744073709551616):IntKind.u64.wrap (n:Int)=n:=by rw[IntKind.wrap_u64]; omega
theorem qfx {n:Nat} (h:n<4294967296):IntKind.u32.wrap (n:Int)=n:=by rw[IntKind.wrap_u32']; omega
theorem w8u {n:Nat} (h:n<256):IntKind.u8.wrap (n:Int)=n:=by rw[IntKind.wrap_u8']; omega
theorem qsI (a b:Nat):Int.fdiv (a:Int) (b:Int)=((a / b:Nat):Int):=by
 rw[Int.fdiv_eq_ediv_of_nonneg _ (by omega)]; rfl
theorem qwP {u:Nat} (h0:0<u) (h1:u<2147483648) : ∃ L:Nat,L<=31/\0<L/\2 ^ (L-1)<=u/\u<2 ^ L/\Z tQ (.call 299 [U64 u] [])=some (.ret (.int L) []):=by
 have key : ∀ x a:Nat,x<256->0<x->a<=24->a*1=a -> ∃ l:UInt8,tab8[x]?=some l/\a+l.toNat<=a+8/\0<a+l.toNat/\2 ^ (a+l.toNat-1)<=x*2 ^ a/\(x+1)*2 ^ a<=2 ^ (a+l.toNat)/\l.toNat<=8:=by
  intro x a hx hp _ _
  obtain⟨l,e1,e2,_,e4⟩:=qsH x hx
  obtain⟨e5,e6,e7⟩:=e4 hp
  refine⟨l,e1,by omega,by omega,?_,?_,e2⟩
  ·rw[show a+l.toNat-1=(l.toNat-1)+a by omega,Nat.pow_add]
   exact Nat.mul_le_mul_right _ e5
  ·rw[Nat.add_comm a,Nat.pow_add]
   exact Nat.mul_le_mul_right _ e6
 have hx:tQ 299=some (F299K tab8):=rfl
 have c1 : ¬ (4294967296:Int)<=u:=by omega
 have n16 : ∀ x:Nat,qrE .u64 (x:Int) 16=((x / 65536:Nat):Int):=fun x=>qsI x 65536
 have n8 : ∀ x:Nat,qrE .u64 (x:Int) 8=((x / 256:Nat):Int):=fun x=>qsI x 256
 by_cases a1:65536<=u
 ·by_cases a2:256<=u / 65536
  ·obtain⟨l,e1,e2,e3,e4,e5,e6⟩:=key (u / 65536 / 256) 24 (by omega) (by omega) (by omega) rfl
   have hL:l.toNat<=7:=by
    rcases Nat.lt_or_ge l.toNat 8 with h | h
    ·omega
    ·have:l.toNat=8:=by omega
     rw[this] at e4
     omega
   refine⟨24+l.toNat,by omega,e3,by omega,by omega,?_⟩
   refine Z_call hx rfl ?_
   have w1:=w8u (show u / 65536 / 256<256 by omega)
   have w2:IntKind.i64.wrap (24+(l.toNat:Int))=((24+l.toNat:Nat):Int):=by rw[qag _ (by omega)]; omega
   have w3:=qag (l.toNat:Int) (by omega)
   have w4:IntKind.i64.wrap 24=24:=rfl
   have w5:IntKind.i64.wrap 16=16:=rfl
   have b1:(65536:Int)<=u:=by omega
   have b2:(256:Int)<=((u / 65536:Nat):Int):=by omega
   generalize tab8=tb at *
   generalize hq1:u / 65536=q1 at *
   generalize hq2:q1 / 256=q2 at *
   generalize 24+l.toNat=L at *
   simp[F299K,c1,b1,b2,n16,n8,hq1,hq2,w1,w2,w3,w4,w5,e1]
  ·obtain⟨l,e1,e2,e3,e4,e5,e6⟩:=key (u / 65536) 16 (by omega) (by omega) (by omega) rfl
   refine⟨16+l.toNat,by omega,e3,by omega,by omega,?_⟩
   refine Z_call hx rfl ?_
   have w1:=w8u (show u / 65536<256 by omega)
   have w2:IntKind.i64.wrap (16+(l.toNat:Int))=((16+l.toNat:Nat):Int):=by rw[qag _ (by omega)]; omega
   have w3:=qag (l.toNat:Int) (by omega)
   have w4:IntKind.i64.wrap 16=16:=rfl
   have b1:(65536:Int)<=u:=by omega
   have b2 : ¬ (256:Int)<=((u / 65536:Nat):Int):=by omega
   generalize tab8=tb at *
   generalize hq1:u / 65536=q1 at *
   generalize 16+l.toNat=L at *
   simp[F299K,c1,b1,b2,n16,n8,hq1,w1,w2,w3,w4,e1]
 ·by_cases a2:256<=u
  ·obtain⟨l,e1,e2,e3,e4,e5,e6⟩:=key (u / 256) 8 (by omega) (by omega) (by omega) rfl
   refine⟨8+l.toNat,by omega,e3,by omega,by omega,?_⟩
   refine Z_call hx rfl ?_
   have w1:=w8u (show u / 256<256 by omega)
   have w2:IntKind.i64.wrap (8+(l.toNat:Int))=((8+l.toNat:Nat):Int):=by rw[qag _ (by omega)]; omega
   have w3:=qag (l.toNat:Int) (by omega)
   have w4:IntKind.i64.wrap 8=8:=rfl
   have b1 : ¬ (65536:Int)<=u:=by omega
   have b2:(256:Int)<=u:=by omega
   generalize tab8=tb at *
   generalize hq1:u / 256=q1 at *
   generalize 8+l.toNat=L at *
   simp[F299K,c1,b1,b2,n16,n8,hq1,w1,w2,w3,w4,e1]
  ·obtain⟨l,e1,e2,e3,e4,e5,e6⟩:=key u 0 (by omega) (by omega) (by omega) rfl
   refine⟨0+l.toNat,by omega,e3,by omega,by omega,?_⟩
   refine Z_call hx rfl ?_
   have w1:=w8u (show u<256 by omega)
   have w2:IntKind.i64.wrap (0+(l.toNat:Int))=((0+l.toNat:Nat):Int):=by rw[qag _ (by omega)]; omega
   have w3:=qag (l.toNat:Int) (by omega)
   have b1 : ¬ (65536:Int)<=u:=by omega
   have b2 : ¬ (256:Int)<=u:=by omega
   generalize tab8=tb at *
   simp[F299K,c1,b1,b2,n16,n8,w1,w3,e1]
theorem qwQ {L:Nat} (h:L<=31):Z tQ (.call 298 [.int L] [])=some (.ret (.int (L*78913 / 262144:Nat)) []):=by
 refine Z_call (pf:=F298) rfl rfl ?_
 have w1:=qag ((L:Int)*78913) (by omega)
 have n18:qrE .i64 ((L:Int)*78913) 18=((L*78913 / 262144:Nat):Int):=by
  have:=qsI (L*78913) 262144
  rw[<- this]
  simp[qrE]
  rfl
 generalize L*78913 / 262144=q at *
 simp[F298,w1,n18]
theorem qwR (b:Bool):Z tQ (.call 300 [.bool b] [])=some (.ret (.int (if b then 1 else 0)) []):=by
 refine Z_call (pf:=F300) rfl rfl ?_
 cases b<;>simp[F300]
theorem qsJ : ∀ i,i<20->cutCells G_internal_strconv_uint64pow10 i 1=some [.lit (.int .u64 (10 ^ i:Nat))]:=by
 intro i hi
 unfold cutCells G_internal_strconv_uint64pow10
 rw[List.drop_eq_getElem_cons (by simpa using hi)]
 simp
theorem qsK {u L:Nat} (h7:7<=L) (h31:L<=31) (hl:2 ^ (L-1)<=u) (hu:u<2 ^ L) (h100:100<=u) (h2:u<2147483648) : ∃ d,3<=d/\d<=10/\10 ^ (d-1)<=u/\u<10 ^ d/\d=L*78913 / 262144+(if 10 ^ (L*78913 / 262144)<=u then 1 else 0):=by
 have hL:L=7\/L=8\/L=9\/L=10\/L=11\/L=12\/L=13\/L=14\/L=15\/L=16\/L=17\/L=18\/L=19\/L=20\/L=21\/L=22\/L=23\/L=24\/L=25\/L=26\/L=27\/L=28\/L=29\/L=30\/L=31:=by omega
 rcases hL with rfl | rfl | rfl | rfl | rfl | rfl | rfl | rfl | rfl | rfl | rfl | rfl | rfl | rfl | rfl | rfl | rfl | rfl | rfl | rfl | rfl | rfl | rfl | rfl | rfl
 all_goals
  refine⟨_,?_,?_,?_,?_,rfl⟩<;>simp only[Nat.reduceMul,Nat.reduceDiv,Nat.reducePow,Nat.reduceSub] at hl hu ⊢ <;> split<;>simp<;>omega
theorem qqs {u:Nat} (h100:100<=u) (h2:u<2147483648) : ∃ d:Nat,3<=d/\d<=10/\10 ^ (d-1)<=u/\u<10 ^ d/\Z tQ (.call 294 [U64 u] [])=some (.ret (.int d) []):=by
 obtain⟨L,l1,l2,l3,l4,z⟩:=qwP (by omega) h2
 have h7:7<=L:=by
  rcases Nat.lt_or_ge L 7 with h | h
  ·have:2 ^ L<=2 ^ 6:=Nat.pow_le_pow_right (by omega) (by omega)
   omega
  ·exact h
 obtain⟨d,d1,d2,d3,d4,d5⟩:=qsK h7 l1 l3 l4 h100 h2
 refine⟨d,d1,d2,d3,d4,?_⟩
 have zl:=qwQ l1
 have hi:L*78913 / 262144<=9:=by omega
 generalize L*78913 / 262144=i at *
 have hp:=qsJ i (by omega)
 have zb:=qwR (decide (10 ^ i<=u))
 have hc:((10 ^ i:Nat):Int)<=(u:Int)↔10 ^ i<=u:=by omega
 have hres:IntKind.i64.wrap ((i:Int)+(if decide (10 ^ i<=u)=true then 1 else 0))=(d:Int):=by
  rw[qag _ (by split<;>omega),d5]
  by_cases h:10 ^ i<=u<;>simp[h]
 refine Z_call (pf:=F294) rfl rfl ?_
 have i20:(i:Int)<20:=by omega
 generalize 10 ^ i=P at *
 generalize (if decide (P<=u)=true then (1:Int) else 0)=e at *
 simp[F294,z,zl,zb,hp,hc,hres,i20]
end Go.Pm
end SOd
