/- Chapter 16: the start of a handler; a step that is none. -/
import Derived.Test.YtebnoobfoajkbaaGreatDoorPmAL
import Derived.Test.YtebnoobfoajkbaaGreatDoorPmF6r
set_option linter.unusedSimpArgs false
set_option linter.unusedVariables false
set_option maxHeartbeats 4000000
namespace Go.Pm
section
open F
def qcG(e0 e1 e2 h:Int):Int:=if h=0 then e0 else if h=1 then e1 else e2
def qgk(cs:List Int)(e fuel self other:Int):List Int:=qao (qao (qao (qao (qao cs 6 e) 7 0) 8 fuel) 9 self) 10 other
@[simp] theorem qrL(cs:List Int)(e fuel self other:Int):(qgk cs e fuel self other).length=cs.length:=by simp[qgk]
section
variable{s:Su}{cs cs1 cs2 cs3 cs4 cs5:List Int}{N:Nat}{lg lg1 lg2 lg3 lg4 lg5:List D}{k k1 k2 k3 k4 k5 t t1 t2 t3 t4 t5 op:Nat}{c:List (Nat × Int)}{f:Bool}{e0 e1 e2 n h e self other fuel pc sp:Int}
theorem qrM (he : ¬ e<0) (hE:e0=e)
  (s6:Z qaa (.call 114 [.ptr 0 0,.int 6,.int e] (qaA cs N))=some (.ret (.tup []) (qai cs1 N lg1 k1 t1)))
  (s7:Z qaa (.call 114 [.ptr 0 0,.int 7,.int 0] (qai cs1 N lg1 k1 t1))=some (.ret (.tup []) (qai cs2 N lg2 k2 t2)))
  (s8:Z qaa (.call 114 [.ptr 0 0,.int 8,.int fuel] (qai cs2 N lg2 k2 t2))=some (.ret (.tup []) (qai cs3 N lg3 k3 t3)))
  (s9:Z qaa (.call 114 [.ptr 0 0,.int 9,.int self] (qai cs3 N lg3 k3 t3))=some (.ret (.tup []) (qai cs4 N lg4 k4 t4)))
  (s10:Z qaa (.call 114 [.ptr 0 0,.int 10,.int other] (qai cs4 N lg4 k4 t4))=some (.ret (.tup []) (qai cs5 N lg5 k5 t5))) :
  Z qaa (.call 49 [.iface 0 (.ptr 0 0),qaq f c e0 e1 e2,.int 0,.int self,.int other,.int fuel] (qaA cs N))=some (.ret (.bool true) (qai cs5 N lg5 k5 t5)):=by
 refine qab (pf:=F49) rfl rfl ?_
 subst hE
 simp only[qaA,qai] at s6 s7 s8 s9 s10
 simp[F49,qaA,qai,qaq,Wa,qaI,qan,he,s6,s7,s8,s9,s10]
theorem qrN (he : ¬ e<0) (hE:e1=e)
  (s6:Z qaa (.call 114 [.ptr 0 0,.int 6,.int e] (qaA cs N))=some (.ret (.tup []) (qai cs1 N lg1 k1 t1)))
  (s7:Z qaa (.call 114 [.ptr 0 0,.int 7,.int 0] (qai cs1 N lg1 k1 t1))=some (.ret (.tup []) (qai cs2 N lg2 k2 t2)))
  (s8:Z qaa (.call 114 [.ptr 0 0,.int 8,.int fuel] (qai cs2 N lg2 k2 t2))=some (.ret (.tup []) (qai cs3 N lg3 k3 t3)))
  (s9:Z qaa (.call 114 [.ptr 0 0,.int 9,.int self] (qai cs3 N lg3 k3 t3))=some (.ret (.tup []) (qai cs4 N lg4 k4 t4)))
  (s10:Z qaa (.call 114 [.ptr 0 0,.int 10,.int other] (qai cs4 N lg4 k4 t4))=some (.ret (.tup []) (qai cs5 N lg5 k5 t5))) :
  Z qaa (.call 49 [.iface 0 (.ptr 0 0),qaq f c e0 e1 e2,.int 1,.int self,.int other,.int fuel] (qaA cs N))=some (.ret (.bool true) (qai cs5 N lg5 k5 t5)):=by
 refine qab (pf:=F49) rfl rfl ?_
 subst hE
 simp only[qaA,qai] at s6 s7 s8 s9 s10
 simp[F49,qaA,qai,qaq,Wa,qaI,qan,he,s6,s7,s8,s9,s10]
theorem qrO (he : ¬ e<0) (hE:e2=e)
  (s6:Z qaa (.call 114 [.ptr 0 0,.int 6,.int e] (qaA cs N))=some (.ret (.tup []) (qai cs1 N lg1 k1 t1)))
  (s7:Z qaa (.call 114 [.ptr 0 0,.int 7,.int 0] (qai cs1 N lg1 k1 t1))=some (.ret (.tup []) (qai cs2 N lg2 k2 t2)))
  (s8:Z qaa (.call 114 [.ptr 0 0,.int 8,.int fuel] (qai cs2 N lg2 k2 t2))=some (.ret (.tup []) (qai cs3 N lg3 k3 t3)))
  (s9:Z qaa (.call 114 [.ptr 0 0,.int 9,.int self] (qai cs3 N lg3 k3 t3))=some (.ret (.tup []) (qai cs4 N lg4 k4 t4)))
  (s10:Z qaa (.call 114 [.ptr 0 0,.int 10,.int other] (qai cs4 N lg4 k4 t4))=some (.ret (.tup []) (qai cs5 N lg5 k5 t5))) :
  Z qaa (.call 49 [.iface 0 (.ptr 0 0),qaq f c e0 e1 e2,.int 2,.int self,.int other,.int fuel] (qaA cs N))=some (.ret (.bool true) (qai cs5 N lg5 k5 t5)):=by
 refine qab (pf:=F49) rfl rfl ?_
 subst hE
 simp only[qaA,qai] at s6 s7 s8 s9 s10
 simp[F49,qaA,qai,qaq,Wa,qaI,qan,he,s6,s7,s8,s9,s10]
theorem qrP (hb:h<0\/3<=h\/qcG e0 e1 e2 h<0) :
  Z qaa (.call 49 [.iface 0 (.ptr 0 0),qaq f c e0 e1 e2,.int h,.int self,.int other,.int fuel] (qaA cs N))=some (.ret (.bool false) (qaA cs N)):=by
 refine qab (pf:=F49) rfl rfl ?_
 by_cases h0:h<0
 ·simp[F49,qaA,qai,qaq,Wa,qaI,qan,h0]
 ·by_cases h3:3<=h
  ·simp[F49,qaA,qai,qaq,Wa,qaI,qan,h0,h3]
  ·obtain rfl|rfl|rfl:h=0\/h=1\/h=2:=by omega
   ·have h4:e0<0:=by simpa [qcG] using hb
    simp[F49,qaA,qai,qaq,Wa,qaI,qan,h4]
   ·have h4:e1<0:=by simpa [qcG] using hb
    simp[F49,qaA,qai,qaq,Wa,qaI,qan,h4]
   ·have h4:e2<0:=by simpa [qcG] using hb
    simp[F49,qaA,qai,qaq,Wa,qaI,qan,h4]
theorem quX (g6:Z qaa (.call 51 [.ptr 0 0,.int 6] (qaA cs N))=some (.ret (.int pc) (qaA cs N)))
  (g7:Z qaa (.call 51 [.ptr 0 0,.int 7] (qaA cs N))=some (.ret (.int sp) (qaA cs N)))
  (g8:Z qaa (.call 51 [.ptr 0 0,.int 8] (qaA cs N))=some (.ret (.int fuel) (qaA cs N)))
  (hb:fuel<1\/pc<0\/(c.length:Int)<=pc) :
  Z qaa (.call 52 [.iface 0 (.ptr 0 0),s.d,qaq f c e0 e1 e2] (qaA cs N))=some (.ret (.tup [.bool true,.dat (.agg (qal [0,0,0,0])),.bool false]) (qaA cs N)):=by
 refine qab (pf:=F52) rfl rfl ?_
 simp only[qaA,qai] at g6 g7 g8
 by_cases h0:fuel<1
 ·simp[F52,qaA,qai,Su.d,Su.c,qaq,Wa,qal,g6,g7,g8,h0]
 ·by_cases h1:pc<0
  ·simp[F52,qaA,qai,Su.d,Su.c,qaq,Wa,qal,g6,g7,g8,h0,h1]
  ·have h2:(c.length:Int)<=pc:=by omega
   simp[F52,qaA,qai,Su.d,Su.c,qaq,Wa,qal,g6,g7,g8,h0,h1,h2]
theorem qrQ (g6:Z qaa (.call 51 [.ptr 0 0,.int 6] (qaA cs N))=some (.ret (.int pc) (qaA cs N)))
  (g7:Z qaa (.call 51 [.ptr 0 0,.int 7] (qaA cs N))=some (.ret (.int sp) (qaA cs N)))
  (g8:Z qaa (.call 51 [.ptr 0 0,.int 8] (qaA cs N))=some (.ret (.int fuel) (qaA cs N)))
  (hf : ¬ fuel<1) (hp0 : ¬ pc<0) (hp1 : ¬ (c.length:Int)<=pc)
  (hc:qae 2 (.dat (codeDV f c)) pc=some (.dat (.imm (qbO c) (pc.toNat*2)))) (hc2:qah (qbO c) (pc.toNat*2) 2=some [.lit (.int .i64 op),.lit (.int .i64 n)])
  (hx:Z qaa (.call 63 [.dat (.agg [.lit (.int .i64 op),.lit (.int .i64 n)]),.int sp] [])=some (.ret (.bool false) [])) :
  Z qaa (.call 52 [.iface 0 (.ptr 0 0),s.d,qaq f c e0 e1 e2] (qaA cs N))=some (.ret (.tup [.bool true,.dat (.agg (qal [0,0,0,0])),.bool false]) (qaA cs N)):=by
 refine qab (pf:=F52) rfl rfl ?_
 simp only[qaA,qai] at g6 g7 g8
 simp[F52,qaA,qai,Su.d,Su.c,qaq,Wa,qal,g6,g7,g8,hf,hp0,hp1,hc,hc2,hx]
theorem qrR (he : ¬ e<0) (hE:e0=e)
  (s6:Z qaa (.call 114 [.ptr 0 0,.int 6,.int e] (qai cs N lg k t))=some (.ret (.tup []) (qai cs1 N lg1 k1 t1)))
  (s7:Z qaa (.call 114 [.ptr 0 0,.int 7,.int 0] (qai cs1 N lg1 k1 t1))=some (.ret (.tup []) (qai cs2 N lg2 k2 t2)))
  (s8:Z qaa (.call 114 [.ptr 0 0,.int 8,.int fuel] (qai cs2 N lg2 k2 t2))=some (.ret (.tup []) (qai cs3 N lg3 k3 t3)))
  (s9:Z qaa (.call 114 [.ptr 0 0,.int 9,.int self] (qai cs3 N lg3 k3 t3))=some (.ret (.tup []) (qai cs4 N lg4 k4 t4)))
  (s10:Z qaa (.call 114 [.ptr 0 0,.int 10,.int other] (qai cs4 N lg4 k4 t4))=some (.ret (.tup []) (qai cs5 N lg5 k5 t5))) :
  Z qaa (.call 49 [.iface 0 (.ptr 0 0),qaq f c e0 e1 e2,.int 0,.int self,.int other,.int fuel] (qai cs N lg k t))=some (.ret (.bool true) (qai cs5 N lg5 k5 t5)):=by
 refine qab (pf:=F49) rfl rfl ?_
 subst hE
 simp only[qaA,qai] at s6 s7 s8 s9 s10
 simp[F49,qaA,qai,qaq,Wa,qaI,qan,he,s6,s7,s8,s9,s10]
theorem qrS (he : ¬ e<0) (hE:e1=e)
  (s6:Z qaa (.call 114 [.ptr 0 0,.int 6,.int e] (qai cs N lg k t))=some (.ret (.tup []) (qai cs1 N lg1 k1 t1)))
  (s7:Z qaa (.call 114 [.ptr 0 0,.int 7,.int 0] (qai cs1 N lg1 k1 t1))=some (.ret (.tup []) (qai cs2 N lg2 k2 t2)))
  (s8:Z qaa (.call 114 [.ptr 0 0,.int 8,.int fuel] (qai cs2 N lg2 k2 t2))=some (.ret (.tup []) (qai cs3 N lg3 k3 t3)))
  (s9:Z qaa (.call 114 [.ptr 0 0,.int 9,.int self] (qai cs3 N lg3 k3 t3))=some (.ret (.tup []) (qai cs4 N lg4 k4 t4)))
  (s10:Z qaa (.call 114 [.ptr 0 0,.int 10,.int other] (qai cs4 N lg4 k4 t4))=some (.ret (.tup []) (qai cs5 N lg5 k5 t5))) :
  Z qaa (.call 49 [.iface 0 (.ptr 0 0),qaq f c e0 e1 e2,.int 1,.int self,.int other,.int fuel] (qai cs N lg k t))=some (.ret (.bool true) (qai cs5 N lg5 k5 t5)):=by
 refine qab (pf:=F49) rfl rfl ?_
 subst hE
 simp only[qaA,qai] at s6 s7 s8 s9 s10
 simp[F49,qaA,qai,qaq,Wa,qaI,qan,he,s6,s7,s8,s9,s10]
theorem qrT (he : ¬ e<0) (hE:e2=e)
  (s6:Z qaa (.call 114 [.ptr 0 0,.int 6,.int e] (qai cs N lg k t))=some (.ret (.tup []) (qai cs1 N lg1 k1 t1)))
  (s7:Z qaa (.call 114 [.ptr 0 0,.int 7,.int 0] (qai cs1 N lg1 k1 t1))=some (.ret (.tup []) (qai cs2 N lg2 k2 t2)))
  (s8:Z qaa (.call 114 [.ptr 0 0,.int 8,.int fuel] (qai cs2 N lg2 k2 t2))=some (.ret (.tup []) (qai cs3 N lg3 k3 t3)))
  (s9:Z qaa (.call 114 [.ptr 0 0,.int 9,.int self] (qai cs3 N lg3 k3 t3))=some (.ret (.tup []) (qai cs4 N lg4 k4 t4)))
  (s10:Z qaa (.call 114 [.ptr 0 0,.int 10,.int other] (qai cs4 N lg4 k4 t4))=some (.ret (.tup []) (qai cs5 N lg5 k5 t5))) :
  Z qaa (.call 49 [.iface 0 (.ptr 0 0),qaq f c e0 e1 e2,.int 2,.int self,.int other,.int fuel] (qai cs N lg k t))=some (.ret (.bool true) (qai cs5 N lg5 k5 t5)):=by
 refine qab (pf:=F49) rfl rfl ?_
 subst hE
 simp only[qaA,qai] at s6 s7 s8 s9 s10
 simp[F49,qaA,qai,qaq,Wa,qaI,qan,he,s6,s7,s8,s9,s10]
theorem qrU (hb:h<0\/3<=h\/qcG e0 e1 e2 h<0) :
  Z qaa (.call 49 [.iface 0 (.ptr 0 0),qaq f c e0 e1 e2,.int h,.int self,.int other,.int fuel] (qai cs N lg k t))=some (.ret (.bool false) (qai cs N lg k t)):=by
 refine qab (pf:=F49) rfl rfl ?_
 by_cases h0:h<0
 ·simp[F49,qaA,qai,qaq,Wa,qaI,qan,h0]
 ·by_cases h3:3<=h
  ·simp[F49,qaA,qai,qaq,Wa,qaI,qan,h0,h3]
  ·obtain rfl|rfl|rfl:h=0\/h=1\/h=2:=by omega
   ·have h4:e0<0:=by simpa [qcG] using hb
    simp[F49,qaA,qai,qaq,Wa,qaI,qan,h4]
   ·have h4:e1<0:=by simpa [qcG] using hb
    simp[F49,qaA,qai,qaq,Wa,qaI,qan,h4]
   ·have h4:e2<0:=by simpa [qcG] using hb
    simp[F49,qaA,qai,qaq,Wa,qaI,qan,h4]
theorem quY (g6:Z qaa (.call 51 [.ptr 0 0,.int 6] (qai cs N lg k t))=some (.ret (.int pc) (qai cs N lg k t)))
  (g7:Z qaa (.call 51 [.ptr 0 0,.int 7] (qai cs N lg k t))=some (.ret (.int sp) (qai cs N lg k t)))
  (g8:Z qaa (.call 51 [.ptr 0 0,.int 8] (qai cs N lg k t))=some (.ret (.int fuel) (qai cs N lg k t)))
  (hb:fuel<1\/pc<0\/(c.length:Int)<=pc) :
  Z qaa (.call 52 [.iface 0 (.ptr 0 0),s.d,qaq f c e0 e1 e2] (qai cs N lg k t))=some (.ret (.tup [.bool true,.dat (.agg (qal [0,0,0,0])),.bool false]) (qai cs N lg k t)):=by
 refine qab (pf:=F52) rfl rfl ?_
 simp only[qaA,qai] at g6 g7 g8
 by_cases h0:fuel<1
 ·simp[F52,qaA,qai,Su.d,Su.c,qaq,Wa,qal,g6,g7,g8,h0]
 ·by_cases h1:pc<0
  ·simp[F52,qaA,qai,Su.d,Su.c,qaq,Wa,qal,g6,g7,g8,h0,h1]
  ·have h2:(c.length:Int)<=pc:=by omega
   simp[F52,qaA,qai,Su.d,Su.c,qaq,Wa,qal,g6,g7,g8,h0,h1,h2]
theorem qrV (g6:Z qaa (.call 51 [.ptr 0 0,.int 6] (qai cs N lg k t))=some (.ret (.int pc) (qai cs N lg k t)))
  (g7:Z qaa (.call 51 [.ptr 0 0,.int 7] (qai cs N lg k t))=some (.ret (.int sp) (qai cs N lg k t)))
  (g8:Z qaa (.call 51 [.ptr 0 0,.int 8] (qai cs N lg k t))=some (.ret (.int fuel) (qai cs N lg k t)))
  (hf : ¬ fuel<1) (hp0 : ¬ pc<0) (hp1 : ¬ (c.length:Int)<=pc)
  (hc:qae 2 (.dat (codeDV f c)) pc=some (.dat (.imm (qbO c) (pc.toNat*2)))) (hc2:qah (qbO c) (pc.toNat*2) 2=some [.lit (.int .i64 op),.lit (.int .i64 n)])
  (hx:Z qaa (.call 63 [.dat (.agg [.lit (.int .i64 op),.lit (.int .i64 n)]),.int sp] [])=some (.ret (.bool false) [])) :
  Z qaa (.call 52 [.iface 0 (.ptr 0 0),s.d,qaq f c e0 e1 e2] (qai cs N lg k t))=some (.ret (.tup [.bool true,.dat (.agg (qal [0,0,0,0])),.bool false]) (qai cs N lg k t)):=by
 refine qab (pf:=F52) rfl rfl ?_
 simp only[qaA,qai] at g6 g7 g8
 simp[F52,qaA,qai,Su.d,Su.c,qaq,Wa,qal,g6,g7,g8,hf,hp0,hp1,hc,hc2,hx]
end
end
section
open F
def insAt(c:List (Nat × Int))(pc:Int):Nat × Int:=c.getD pc.toNat (0,0)
def popA(cs:List Int)(op:Nat):Int:=if popsN op=0 then 0 else getI cs (16+getI cs 7-popsN op)
def popB(cs:List Int)(op:Nat):Int:=if popsN op=2 then getI cs (16+getI cs 7-popsN op+1) else 0
def preC(cs:List Int)(op:Nat):List Int:=
 if popsN op=pushN op then qao (qao cs 8 (wr (getI cs 8-1))) 6 (wr (getI cs 6+1))
 else qao (qao (qao cs 8 (wr (getI cs 8-1))) 6 (wr (getI cs 6+1))) 7 (getI cs 7-popsN op+pushN op)
def postC(s:Su)(cs:List Int)(op:Nat)(n:Int):List Int:=
 if pushN op=0 then exC s (preC cs op) op n (popA cs op) (popB cs op)
 else qao (exC s (preC cs op) op n (popA cs op) (popB cs op)) (16+getI cs 7-popsN op) (exV s (preC cs op) op n (popA cs op) (popB cs op))
def qbV(c:List (Nat × Int))(cs:List Int):Bool:=
 !(decide (getI cs 8<1)||(decide (getI cs 6<0)||decide ((c.length:Int)<=getI cs 6)))&&qmw (insAt c (getI cs 6)).1 (insAt c (getI cs 6)).2 (getI cs 7)
structure StR where
 cs:List Int
 ended:Bool
 e:List Int
 em:Bool
def qcH(s:Su)(c:List (Nat × Int))(cs:List Int):StR:=
 if qbV c cs then
  let x:=insAt c (getI cs 6)
  ⟨postC s cs x.1 x.2,decide ((x.1:Int)=21),exE (preC cs x.1) x.1 (popA cs x.1) (popB cs x.1),exB (preC cs x.1) x.1⟩
 else ⟨cs,true,[0,0,0,0],false⟩
def StR.v(r:StR):V := .tup [.bool r.ended,.dat (.agg (qal r.e)),.bool r.em]
@[simp] theorem qbi(cs:List Int)(op:Nat):(preC cs op).length=cs.length:=by unfold preC; split<;>simp
theorem qcP(s:Su)(cs:List Int)(op:Nat)(n a b:Int):(exC s cs op n a b).length=cs.length:=by
 unfold exC; split<;>(try split)<;>simp
theorem qli(s:Su)(cs:List Int)(op:Nat)(n:Int):(postC s cs op n).length=cs.length:=by
 unfold postC; split<;>simp[qcP]
theorem qlj(s:Su)(c:List (Nat × Int))(cs:List Int):(qcH s c cs).cs.length=cs.length:=by
 unfold qcH; split
 ·exact qli _ _ _ _
 ·rfl
theorem qkg(cs:List Int)(op:Nat)(a b:Int) : ∃ x1 x2 x3 x4,exE cs op a b=[x1,x2,x3,x4]:=by
 unfold exE; split<;>exact⟨_,_,_,_,rfl⟩
theorem qgu{op:Nat}{n sp:Int}(h:qmw op n sp=true):sp<=16/\(popsN op:Int)<=sp/\sp-popsN op+pushN op<=16/\(operN op=0\/(0<=n/\n<operN op)):=by
 simpa [qmw] using h
theorem qap(cs:List Int)(i:Int):(ent cs i).length=2:=rfl
theorem qvw (s:Su) (c:List (Nat × Int)) (f:Bool) (e0 e1 e2:Int) (cs:List Int) (N:Nat) (hs:s.ok) (hN:cs.length=N) (h:N=s.n) (hc : ∀ x∈c,1<=x.1/\x.1<=21) (hcl:c.length<2^30) (hcan:qbV c cs=true) :
  ∃ lg' k',lg'.length=k'*2/\k'<=6/\Z qaa (.call 52 [.iface 0 (.ptr 0 0),s.d,qaq f c e0 e1 e2] (qaA cs N))=some (.ret (qcH s c cs).v (qai (qcH s c cs).cs N lg' k' (k'*2))):=by
 have h48:48<=N:=by rw[h]; unfold Su.n; omega
 have hN1:N<1000:=by have:=hs.p3; have:=hs.b5; rw[h]; unfold Su.n; omega
 unfold qcH
 rw[if_pos hcan]
 simp only[qbV,Wq,Bool.not_eq_true',W8,decide_eq_false_iff_not] at hcan
 obtain⟨⟨hf,hp0,hp1⟩,hx⟩:=hcan
 have hi:(getI cs 6).toNat<c.length:=by omega
 have hins:insAt c (getI cs 6)=c[(getI cs 6).toNat]:=by simp[insAt,Wn,hi]
 have hmem:=hc _ (WR hi)
 have hcut:=qdx c _ hi
 have hat:=qfx f c (getI cs 6) (by omega) (by omega)
 rw[<- hins] at hmem hcut
 generalize insAt c (getI cs 6)=ins at *
 obtain⟨op,n⟩:=ins
 simp only at hmem hcut hx ⊢
 obtain⟨q1,q2,q3,q4⟩:=qgu hx
 have hexe:=qs9 op n (getI cs 7) hmem.1 hmem.2
 rw[hx] at hexe
 have c0:=qBS op hmem.1 hmem.2
 have c1:=qBT op hmem.1 hmem.2
 have wa:=qag (16+getI cs 7) (by omega)
 have hop:(op:Int)<22:=by omega
 have hp2:=qkz op
 have hu2:=qkA op
 obtain⟨x1,x2,x3,x4,hE⟩:=qkg (preC cs op) op (popA cs op) (popB cs op)
 have s8:=qtt (cs:=cs) (n:=N) (i:=8) (v:=wr (getI cs 8-1)) hN (by omega) (by omega)
 have s6:=qbp (cs:=qao cs 8 (wr (getI cs 8-1))) (n:=N) (lg:=ent cs 8) (k:=1) (i:=6) (v:=wr (getI cs 6+1)) (by simp[hN]) (by omega) (by omega) (by simp[qap]) (by omega)
 obtain⟨p,hpp⟩ : ∃ p,popsN op=p:=⟨_,rfl⟩
 obtain⟨q,hqq⟩ : ∃ q,pushN op=q:=⟨_,rfl⟩
 simp only[hpp,hqq] at q2 q3 c0 c1 hp2 hu2
 by_cases hPQ:p=0/\q=0
 ·obtain⟨rfl,rfl⟩:=hPQ
  have eA:popA cs op=0:=by simp[popA,hpp]
  have eB:popB cs op=0:=by simp[popB,hpp]
  have eP:preC cs op=(qao (qao cs 8 (wr (getI cs 8-1))) 6 (wr (getI cs 6+1))):=by simp[preC,hpp,hqq]
  rw[eA,eB] at hE
  obtain⟨lg',k',hl',hk',hex⟩:=qoT s (preC cs op) N ((ent cs 8)++ent (qao cs 8 (wr (getI cs 8-1))) 6) (2) op n (0) (0) hs (by simp only[qbi,hN]) h (by simp[qap]) (by omega) hmem.1 hmem.2 q4
  rw[hE] at hex
  have ePost:postC s cs op n=(exC s (preC cs op) op n (0) (0)):=by simp[postC,hpp,hqq,eA,eB]
  rw[ePost,eA,eB,StR.v,hE]
  refine⟨lg',k',hl',by omega,?_⟩
  rw[eP] at hex ⊢
  exact qsN (qbu hN (by omega) (by omega)) (qbu hN (by omega) (by omega)) (qbu hN (by omega) (by omega)) hf hp0 hp1 hat hcut hexe hop c0 c1 wa rfl wa rfl rfl s8 s6 hex
 by_cases hPQ:p=0/\q=1
 ·obtain⟨rfl,rfl⟩:=hPQ
  have eA:popA cs op=0:=by simp[popA,hpp]
  have eB:popB cs op=0:=by simp[popB,hpp]
  have eP:preC cs op=(qao (qao (qao cs 8 (wr (getI cs 8-1))) 6 (wr (getI cs 6+1))) 7 (getI cs 7+1)):=by simp[preC,hpp,hqq]
  have s7:=qbp (cs:=(qao (qao cs 8 (wr (getI cs 8-1))) 6 (wr (getI cs 6+1)))) (n:=N) (lg:=(ent cs 8)++ent (qao cs 8 (wr (getI cs 8-1))) 6) (k:=2) (i:=7) (v:=(getI cs 7+1)) (by simp[hN]) (by omega) (by omega) (by simp[qap]) (by omega)
  rw[eA,eB] at hE
  obtain⟨lg',k',hl',hk',hex⟩:=qoT s (preC cs op) N (((ent cs 8)++ent (qao cs 8 (wr (getI cs 8-1))) 6)++ent (qao (qao cs 8 (wr (getI cs 8-1))) 6 (wr (getI cs 6+1))) 7) (3) op n (0) (0) hs (by simp only[qbi,hN]) h (by simp[qap]) (by omega) hmem.1 hmem.2 q4
  rw[hE] at hex
  have sv:=qbp (cs:=(exC s (preC cs op) op n (0) (0))) (n:=N) (lg:=lg') (k:=k') (i:=(16+getI cs 7)) (v:=(exV s (preC cs op) op n (0) (0))) (by simp[qcP,hN]) (by omega) (by omega) hl' (by omega)
  have ePost:postC s cs op n=qao (exC s (preC cs op) op n (0) (0)) (16+getI cs 7) (exV s (preC cs op) op n (0) (0)):=by simp[postC,hpp,hqq,eA,eB]
  rw[ePost,eA,eB,StR.v,hE]
  refine⟨lg'++ent (exC s (preC cs op) op n (0) (0)) (16+getI cs 7),k'+1,by simp[qap,hl']; omega,by omega,?_⟩
  rw[eP] at hex sv ⊢
  exact qsI (qbu hN (by omega) (by omega)) (qbu hN (by omega) (by omega)) (qbu hN (by omega) (by omega)) hf hp0 hp1 hat hcut hexe hop c0 c1 wa rfl wa rfl rfl s8 s6 (qag _ (by omega)) (qag _ (by omega)) s7 hex sv
 by_cases hPQ:p=1/\q=0
 ·obtain⟨rfl,rfl⟩:=hPQ
  have eA:popA cs op=getI cs (16+getI cs 7-1):=by simp[popA,hpp]
  have eB:popB cs op=0:=by simp[popB,hpp]
  have eP:preC cs op=(qao (qao (qao cs 8 (wr (getI cs 8-1))) 6 (wr (getI cs 6+1))) 7 (getI cs 7-1)):=by simp[preC,hpp,hqq]
  have s7:=qbp (cs:=(qao (qao cs 8 (wr (getI cs 8-1))) 6 (wr (getI cs 6+1)))) (n:=N) (lg:=(ent cs 8)++ent (qao cs 8 (wr (getI cs 8-1))) 6) (k:=2) (i:=7) (v:=(getI cs 7-1)) (by simp[hN]) (by omega) (by omega) (by simp[qap]) (by omega)
  rw[eA,eB] at hE
  obtain⟨lg',k',hl',hk',hex⟩:=qoT s (preC cs op) N (((ent cs 8)++ent (qao cs 8 (wr (getI cs 8-1))) 6)++ent (qao (qao cs 8 (wr (getI cs 8-1))) 6 (wr (getI cs 6+1))) 7) (3) op n (getI cs (16+getI cs 7-1)) (0) hs (by simp only[qbi,hN]) h (by simp[qap]) (by omega) hmem.1 hmem.2 q4
  rw[hE] at hex
  have ePost:postC s cs op n=(exC s (preC cs op) op n (getI cs (16+getI cs 7-1)) (0)):=by simp[postC,hpp,hqq,eA,eB]
  rw[ePost,eA,eB,StR.v,hE]
  refine⟨lg',k',hl',by omega,?_⟩
  rw[eP] at hex ⊢
  exact qsJ (qbu hN (by omega) (by omega)) (qbu hN (by omega) (by omega)) (qbu hN (by omega) (by omega)) hf hp0 hp1 hat hcut hexe hop c0 c1 wa (qag _ (by omega)) rfl rfl (qbu hN (by omega) (by omega)) s8 s6 (qag _ (by omega)) rfl s7 hex
 by_cases hPQ:p=1/\q=1
 ·obtain⟨rfl,rfl⟩:=hPQ
  have eA:popA cs op=getI cs (16+getI cs 7-1):=by simp[popA,hpp]
  have eB:popB cs op=0:=by simp[popB,hpp]
  have eP:preC cs op=(qao (qao cs 8 (wr (getI cs 8-1))) 6 (wr (getI cs 6+1))):=by simp[preC,hpp,hqq]
  rw[eA,eB] at hE
  obtain⟨lg',k',hl',hk',hex⟩:=qoT s (preC cs op) N ((ent cs 8)++ent (qao cs 8 (wr (getI cs 8-1))) 6) (2) op n (getI cs (16+getI cs 7-1)) (0) hs (by simp only[qbi,hN]) h (by simp[qap]) (by omega) hmem.1 hmem.2 q4
  rw[hE] at hex
  have sv:=qbp (cs:=(exC s (preC cs op) op n (getI cs (16+getI cs 7-1)) (0))) (n:=N) (lg:=lg') (k:=k') (i:=(16+getI cs 7-1)) (v:=(exV s (preC cs op) op n (getI cs (16+getI cs 7-1)) (0))) (by simp[qcP,hN]) (by omega) (by omega) hl' (by omega)
  have ePost:postC s cs op n=qao (exC s (preC cs op) op n (getI cs (16+getI cs 7-1)) (0)) (16+getI cs 7-1) (exV s (preC cs op) op n (getI cs (16+getI cs 7-1)) (0)):=by simp[postC,hpp,hqq,eA,eB]
  rw[ePost,eA,eB,StR.v,hE]
  refine⟨lg'++ent (exC s (preC cs op) op n (getI cs (16+getI cs 7-1)) (0)) (16+getI cs 7-1),k'+1,by simp[qap,hl']; omega,by omega,?_⟩
  rw[eP] at hex sv ⊢
  exact qsK (qbu hN (by omega) (by omega)) (qbu hN (by omega) (by omega)) (qbu hN (by omega) (by omega)) hf hp0 hp1 hat hcut hexe hop c0 c1 wa (qag _ (by omega)) rfl rfl (qbu hN (by omega) (by omega)) s8 s6 hex sv
 by_cases hPQ:p=2/\q=0
 ·obtain⟨rfl,rfl⟩:=hPQ
  have eA:popA cs op=getI cs (16+getI cs 7-2):=by simp[popA,hpp]
  have eB:popB cs op=getI cs ((16+getI cs 7-2)+1):=by simp[popB,hpp]
  have eP:preC cs op=(qao (qao (qao cs 8 (wr (getI cs 8-1))) 6 (wr (getI cs 6+1))) 7 (getI cs 7-2)):=by simp[preC,hpp,hqq]
  have s7:=qbp (cs:=(qao (qao cs 8 (wr (getI cs 8-1))) 6 (wr (getI cs 6+1)))) (n:=N) (lg:=(ent cs 8)++ent (qao cs 8 (wr (getI cs 8-1))) 6) (k:=2) (i:=7) (v:=(getI cs 7-2)) (by simp[hN]) (by omega) (by omega) (by simp[qap]) (by omega)
  rw[eA,eB] at hE
  obtain⟨lg',k',hl',hk',hex⟩:=qoT s (preC cs op) N (((ent cs 8)++ent (qao cs 8 (wr (getI cs 8-1))) 6)++ent (qao (qao cs 8 (wr (getI cs 8-1))) 6 (wr (getI cs 6+1))) 7) (3) op n (getI cs (16+getI cs 7-2)) (getI cs ((16+getI cs 7-2)+1)) hs (by simp only[qbi,hN]) h (by simp[qap]) (by omega) hmem.1 hmem.2 q4
  rw[hE] at hex
  have ePost:postC s cs op n=(exC s (preC cs op) op n (getI cs (16+getI cs 7-2)) (getI cs ((16+getI cs 7-2)+1))):=by simp[postC,hpp,hqq,eA,eB]
  rw[ePost,eA,eB,StR.v,hE]
  refine⟨lg',k',hl',by omega,?_⟩
  rw[eP] at hex ⊢
  exact qsL (qbu hN (by omega) (by omega)) (qbu hN (by omega) (by omega)) (qbu hN (by omega) (by omega)) hf hp0 hp1 hat hcut hexe hop c0 c1 wa (qag _ (by omega)) rfl rfl (qbu hN (by omega) (by omega)) (qag _ (by omega)) (qbu hN (by omega) (by omega)) s8 s6 (qag _ (by omega)) rfl s7 hex
 by_cases hPQ:p=2/\q=1
 ·obtain⟨rfl,rfl⟩:=hPQ
  have eA:popA cs op=getI cs (16+getI cs 7-2):=by simp[popA,hpp]
  have eB:popB cs op=getI cs ((16+getI cs 7-2)+1):=by simp[popB,hpp]
  have eP:preC cs op=(qao (qao (qao cs 8 (wr (getI cs 8-1))) 6 (wr (getI cs 6+1))) 7 (getI cs 7-2+1)):=by simp[preC,hpp,hqq]
  have s7:=qbp (cs:=(qao (qao cs 8 (wr (getI cs 8-1))) 6 (wr (getI cs 6+1)))) (n:=N) (lg:=(ent cs 8)++ent (qao cs 8 (wr (getI cs 8-1))) 6) (k:=2) (i:=7) (v:=(getI cs 7-2+1)) (by simp[hN]) (by omega) (by omega) (by simp[qap]) (by omega)
  rw[eA,eB] at hE
  obtain⟨lg',k',hl',hk',hex⟩:=qoT s (preC cs op) N (((ent cs 8)++ent (qao cs 8 (wr (getI cs 8-1))) 6)++ent (qao (qao cs 8 (wr (getI cs 8-1))) 6 (wr (getI cs 6+1))) 7) (3) op n (getI cs (16+getI cs 7-2)) (getI cs ((16+getI cs 7-2)+1)) hs (by simp only[qbi,hN]) h (by simp[qap]) (by omega) hmem.1 hmem.2 q4
  rw[hE] at hex
  have sv:=qbp (cs:=(exC s (preC cs op) op n (getI cs (16+getI cs 7-2)) (getI cs ((16+getI cs 7-2)+1)))) (n:=N) (lg:=lg') (k:=k') (i:=(16+getI cs 7-2)) (v:=(exV s (preC cs op) op n (getI cs (16+getI cs 7-2)) (getI cs ((16+getI cs 7-2)+1)))) (by simp[qcP,hN]) (by omega) (by omega) hl' (by omega)
  have ePost:postC s cs op n=qao (exC s (preC cs op) op n (getI cs (16+getI cs 7-2)) (getI cs ((16+getI cs 7-2)+1))) (16+getI cs 7-2) (exV s (preC cs op) op n (getI cs (16+getI cs 7-2)) (getI cs ((16+getI cs 7-2)+1))):=by simp[postC,hpp,hqq,eA,eB]
  rw[ePost,eA,eB,StR.v,hE]
  refine⟨lg'++ent (exC s (preC cs op) op n (getI cs (16+getI cs 7-2)) (getI cs ((16+getI cs 7-2)+1))) (16+getI cs 7-2),k'+1,by simp[qap,hl']; omega,by omega,?_⟩
  rw[eP] at hex sv ⊢
  exact qsM (qbu hN (by omega) (by omega)) (qbu hN (by omega) (by omega)) (qbu hN (by omega) (by omega)) hf hp0 hp1 hat hcut hexe hop c0 c1 wa (qag _ (by omega)) rfl rfl (qbu hN (by omega) (by omega)) (qag _ (by omega)) (qbu hN (by omega) (by omega)) s8 s6 (qag _ (by omega)) (qag _ (by omega)) s7 hex sv
 exfalso; omega
theorem qvx (s:Su) (c:List (Nat × Int)) (f:Bool) (e0 e1 e2:Int) (cs:List Int) (N:Nat) (lg:List D) (k:Nat) (hl:lg.length=k*2) (hk:k<2^28) (hs:s.ok) (hN:cs.length=N) (h:N=s.n) (hc : ∀ x∈c,1<=x.1/\x.1<=21) (hcl:c.length<2^30) (hcan:qbV c cs=true) :
  ∃ lg' k',lg'.length=k'*2/\k'<=k+6/\Z qaa (.call 52 [.iface 0 (.ptr 0 0),s.d,qaq f c e0 e1 e2] (qai cs N lg k (k*2)))=some (.ret (qcH s c cs).v (qai (qcH s c cs).cs N lg' k' (k'*2))):=by
 have h48:48<=N:=by rw[h]; unfold Su.n; omega
 have hN1:N<1000:=by have:=hs.p3; have:=hs.b5; rw[h]; unfold Su.n; omega
 unfold qcH
 rw[if_pos hcan]
 simp only[qbV,Wq,Bool.not_eq_true',W8,decide_eq_false_iff_not] at hcan
 obtain⟨⟨hf,hp0,hp1⟩,hx⟩:=hcan
 have hi:(getI cs 6).toNat<c.length:=by omega
 have hins:insAt c (getI cs 6)=c[(getI cs 6).toNat]:=by simp[insAt,Wn,hi]
 have hmem:=hc _ (WR hi)
 have hcut:=qdx c _ hi
 have hat:=qfx f c (getI cs 6) (by omega) (by omega)
 rw[<- hins] at hmem hcut
 generalize insAt c (getI cs 6)=ins at *
 obtain⟨op,n⟩:=ins
 simp only at hmem hcut hx ⊢
 obtain⟨q1,q2,q3,q4⟩:=qgu hx
 have hexe:=qs9 op n (getI cs 7) hmem.1 hmem.2
 rw[hx] at hexe
 have c0:=qBS op hmem.1 hmem.2
 have c1:=qBT op hmem.1 hmem.2
 have wa:=qag (16+getI cs 7) (by omega)
 have hop:(op:Int)<22:=by omega
 have hp2:=qkz op
 have hu2:=qkA op
 obtain⟨x1,x2,x3,x4,hE⟩:=qkg (preC cs op) op (popA cs op) (popB cs op)
 have s8:=qbp (cs:=cs) (n:=N) (i:=8) (v:=wr (getI cs 8-1)) hN (by omega) (by omega) hl (by omega)
 have s6:=qbp (cs:=qao cs 8 (wr (getI cs 8-1))) (n:=N) (lg:=lg++ent cs 8) (k:=(k+1)) (i:=6) (v:=wr (getI cs 6+1)) (by simp[hN]) (by omega) (by omega) (by simp[qap,hl]; omega) (by omega)
 obtain⟨p,hpp⟩ : ∃ p,popsN op=p:=⟨_,rfl⟩
 obtain⟨q,hqq⟩ : ∃ q,pushN op=q:=⟨_,rfl⟩
 simp only[hpp,hqq] at q2 q3 c0 c1 hp2 hu2
 by_cases hPQ:p=0/\q=0
 ·obtain⟨rfl,rfl⟩:=hPQ
  have eA:popA cs op=0:=by simp[popA,hpp]
  have eB:popB cs op=0:=by simp[popB,hpp]
  have eP:preC cs op=(qao (qao cs 8 (wr (getI cs 8-1))) 6 (wr (getI cs 6+1))):=by simp[preC,hpp,hqq]
  rw[eA,eB] at hE
  obtain⟨lg',k',hl',hk',hex⟩:=qoT s (preC cs op) N ((lg++ent cs 8)++ent (qao cs 8 (wr (getI cs 8-1))) 6) (k+2) op n (0) (0) hs (by simp only[qbi,hN]) h (by simp[qap,hl]; omega) (by omega) hmem.1 hmem.2 q4
  rw[hE] at hex
  have ePost:postC s cs op n=(exC s (preC cs op) op n (0) (0)):=by simp[postC,hpp,hqq,eA,eB]
  rw[ePost,eA,eB,StR.v,hE]
  refine⟨lg',k',hl',by omega,?_⟩
  rw[eP] at hex ⊢
  exact qsT (qa0 hN (by omega) (by omega)) (qa0 hN (by omega) (by omega)) (qa0 hN (by omega) (by omega)) hf hp0 hp1 hat hcut hexe hop c0 c1 wa rfl wa rfl rfl s8 s6 hex
 by_cases hPQ:p=0/\q=1
 ·obtain⟨rfl,rfl⟩:=hPQ
  have eA:popA cs op=0:=by simp[popA,hpp]
  have eB:popB cs op=0:=by simp[popB,hpp]
  have eP:preC cs op=(qao (qao (qao cs 8 (wr (getI cs 8-1))) 6 (wr (getI cs 6+1))) 7 (getI cs 7+1)):=by simp[preC,hpp,hqq]
  have s7:=qbp (cs:=(qao (qao cs 8 (wr (getI cs 8-1))) 6 (wr (getI cs 6+1)))) (n:=N) (lg:=(lg++ent cs 8)++ent (qao cs 8 (wr (getI cs 8-1))) 6) (k:=(k+2)) (i:=7) (v:=(getI cs 7+1)) (by simp[hN]) (by omega) (by omega) (by simp[qap,hl]; omega) (by omega)
  rw[eA,eB] at hE
  obtain⟨lg',k',hl',hk',hex⟩:=qoT s (preC cs op) N (((lg++ent cs 8)++ent (qao cs 8 (wr (getI cs 8-1))) 6)++ent (qao (qao cs 8 (wr (getI cs 8-1))) 6 (wr (getI cs 6+1))) 7) (k+3) op n (0) (0) hs (by simp only[qbi,hN]) h (by simp[qap,hl]; omega) (by omega) hmem.1 hmem.2 q4
  rw[hE] at hex
  have sv:=qbp (cs:=(exC s (preC cs op) op n (0) (0))) (n:=N) (lg:=lg') (k:=k') (i:=(16+getI cs 7)) (v:=(exV s (preC cs op) op n (0) (0))) (by simp[qcP,hN]) (by omega) (by omega) hl' (by omega)
  have ePost:postC s cs op n=qao (exC s (preC cs op) op n (0) (0)) (16+getI cs 7) (exV s (preC cs op) op n (0) (0)):=by simp[postC,hpp,hqq,eA,eB]
  rw[ePost,eA,eB,StR.v,hE]
  refine⟨lg'++ent (exC s (preC cs op) op n (0) (0)) (16+getI cs 7),k'+1,by simp[qap,hl']; omega,by omega,?_⟩
  rw[eP] at hex sv ⊢
  exact qsO (qa0 hN (by omega) (by omega)) (qa0 hN (by omega) (by omega)) (qa0 hN (by omega) (by omega)) hf hp0 hp1 hat hcut hexe hop c0 c1 wa rfl wa rfl rfl s8 s6 (qag _ (by omega)) (qag _ (by omega)) s7 hex sv
 by_cases hPQ:p=1/\q=0
 ·obtain⟨rfl,rfl⟩:=hPQ
  have eA:popA cs op=getI cs (16+getI cs 7-1):=by simp[popA,hpp]
  have eB:popB cs op=0:=by simp[popB,hpp]
  have eP:preC cs op=(qao (qao (qao cs 8 (wr (getI cs 8-1))) 6 (wr (getI cs 6+1))) 7 (getI cs 7-1)):=by simp[preC,hpp,hqq]
  have s7:=qbp (cs:=(qao (qao cs 8 (wr (getI cs 8-1))) 6 (wr (getI cs 6+1)))) (n:=N) (lg:=(lg++ent cs 8)++ent (qao cs 8 (wr (getI cs 8-1))) 6) (k:=(k+2)) (i:=7) (v:=(getI cs 7-1)) (by simp[hN]) (by omega) (by omega) (by simp[qap,hl]; omega) (by omega)
  rw[eA,eB] at hE
  obtain⟨lg',k',hl',hk',hex⟩:=qoT s (preC cs op) N (((lg++ent cs 8)++ent (qao cs 8 (wr (getI cs 8-1))) 6)++ent (qao (qao cs 8 (wr (getI cs 8-1))) 6 (wr (getI cs 6+1))) 7) (k+3) op n (getI cs (16+getI cs 7-1)) (0) hs (by simp only[qbi,hN]) h (by simp[qap,hl]; omega) (by omega) hmem.1 hmem.2 q4
  rw[hE] at hex
  have ePost:postC s cs op n=(exC s (preC cs op) op n (getI cs (16+getI cs 7-1)) (0)):=by simp[postC,hpp,hqq,eA,eB]
  rw[ePost,eA,eB,StR.v,hE]
  refine⟨lg',k',hl',by omega,?_⟩
  rw[eP] at hex ⊢
  exact qsP (qa0 hN (by omega) (by omega)) (qa0 hN (by omega) (by omega)) (qa0 hN (by omega) (by omega)) hf hp0 hp1 hat hcut hexe hop c0 c1 wa (qag _ (by omega)) rfl rfl (qa0 hN (by omega) (by omega)) s8 s6 (qag _ (by omega)) rfl s7 hex
 by_cases hPQ:p=1/\q=1
 ·obtain⟨rfl,rfl⟩:=hPQ
  have eA:popA cs op=getI cs (16+getI cs 7-1):=by simp[popA,hpp]
  have eB:popB cs op=0:=by simp[popB,hpp]
  have eP:preC cs op=(qao (qao cs 8 (wr (getI cs 8-1))) 6 (wr (getI cs 6+1))):=by simp[preC,hpp,hqq]
  rw[eA,eB] at hE
  obtain⟨lg',k',hl',hk',hex⟩:=qoT s (preC cs op) N ((lg++ent cs 8)++ent (qao cs 8 (wr (getI cs 8-1))) 6) (k+2) op n (getI cs (16+getI cs 7-1)) (0) hs (by simp only[qbi,hN]) h (by simp[qap,hl]; omega) (by omega) hmem.1 hmem.2 q4
  rw[hE] at hex
  have sv:=qbp (cs:=(exC s (preC cs op) op n (getI cs (16+getI cs 7-1)) (0))) (n:=N) (lg:=lg') (k:=k') (i:=(16+getI cs 7-1)) (v:=(exV s (preC cs op) op n (getI cs (16+getI cs 7-1)) (0))) (by simp[qcP,hN]) (by omega) (by omega) hl' (by omega)
  have ePost:postC s cs op n=qao (exC s (preC cs op) op n (getI cs (16+getI cs 7-1)) (0)) (16+getI cs 7-1) (exV s (preC cs op) op n (getI cs (16+getI cs 7-1)) (0)):=by simp[postC,hpp,hqq,eA,eB]
  rw[ePost,eA,eB,StR.v,hE]
  refine⟨lg'++ent (exC s (preC cs op) op n (getI cs (16+getI cs 7-1)) (0)) (16+getI cs 7-1),k'+1,by simp[qap,hl']; omega,by omega,?_⟩
  rw[eP] at hex sv ⊢
  exact qsQ (qa0 hN (by omega) (by omega)) (qa0 hN (by omega) (by omega)) (qa0 hN (by omega) (by omega)) hf hp0 hp1 hat hcut hexe hop c0 c1 wa (qag _ (by omega)) rfl rfl (qa0 hN (by omega) (by omega)) s8 s6 hex sv
 by_cases hPQ:p=2/\q=0
 ·obtain⟨rfl,rfl⟩:=hPQ
  have eA:popA cs op=getI cs (16+getI cs 7-2):=by simp[popA,hpp]
  have eB:popB cs op=getI cs ((16+getI cs 7-2)+1):=by simp[popB,hpp]
  have eP:preC cs op=(qao (qao (qao cs 8 (wr (getI cs 8-1))) 6 (wr (getI cs 6+1))) 7 (getI cs 7-2)):=by simp[preC,hpp,hqq]
  have s7:=qbp (cs:=(qao (qao cs 8 (wr (getI cs 8-1))) 6 (wr (getI cs 6+1)))) (n:=N) (lg:=(lg++ent cs 8)++ent (qao cs 8 (wr (getI cs 8-1))) 6) (k:=(k+2)) (i:=7) (v:=(getI cs 7-2)) (by simp[hN]) (by omega) (by omega) (by simp[qap,hl]; omega) (by omega)
  rw[eA,eB] at hE
  obtain⟨lg',k',hl',hk',hex⟩:=qoT s (preC cs op) N (((lg++ent cs 8)++ent (qao cs 8 (wr (getI cs 8-1))) 6)++ent (qao (qao cs 8 (wr (getI cs 8-1))) 6 (wr (getI cs 6+1))) 7) (k+3) op n (getI cs (16+getI cs 7-2)) (getI cs ((16+getI cs 7-2)+1)) hs (by simp only[qbi,hN]) h (by simp[qap,hl]; omega) (by omega) hmem.1 hmem.2 q4
  rw[hE] at hex
  have ePost:postC s cs op n=(exC s (preC cs op) op n (getI cs (16+getI cs 7-2)) (getI cs ((16+getI cs 7-2)+1))):=by simp[postC,hpp,hqq,eA,eB]
  rw[ePost,eA,eB,StR.v,hE]
  refine⟨lg',k',hl',by omega,?_⟩
  rw[eP] at hex ⊢
  exact qsR (qa0 hN (by omega) (by omega)) (qa0 hN (by omega) (by omega)) (qa0 hN (by omega) (by omega)) hf hp0 hp1 hat hcut hexe hop c0 c1 wa (qag _ (by omega)) rfl rfl (qa0 hN (by omega) (by omega)) (qag _ (by omega)) (qa0 hN (by omega) (by omega)) s8 s6 (qag _ (by omega)) rfl s7 hex
 by_cases hPQ:p=2/\q=1
 ·obtain⟨rfl,rfl⟩:=hPQ
  have eA:popA cs op=getI cs (16+getI cs 7-2):=by simp[popA,hpp]
  have eB:popB cs op=getI cs ((16+getI cs 7-2)+1):=by simp[popB,hpp]
  have eP:preC cs op=(qao (qao (qao cs 8 (wr (getI cs 8-1))) 6 (wr (getI cs 6+1))) 7 (getI cs 7-2+1)):=by simp[preC,hpp,hqq]
  have s7:=qbp (cs:=(qao (qao cs 8 (wr (getI cs 8-1))) 6 (wr (getI cs 6+1)))) (n:=N) (lg:=(lg++ent cs 8)++ent (qao cs 8 (wr (getI cs 8-1))) 6) (k:=(k+2)) (i:=7) (v:=(getI cs 7-2+1)) (by simp[hN]) (by omega) (by omega) (by simp[qap,hl]; omega) (by omega)
  rw[eA,eB] at hE
  obtain⟨lg',k',hl',hk',hex⟩:=qoT s (preC cs op) N (((lg++ent cs 8)++ent (qao cs 8 (wr (getI cs 8-1))) 6)++ent (qao (qao cs 8 (wr (getI cs 8-1))) 6 (wr (getI cs 6+1))) 7) (k+3) op n (getI cs (16+getI cs 7-2)) (getI cs ((16+getI cs 7-2)+1)) hs (by simp only[qbi,hN]) h (by simp[qap,hl]; omega) (by omega) hmem.1 hmem.2 q4
  rw[hE] at hex
  have sv:=qbp (cs:=(exC s (preC cs op) op n (getI cs (16+getI cs 7-2)) (getI cs ((16+getI cs 7-2)+1)))) (n:=N) (lg:=lg') (k:=k') (i:=(16+getI cs 7-2)) (v:=(exV s (preC cs op) op n (getI cs (16+getI cs 7-2)) (getI cs ((16+getI cs 7-2)+1)))) (by simp[qcP,hN]) (by omega) (by omega) hl' (by omega)
  have ePost:postC s cs op n=qao (exC s (preC cs op) op n (getI cs (16+getI cs 7-2)) (getI cs ((16+getI cs 7-2)+1))) (16+getI cs 7-2) (exV s (preC cs op) op n (getI cs (16+getI cs 7-2)) (getI cs ((16+getI cs 7-2)+1))):=by simp[postC,hpp,hqq,eA,eB]
  rw[ePost,eA,eB,StR.v,hE]
  refine⟨lg'++ent (exC s (preC cs op) op n (getI cs (16+getI cs 7-2)) (getI cs ((16+getI cs 7-2)+1))) (16+getI cs 7-2),k'+1,by simp[qap,hl']; omega,by omega,?_⟩
  rw[eP] at hex sv ⊢
  exact qsS (qa0 hN (by omega) (by omega)) (qa0 hN (by omega) (by omega)) (qa0 hN (by omega) (by omega)) hf hp0 hp1 hat hcut hexe hop c0 c1 wa (qag _ (by omega)) rfl rfl (qa0 hN (by omega) (by omega)) (qag _ (by omega)) (qa0 hN (by omega) (by omega)) s8 s6 (qag _ (by omega)) (qag _ (by omega)) s7 hex sv
 exfalso; omega
end
section
open F
theorem qf2{s:Su}{c:List (Nat × Int)}{cs:List Int}(h:qbV c cs=false):qcH s c cs=⟨cs,true,[0,0,0,0],false⟩:=by
 unfold qcH; rw[h]; rfl
theorem qui (s:Su) (c:List (Nat × Int)) (f:Bool) (e0 e1 e2:Int) (cs:List Int) (N:Nat) (hN:cs.length=N) (h48:48<=N) (hc : ∀ x∈c,1<=x.1/\x.1<=21) (hcl:c.length<2^30) (hcan:qbV c cs=false) :
  Z qaa (.call 52 [.iface 0 (.ptr 0 0),s.d,qaq f c e0 e1 e2] (qaA cs N))=some (.ret (qcH s c cs).v (qaA cs N)):=by
 rw[qf2 hcan,StR.v]
 by_cases hb:getI cs 8<1\/getI cs 6<0\/(c.length:Int)<=getI cs 6
 ·exact quX (qbu hN (by omega) (by omega)) (qbu hN (by omega) (by omega)) (qbu hN (by omega) (by omega)) hb
 ·have hf : ¬ getI cs 8<1:=by omega
  have hp0 : ¬ getI cs 6<0:=by omega
  have hp1 : ¬ (c.length:Int)<=getI cs 6:=by omega
  have hi:(getI cs 6).toNat<c.length:=by omega
  have hins:insAt c (getI cs 6)=c[(getI cs 6).toNat]:=by simp[insAt,Wn,hi]
  have hmem:=hc _ (WR hi)
  have hcut:=qdx c _ hi
  have hat:=qfx f c (getI cs 6) (by omega) (by omega)
  rw[<- hins] at hmem hcut
  have hx:qmw (insAt c (getI cs 6)).1 (insAt c (getI cs 6)).2 (getI cs 7)=false:=by
   simpa [qbV,hf,hp0,hp1] using hcan
  have hexe:=qs9 (insAt c (getI cs 6)).1 (insAt c (getI cs 6)).2 (getI cs 7) hmem.1 hmem.2
  rw[hx] at hexe
  exact qrQ (qbu hN (by omega) (by omega)) (qbu hN (by omega) (by omega)) (qbu hN (by omega) (by omega)) hf hp0 hp1 hat hcut hexe
theorem qra (c:List (Nat × Int)) (f:Bool) (e0 e1 e2 h self other fuel:Int) (cs:List Int) (N:Nat) (hN:cs.length=N) (h48:48<=N) (hb : ¬ (h<0\/3<=h\/qcG e0 e1 e2 h<0)) :
  ∃ lg' k',lg'.length=k'*2/\k'<=5/\Z qaa (.call 49 [.iface 0 (.ptr 0 0),qaq f c e0 e1 e2,.int h,.int self,.int other,.int fuel] (qaA cs N))=some (.ret (.bool true) (qai (qgk cs (qcG e0 e1 e2 h) fuel self other) N lg' k' (k'*2))):=by
 have he : ¬ qcG e0 e1 e2 h<0:=by omega
 have s6:=qtt (cs:=cs) (n:=N) (i:=6) (v:=(qcG e0 e1 e2 h)) hN (by omega) (by omega)
 have s7:=qbp (cs:=(qao cs 6 (qcG e0 e1 e2 h))) (n:=N) (lg:=(ent cs 6)) (k:=(1)) (i:=7) (v:=0) (by simp[hN]) (by omega) (by omega) (by simp[qap]) (by omega)
 have s8:=qbp (cs:=(qao (qao cs 6 (qcG e0 e1 e2 h)) 7 0)) (n:=N) (lg:=((ent cs 6)++ent (qao cs 6 (qcG e0 e1 e2 h)) 7)) (k:=(2)) (i:=8) (v:=fuel) (by simp[hN]) (by omega) (by omega) (by simp[qap]) (by omega)
 have s9:=qbp (cs:=(qao (qao (qao cs 6 (qcG e0 e1 e2 h)) 7 0) 8 fuel)) (n:=N) (lg:=(((ent cs 6)++ent (qao cs 6 (qcG e0 e1 e2 h)) 7)++ent (qao (qao cs 6 (qcG e0 e1 e2 h)) 7 0) 8)) (k:=(3)) (i:=9) (v:=self) (by simp[hN]) (by omega) (by omega) (by simp[qap]) (by omega)
 have s10:=qbp (cs:=(qao (qao (qao (qao cs 6 (qcG e0 e1 e2 h)) 7 0) 8 fuel) 9 self)) (n:=N) (lg:=((((ent cs 6)++ent (qao cs 6 (qcG e0 e1 e2 h)) 7)++ent (qao (qao cs 6 (qcG e0 e1 e2 h)) 7 0) 8)++ent (qao (qao (qao cs 6 (qcG e0 e1 e2 h)) 7 0) 8 fuel) 9)) (k:=(4)) (i:=10) (v:=other) (by simp[hN]) (by omega) (by omega) (by simp[qap]) (by omega)
 refine⟨(((((ent cs 6)++ent (qao cs 6 (qcG e0 e1 e2 h)) 7)++ent (qao (qao cs 6 (qcG e0 e1 e2 h)) 7 0) 8)++ent (qao (qao (qao cs 6 (qcG e0 e1 e2 h)) 7 0) 8 fuel) 9)++ent (qao (qao (qao (qao cs 6 (qcG e0 e1 e2 h)) 7 0) 8 fuel) 9 self) 10),5,by simp[qap],by omega,?_⟩
 unfold qgk
 obtain rfl|rfl|rfl:h=0\/h=1\/h=2:=by omega
 ·exact qrM he rfl s6 s7 s8 s9 s10
 ·exact qrN he rfl s6 s7 s8 s9 s10
 ·exact qrO he rfl s6 s7 s8 s9 s10
theorem quj (s:Su) (c:List (Nat × Int)) (f:Bool) (e0 e1 e2:Int) (cs:List Int) (N:Nat) (lg:List D) (k:Nat) (hl:lg.length=k*2) (hk:k<2^28) (hN:cs.length=N) (h48:48<=N) (hc : ∀ x∈c,1<=x.1/\x.1<=21) (hcl:c.length<2^30) (hcan:qbV c cs=false) :
  Z qaa (.call 52 [.iface 0 (.ptr 0 0),s.d,qaq f c e0 e1 e2] (qai cs N lg k (k*2)))=some (.ret (qcH s c cs).v (qai cs N lg k (k*2))):=by
 rw[qf2 hcan,StR.v]
 by_cases hb:getI cs 8<1\/getI cs 6<0\/(c.length:Int)<=getI cs 6
 ·exact quY (qa0 hN (by omega) (by omega)) (qa0 hN (by omega) (by omega)) (qa0 hN (by omega) (by omega)) hb
 ·have hf : ¬ getI cs 8<1:=by omega
  have hp0 : ¬ getI cs 6<0:=by omega
  have hp1 : ¬ (c.length:Int)<=getI cs 6:=by omega
  have hi:(getI cs 6).toNat<c.length:=by omega
  have hins:insAt c (getI cs 6)=c[(getI cs 6).toNat]:=by simp[insAt,Wn,hi]
  have hmem:=hc _ (WR hi)
  have hcut:=qdx c _ hi
  have hat:=qfx f c (getI cs 6) (by omega) (by omega)
  rw[<- hins] at hmem hcut
  have hx:qmw (insAt c (getI cs 6)).1 (insAt c (getI cs 6)).2 (getI cs 7)=false:=by
   simpa [qbV,hf,hp0,hp1] using hcan
  have hexe:=qs9 (insAt c (getI cs 6)).1 (insAt c (getI cs 6)).2 (getI cs 7) hmem.1 hmem.2
  rw[hx] at hexe
  exact qrV (qa0 hN (by omega) (by omega)) (qa0 hN (by omega) (by omega)) (qa0 hN (by omega) (by omega)) hf hp0 hp1 hat hcut hexe
theorem qrb (c:List (Nat × Int)) (f:Bool) (e0 e1 e2 h self other fuel:Int) (cs:List Int) (N:Nat) (lg:List D) (k:Nat) (hl:lg.length=k*2) (hk:k<2^28) (hN:cs.length=N) (h48:48<=N) (hb : ¬ (h<0\/3<=h\/qcG e0 e1 e2 h<0)) :
  ∃ lg' k',lg'.length=k'*2/\k'<=k+5/\Z qaa (.call 49 [.iface 0 (.ptr 0 0),qaq f c e0 e1 e2,.int h,.int self,.int other,.int fuel] (qai cs N lg k (k*2)))=some (.ret (.bool true) (qai (qgk cs (qcG e0 e1 e2 h) fuel self other) N lg' k' (k'*2))):=by
 have he : ¬ qcG e0 e1 e2 h<0:=by omega
 have s6:=qbp (cs:=cs) (n:=N) (i:=6) (v:=(qcG e0 e1 e2 h)) hN (by omega) (by omega) hl (by omega)
 have s7:=qbp (cs:=(qao cs 6 (qcG e0 e1 e2 h))) (n:=N) (lg:=(lg++ent cs 6)) (k:=(k+1)) (i:=7) (v:=0) (by simp[hN]) (by omega) (by omega) (by simp[qap,hl]; omega) (by omega)
 have s8:=qbp (cs:=(qao (qao cs 6 (qcG e0 e1 e2 h)) 7 0)) (n:=N) (lg:=((lg++ent cs 6)++ent (qao cs 6 (qcG e0 e1 e2 h)) 7)) (k:=(k+2)) (i:=8) (v:=fuel) (by simp[hN]) (by omega) (by omega) (by simp[qap,hl]; omega) (by omega)
 have s9:=qbp (cs:=(qao (qao (qao cs 6 (qcG e0 e1 e2 h)) 7 0) 8 fuel)) (n:=N) (lg:=(((lg++ent cs 6)++ent (qao cs 6 (qcG e0 e1 e2 h)) 7)++ent (qao (qao cs 6 (qcG e0 e1 e2 h)) 7 0) 8)) (k:=(k+3)) (i:=9) (v:=self) (by simp[hN]) (by omega) (by omega) (by simp[qap,hl]; omega) (by omega)
 have s10:=qbp (cs:=(qao (qao (qao (qao cs 6 (qcG e0 e1 e2 h)) 7 0) 8 fuel) 9 self)) (n:=N) (lg:=((((lg++ent cs 6)++ent (qao cs 6 (qcG e0 e1 e2 h)) 7)++ent (qao (qao cs 6 (qcG e0 e1 e2 h)) 7 0) 8)++ent (qao (qao (qao cs 6 (qcG e0 e1 e2 h)) 7 0) 8 fuel) 9)) (k:=(k+4)) (i:=10) (v:=other) (by simp[hN]) (by omega) (by omega) (by simp[qap,hl]; omega) (by omega)
 refine⟨(((((lg++ent cs 6)++ent (qao cs 6 (qcG e0 e1 e2 h)) 7)++ent (qao (qao cs 6 (qcG e0 e1 e2 h)) 7 0) 8)++ent (qao (qao (qao cs 6 (qcG e0 e1 e2 h)) 7 0) 8 fuel) 9)++ent (qao (qao (qao (qao cs 6 (qcG e0 e1 e2 h)) 7 0) 8 fuel) 9 self) 10),(k+5),by simp[qap,hl]; omega,by omega,?_⟩
 unfold qgk
 obtain rfl|rfl|rfl:h=0\/h=1\/h=2:=by omega
 ·exact qrR he rfl s6 s7 s8 s9 s10
 ·exact qrS he rfl s6 s7 s8 s9 s10
 ·exact qrT he rfl s6 s7 s8 s9 s10
end
section
open F
theorem qq2{cs:List Int}{op:Nat}{j:Nat}(h6:j≠6)(h7:j≠7)(h8:j≠8):getN (preC cs op) j=getN cs j:=by
 have e6:(6:Int).toNat≠j:=by simp; omega
 have e7:(7:Int).toNat≠j:=by simp; omega
 have e8:(8:Int).toNat≠j:=by simp; omega
 unfold preC
 split
 ·rw[qaR e6,qaR e8]
 ·rw[qaR e7,qaR e6,qaR e8]
theorem qiK{s:Su}{a:Int}(h:0<=bodyI s a):48+4*(s.p:Int)<=bodyI s a/\bodyI s a+8<=s.n:=by
 unfold bodyI at h ⊢
 split at h
 ·omega
 ·rename_i h1
  rw[if_neg h1]
  unfold Su.n
  omega
theorem qCD (s:Su) (c:List (Nat × Int)) (f:Bool) (e0 e1 e2:Int) (cs:List Int) (N:Nat) (lg:List D) (k:Nat) (hl:lg.length=k*2) (hk:k<2^28) (hs:s.ok) (hN:cs.length=N) (h:N=s.n) (hc : ∀ x∈c,1<=x.1/\x.1<=21) (hcl:c.length<2^30) :
  ∃ lg' k',lg'.length=k'*2/\k'<=k+6/\Z qaa (.call 52 [.iface 0 (.ptr 0 0),s.d,qaq f c e0 e1 e2] (qai cs N lg k (k*2)))=some (.ret (qcH s c cs).v (qai (qcH s c cs).cs N lg' k' (k'*2))):=by
 have h48:48<=N:=by rw[h]; unfold Su.n; omega
 cases hcan:qbV c cs with
 |true=>exact qvx s c f e0 e1 e2 cs N lg k hl hk hs hN h hc hcl hcan
 |false=>
  refine⟨lg,k,hl,by omega,?_⟩
  have:=quj s c f e0 e1 e2 cs N lg k hl hk hN h48 hc hcl hcan
  rw[this,qf2 hcan]
theorem qCE (s:Su) (c:List (Nat × Int)) (f:Bool) (e0 e1 e2:Int) (cs:List Int) (N:Nat) (hs:s.ok) (hN:cs.length=N) (h:N=s.n) (hc : ∀ x∈c,1<=x.1/\x.1<=21) (hcl:c.length<2^30) :
  (qcH s c cs=⟨cs,true,[0,0,0,0],false⟩/\Z qaa (.call 52 [.iface 0 (.ptr 0 0),s.d,qaq f c e0 e1 e2] (qaA cs N))=some (.ret (qcH s c cs).v (qaA cs N))) \/
  ∃ lg' k',lg'.length=k'*2/\k'<=6/\Z qaa (.call 52 [.iface 0 (.ptr 0 0),s.d,qaq f c e0 e1 e2] (qaA cs N))=some (.ret (qcH s c cs).v (qai (qcH s c cs).cs N lg' k' (k'*2))):=by
 have h48:48<=N:=by rw[h]; unfold Su.n; omega
 cases hcan:qbV c cs with
 |true=>exact .inr (qvw s c f e0 e1 e2 cs N hs hN h hc hcl hcan)
 |false=>exact .inl ⟨qf2 hcan,qui s c f e0 e1 e2 cs N hN h48 hc hcl hcan⟩
end
section
open F
theorem qdl{n m:Int}(h1:I64 n)(hm:1<=m):Z qaa (.call 17 [.int n,.int m] [])=some (.ret (.int (around n m)) []):=by
 refine qab (pf:=F17) rfl rfl ?_
 have hm0:m≠0:=by omega
 unfold I64 at h1
 by_cases hn:n<0
 ·simp (disch:=omega) [F17,hn,hm0,around,qag]
 ·simp[F17,hn,hm0,around]
def qk4(ps:List (Int × Int)):List D:=ps.flatMap fun p=>[.lit (.int .i64 p.1),.lit (.int .i64 p.2)]
def qhw:List (Int × Int)->D
 |[] => .lit (.slice none 0 0)
 |p::ps => .sl (qk4 (p::ps)) (p::ps).length true
@[simp] theorem qxF(ps:List (Int × Int)):V.one (.dat (qhw ps))=true:=by cases ps<;>rfl
@[simp] theorem quS(ps:List (Int × Int)):V.cells (.dat (qhw ps))=[.dat (qhw ps)]:=by cases ps<;>rfl
theorem qpo{n:Int}(h:I64 n) : ∃ r ps,Z qaa (.call 60 [.int n] [])=some (.ret (.dat (.agg [.lit (.int .i64 r),qhw ps])) []):=by
 have a:=qdl h (m:=1000) (by omega)
 have b:=around_lt h (m:=1000) (by omega)
 generalize around n 1000=k at a b
 have d:=qbM b.1 (m:=7) (by omega)
 have e:=qaS d.1 (m:=5) (by omega)
 have g:=qaS b.1 (m:=7) (by omega)
 have w0:=qag (k.tdiv 7) (by omega)
 have w1:=qag (1+(k.tdiv 7).tmod 5) (by omega)
 have w2:=qag (512*(1+(k.tdiv 7).tmod 5)) (by omega)
 generalize hr:512*(1+(k.tdiv 7).tmod 5)=r at w2
 have hr2:0<=r/\r<10000:=by omega
 generalize hm:k.tmod 7=m at g
 have w3:=qag (-r) (by omega)
 have w4:=qag (2*r) (by omega)
 have w5:=qag (-2*r) (by omega)
 have hm2:m=0\/m=1\/m=2\/m=3\/m=4\/m=5\/m=6:=by omega
 rcases hm2 with hm2|hm2|hm2|hm2|hm2|hm2|hm2
 ·exact⟨r,[],qab (pf:=F60) rfl rfl (by simp[F60,a,w0,w1,hr,w2,hm,hm2,w3,w4,w5,qhw,qk4])⟩
 ·exact⟨r,[],qab (pf:=F60) rfl rfl (by simp[F60,a,w0,w1,hr,w2,hm,hm2,w3,w4,w5,qhw,qk4])⟩
 ·exact⟨r,[],qab (pf:=F60) rfl rfl (by simp[F60,a,w0,w1,hr,w2,hm,hm2,w3,w4,w5,qhw,qk4])⟩
 ·exact⟨0,[(-r,-r),(r,-r),(r,r),(-r,r)],qab (pf:=F60) rfl rfl (by simp[F60,a,w0,w1,hr,w2,hm,hm2,w3,w4,w5,qhw,qk4])⟩
 ·exact⟨0,[(-r,-r),(r,-r),(r,r),(-r,r)],qab (pf:=F60) rfl rfl (by simp[F60,a,w0,w1,hr,w2,hm,hm2,w3,w4,w5,qhw,qk4])⟩
 ·exact⟨0,[(-r,-r),(r,-r),(0,r)],qab (pf:=F60) rfl rfl (by simp[F60,a,w0,w1,hr,w2,hm,hm2,w3,w4,w5,qhw,qk4])⟩
 ·exact⟨0,[(-2*r,-300),(2*r,-300),(2*r,300),(-2*r,300)],qab (pf:=F60) rfl rfl (by simp[F60,a,w0,w1,hr,w2,hm,hm2,w3,w4,w5,qhw,qk4])⟩
end
section
open F
def qce:Ob := .cells [.int 0,.dat (.lit (.slice none 0 0)),.int 0,.int 0,.int 0,.int 0,.dat (.lit (.slice none 0 0)),.dat (.lit (.slice none 0 0)),.int 0,.int 0,.int 0,.int 0,.int 0,.int 0,.int 0,.int 0]
def InK(K:List Int):Prop := ∀ x∈K,0<=x/\x<1000000
def qoc(xs:List Int)(i:Nat):Int:=if i<xs.length then around (getN xs i) 1000000 else 0
theorem qm9{xs:List Int}(hx : ∀ x∈xs,I64 x)(i:Nat):0<=qoc xs i/\qoc xs i<1000000:=by
 unfold qoc
 split
 ·rename_i h
  exact around_lt (hx _ (qcY h)) (by omega)
 ·omega
def qq7(d:D)(k:V)(i:Int):Fr:=[(0,.dat d),(2,.ptr 0 0),(3,k),(4,.int i)]
theorem qAA(d:D)(K:List Int):Z qaa (.loop 0 F45l0 (qq7 d (.gsl (qal K) 24 1 1) 24) [qce,.tip 24])=some (.out (.exit 0) (qq7 d (.gsl (qal K) 24 1 1) 24++[(12,.bool false)]) [qce,.tip 24]):=by
 rw[qac]
 simp[qad,qfb,qq7,qce,Wa]
theorem qAB {d:D} {xs:List Int} (hd:IsRow d xs) (hx : ∀ x∈xs,I64 x) (m i:Nat) (hm:i+1+m=24) (K:List Int) (hK:K.length=i+1) (hk:InK K) :
  ∃ K',K'.length=24/\InK K'/\Z qaa (.loop 0 F45l0 (qq7 d (.gsl (qal K) (i+1) 1 1) (i+1:Nat)) [qce,.tip (i+1)])=some (.out (.exit 0) (qq7 d (.gsl (qal K') 24 1 1) 24++[(12,.bool false)]) [qce,.tip 24]):=by
 induction m generalizing i K with
 |zero=>
  have:i=23:=by omega
  subst this
  exact⟨K,hK,hk,qAA d K⟩
 |succ m ih=>
  obtain⟨K',h1,h2,h3⟩:=ih (i+1) (by omega) (K++[qoc xs (i+1)]) (by simp[hK]) (by
   intro x hx'
   rcases Wo.1 hx' with h|h
   ·exact hk x h
   ·simp only[Wl] at h; subst h; exact qm9 hx _)
  refine⟨K',h1,h2,?_⟩
  have w1:=qag (((i+1:Nat):Int)+1) (by omega)
  have b1:((i+1:Nat):Int)<24:=by omega
  have hr:qay (i+1+1) 8=true:=by simp[qay]; omega
  have hI:(qal K).length=i+1:=by simp[hK]
  rw[qlo] at h3
  simp only[qq7,qce] at h3 ⊢
  rw[show ((i+1+1:Nat):Int)=((i+1:Nat):Int)+1 by omega] at h3
  rw[qac]
  generalize hj:((i+1:Nat):Int)=j at *
  by_cases hl:j<xs.length
  ·have e1:=hd.at_ j (by omega) hl
   have hjn:j.toNat=i+1:=by omega
   rw[hjn] at e1
   have e2:=qaJ xs (i+1) (by omega)
   have e3:=qdl (hx _ (qcY (xs:=xs) (i:=i+1) (by omega))) (m:=1000000) (by omega)
   have e4:qoc xs (i+1)=around (getN xs (i+1)) 1000000:=by simp[qoc]; omega
   rw[e4] at h3
   simp only[qal,List.map] at h3
   simp only[qal] at hI e1 e2
   simp[qad,qfb,Wa,b1,hd.len,hl,e1,e2,e3,w1,hr,hI,qbw,qiL,qal,h3]
  ·have e4:qoc xs (i+1)=0:=by simp[qoc]; omega
   rw[e4] at h3
   simp only[qal,List.map] at h3
   simp only[qal] at hI
   simp[qad,qfb,Wa,b1,hd.len,hl,w1,hr,hI,qbw,qiL,qal,h3]
end
section
open F
theorem qB0 {d:D} {xs:List Int} (hd:IsRow d xs) (hx : ∀ x∈xs,I64 x) :
  ∃ K',K'.length=24/\InK K'/\Z qaa (.loop 0 F45l0 (qq7 d (.dat (.lit (.slice none 0 0))) 0) [qce])=some (.out (.exit 0) (qq7 d (.gsl (qal K') 24 1 1) 24++[(12,.bool false)]) [qce,.tip 24]):=by
 obtain⟨K',h1,h2,h3⟩:=qAB hd hx 23 0 (by omega) [qoc xs 0] rfl (by
  intro x h
  simp only[Wl] at h; subst h; exact qm9 hx _)
 refine⟨K',h1,h2,?_⟩
 have hr:qay 1 8=true:=by simp[qay]
 have w1:=qag (1:Int) (by omega)
 simp only[qq7,qce] at h3 ⊢
 rw[show ((0+1:Nat):Int)=1 from rfl,show (0+1:Nat)=1 from rfl] at h3
 rw[qac]
 by_cases hl:(0:Int)<xs.length
 ·have e1:=hd.at_ 0 (by omega) hl
  have e2:=qaJ xs 0 (by omega)
  have e3:=qdl (hx _ (qcY (xs:=xs) (i:=0) (by omega))) (m:=1000000) (by omega)
  have e4:qoc xs 0=around (getN xs 0) 1000000:=by unfold qoc; rw[if_pos (by omega)]
  rw[e4] at h3
  simp only[qal,List.map] at h3
  simp only[qal,show (0:Int).toNat=0 from rfl] at e1 e2
  have hl':0<xs.length:=by omega
  simp[qad,qfb,Wa,hd.len,hl,hl',e1,e2,e3,w1,hr,qbw,qiL,qal,h3]
 ·have e4:qoc xs 0=0:=by unfold qoc; rw[if_neg (by omega)]
  rw[e4] at h3
  simp only[qal,List.map] at h3
  have hl' : ¬ 0<xs.length:=by omega
  have hl2:xs.length=0:=by omega
  simp[qad,qfb,Wa,hd.len,hl,hl',hl2,w1,hr,qbw,qiL,qal,h3]
end
section
open F
structure Bo where
 r:Int
 ps:List (Int × Int)
 x:Int
 y:Int
 vx:Int
 vy:Int
 inv:Int
 a:Int
 b:Int
def Bo.c(b:Bo):List D:=[.lit (.int .i64 b.r),qhw b.ps,.lit (.int .i64 b.x),.lit (.int .i64 b.y),.lit (.int .i64 b.vx),.lit (.int .i64 b.vy),.lit (.int .i64 b.inv),.lit (.int .i64 b.a),.lit (.int .i64 b.b)]
def boC(bs:List Bo):List D:=bs.flatMap Bo.c
@[simp] theorem qw4(bs:List Bo):(boC bs).length=bs.length*9:=by
 induction bs with
 |nil=>rfl
 |cons b bs ih=>simp only[boC,List.flatMap_cons,Wb,We] at ih ⊢; rw[ih]; simp[Bo.c]; omega
theorem qoE(a b:List Bo):boC (a++b)=boC a++boC b:=by simp[boC]
structure Sc where
 p:Int
 ds:List D
 nd:Nat
 fog:Int
 gy:Int
 push:Int
 drag:Int
 rest:Int
 rounds:Int
def Sc.ob(s:Sc)(bs:V):Ob := .cells [.int s.p,bs,.int (-12000),.int (-9000),.int 12000,.int 9000,.dat (.sl qnA 3 true),.dat (.sl s.ds s.nd true),.int s.fog,.int 0,.int s.gy,.int s.push,.int s.drag,.int s.rest,.int s.rounds,.int 60]
def sFr(K:List Int)(i:Int):Fr:=[(2,.ptr 0 0),(3,.gsl (qal K) 24 1 1),(6,.ptr 2 0),(7,.int i)]
theorem qqI(i:Nat)(h:i<5) : ∃ v,qah [D.lit (.int .i64 1024),.lit (.int .i64 1024),.lit (.int .i64 512),.lit (.int .i64 2048),.lit (.int .i64 0)] i 1=some [.lit (.int .i64 v)]:=by
 match i,h with
 |0,_=>exact⟨_,rfl⟩
 |1,_=>exact⟨_,rfl⟩
 |2,_=>exact⟨_,rfl⟩
 |3,_=>exact⟨_,rfl⟩
 |4,_=>exact⟨_,rfl⟩
theorem qdS(K:List Int)(n sz l:Nat)(i:Int)(h0:0<=i)(h1:i<n):qae 1 (.gsl (qal K) n sz l) i=some (.dat (.imm (qal K) i.toNat)):=by
 simp[qae,h0,h1]
def qqJ(s:Sc)(K:List Int):Int:=s.p+(((getN K 3).tdiv 3).tmod 3)
theorem qBf (s:Sc) {K:List Int} (hK:K.length=24) (hk:InK K) (h1:1<=s.p) (h3:s.p<=3) (bs:List Bo) (i:Nat) (hi:(i:Int)<qqJ s K) (hb:bs.length=i) (h0:1<=i) :
  ∃ b:Bo,Z qaa (.loop 0 F45l1 (sFr K i) [qce,.tip 24,s.ob (.gsl (boC bs) i 9 3),.tip (i*9)])=Z qaa (.loop 0 F45l1 (sFr K (i+1:Nat)) [qce,.tip 24,s.ob (.gsl (boC (bs++[b])) (i+1) 9 3),.tip ((i+1)*9)]):=by
 have gm : ∀ j,j<24->0<=getN K j/\getN K j<1000000:=fun j hj=>hk _ (qcY (by omega))
 have q3:=qbM (gm 3 (by omega)).1 (m:=3) (by omega)
 have r3:=qaS q3.1 (m:=3) (by omega)
 unfold qqJ at hi
 have hi5:i<5:=by omega
 have g3:=gm 3 (by omega)
 have g4:=gm (4+2*i) (by omega)
 have g5:=gm (5+2*i) (by omega)
 obtain⟨r,ps,hsh⟩:=qpo (n:=getN K (4+2*i)) (by unfold I64; omega)
 have c3:=qaJ K 3 (by omega)
 have c4:=qaJ K (4+2*i) (by omega)
 have c5:=qaJ K (5+2*i) (by omega)
 generalize getN K (4+2*i)=n at *
 generalize getN K (5+2*i)=m at *
 generalize getN K 3=k3 at *
 have a1:=qbM g4.1 (m:=1000) (by omega)
 have a2:=qaS a1.1 (m:=13) (by omega)
 have a3:=qbM g5.1 (m:=50) (by omega)
 have a4:=qaS a3.1 (m:=11) (by omega)
 have a5:=qbM g5.1 (m:=550) (by omega)
 have a6:=qaS a5.1 (m:=9) (by omega)
 have a7:=qbM g4.1 (m:=13000) (by omega)
 have a8:=qaS a7.1 (m:=9) (by omega)
 have a9:=qbM g5.1 (m:=5000) (by omega)
 have a10:=qaS a9.1 (m:=5) (by omega)
 have i0:(0:Int)<=i:=by omega
 obtain⟨iv,hiv⟩:=qqI ((m.tdiv 5000).tmod 5).toNat (by omega)
 have w1:=qag (k3.tdiv 3) (by omega)
 have w2:=qag (s.p+(k3.tdiv 3).tmod 3) (by omega)
 have w3:=qag (2*(i:Int)) (by omega)
 have w4:=qag (4+2*(i:Int)) (by omega)
 have w5:=qag (5+2*(i:Int)) (by omega)
 have w6:=qag (n.tdiv 1000) (by omega)
 have w7:=qag ((n.tdiv 1000).tmod 13-6) (by omega)
 have w8:=qag (((n.tdiv 1000).tmod 13-6)*900) (by omega)
 have w9:=qag (m.tdiv 50) (by omega)
 have w10:=qag ((m.tdiv 50).tmod 11-5) (by omega)
 have w11:=qag (((m.tdiv 50).tmod 11-5)*800) (by omega)
 have w12:=qag (m.tdiv 550) (by omega)
 have w13:=qag ((m.tdiv 550).tmod 9-4) (by omega)
 have w14:=qag (((m.tdiv 550).tmod 9-4)*300) (by omega)
 have w15:=qag (n.tdiv 13000) (by omega)
 have w16:=qag ((n.tdiv 13000).tmod 9-4) (by omega)
 have w17:=qag (((n.tdiv 13000).tmod 9-4)*300) (by omega)
 have w18:=qag (m.tdiv 5000) (by omega)
 have w19:=qag ((i:Int)+1) (by omega)
 have s3:=qdS K 24 1 1 3 (by omega) (by omega)
 have s4:=qdS K 24 1 1 (4+2*(i:Int)) (by omega) (by omega)
 have s5:=qdS K 24 1 1 (5+2*(i:Int)) (by omega) (by omega)
 rw[show (4+2*(i:Int)).toNat=4+2*i by omega] at s4
 rw[show (5+2*(i:Int)).toNat=5+2*i by omega] at s5
 rw[show (3:Int).toNat=3 from rfl] at s3
 have hr:qay (i+1) 88=true:=by simp[qay]; omega
 refine⟨⟨r,ps,((n.tdiv 1000).tmod 13-6)*900,((m.tdiv 50).tmod 11-5)*800,((m.tdiv 550).tmod 9-4)*300,((n.tdiv 13000).tmod 9-4)*300,iv,m.tmod 50,n.tmod 7⟩,?_⟩
 have hsi:qae 1 (.dat (.sl [D.lit (.int .i64 1024),.lit (.int .i64 1024),.lit (.int .i64 512),.lit (.int .i64 2048),.lit (.int .i64 0)] 5 true)) ((m.tdiv 5000).tmod 5)=some (.dat (.imm [D.lit (.int .i64 1024),.lit (.int .i64 1024),.lit (.int .i64 512),.lit (.int .i64 2048),.lit (.int .i64 0)] ((m.tdiv 5000).tmod 5).toNat)):=by
  simp[qae,a10.1,a10.2]
 rw[qoE,qac (prog:=qaa) 0 F45l1 (sFr K i)]
 have hbl:(boC bs).length=i*9:=by simp[hb]
 generalize boC bs=B at *
 simp[qad,qiz,sFr,qce,Sc.ob,Wa,qaI,qan,s3,s4,s5,c3,c4,c5,hsh,hiv,hsi,w1,w2,w3,w4,w5,w6,w7,w8,w9,w10,w11,w12,w13,w14,w15,w16,w17,w18,w19,hi,hr,hbl,qbw,qiL,boC,Bo.c]
 rw[show (i+1)*9=i*9+9 by omega]
 simp only[qac]
 congr 1
theorem qyZ (s:Sc) {K:List Int} (hK:K.length=24) (hk:InK K) (h1:1<=s.p) (h3:s.p<=3) :
  ∃ b:Bo,Z qaa (.loop 0 F45l1 (sFr K 0) [qce,.tip 24,s.ob (.dat (.lit (.slice none 0 0)))])=Z qaa (.loop 0 F45l1 (sFr K 1) [qce,.tip 24,s.ob (.gsl (boC [b]) 1 9 3),.tip 9]):=by
 have gm : ∀ j,j<24->0<=getN K j/\getN K j<1000000:=fun j hj=>hk _ (qcY (by omega))
 have q3:=qbM (gm 3 (by omega)).1 (m:=3) (by omega)
 have r3:=qaS q3.1 (m:=3) (by omega)
 have hi:(0:Int)<s.p+(((getN K 3).tdiv 3).tmod 3):=by omega
 have g3:=gm 3 (by omega)
 have g4:=gm 4 (by omega)
 have g5:=gm 5 (by omega)
 obtain⟨r,ps,hsh⟩:=qpo (n:=getN K 4) (by unfold I64; omega)
 have c3:=qaJ K 3 (by omega)
 have c4:=qaJ K 4 (by omega)
 have c5:=qaJ K 5 (by omega)
 generalize getN K 4=n at *
 generalize getN K 5=m at *
 generalize getN K 3=k3 at *
 have a1:=qbM g4.1 (m:=1000) (by omega)
 have a2:=qaS a1.1 (m:=13) (by omega)
 have a3:=qbM g5.1 (m:=50) (by omega)
 have a4:=qaS a3.1 (m:=11) (by omega)
 have a5:=qbM g5.1 (m:=550) (by omega)
 have a6:=qaS a5.1 (m:=9) (by omega)
 have a7:=qbM g4.1 (m:=13000) (by omega)
 have a8:=qaS a7.1 (m:=9) (by omega)
 have a9:=qbM g5.1 (m:=5000) (by omega)
 have a10:=qaS a9.1 (m:=5) (by omega)
 obtain⟨iv,hiv⟩:=qqI ((m.tdiv 5000).tmod 5).toNat (by omega)
 have w1:=qag (k3.tdiv 3) (by omega)
 have w2:=qag (s.p+(k3.tdiv 3).tmod 3) (by omega)
 have w3:=qag 0 (by omega)
 have w4:=qag 4 (by omega)
 have w5:=qag 5 (by omega)
 have w6:=qag (n.tdiv 1000) (by omega)
 have w7:=qag ((n.tdiv 1000).tmod 13-6) (by omega)
 have w8:=qag (((n.tdiv 1000).tmod 13-6)*900) (by omega)
 have w9:=qag (m.tdiv 50) (by omega)
 have w10:=qag ((m.tdiv 50).tmod 11-5) (by omega)
 have w11:=qag (((m.tdiv 50).tmod 11-5)*800) (by omega)
 have w12:=qag (m.tdiv 550) (by omega)
 have w13:=qag ((m.tdiv 550).tmod 9-4) (by omega)
 have w14:=qag (((m.tdiv 550).tmod 9-4)*300) (by omega)
 have w15:=qag (n.tdiv 13000) (by omega)
 have w16:=qag ((n.tdiv 13000).tmod 9-4) (by omega)
 have w17:=qag (((n.tdiv 13000).tmod 9-4)*300) (by omega)
 have w18:=qag (m.tdiv 5000) (by omega)
 have w19:=qag 1 (by omega)
 have s3:=qdS K 24 1 1 3 (by omega) (by omega)
 have s4:=qdS K 24 1 1 4 (by omega) (by omega)
 have s5:=qdS K 24 1 1 5 (by omega) (by omega)
 rw[show (4:Int).toNat=4 from rfl] at s4
 rw[show (5:Int).toNat=5 from rfl] at s5
 rw[show (3:Int).toNat=3 from rfl] at s3
 have hr:qay 1 88=true:=by simp[qay]
 refine⟨⟨r,ps,((n.tdiv 1000).tmod 13-6)*900,((m.tdiv 50).tmod 11-5)*800,((m.tdiv 550).tmod 9-4)*300,((n.tdiv 13000).tmod 9-4)*300,iv,m.tmod 50,n.tmod 7⟩,?_⟩
 have hsi:qae 1 (.dat (.sl [D.lit (.int .i64 1024),.lit (.int .i64 1024),.lit (.int .i64 512),.lit (.int .i64 2048),.lit (.int .i64 0)] 5 true)) ((m.tdiv 5000).tmod 5)=some (.dat (.imm [D.lit (.int .i64 1024),.lit (.int .i64 1024),.lit (.int .i64 512),.lit (.int .i64 2048),.lit (.int .i64 0)] ((m.tdiv 5000).tmod 5).toNat)):=by
  simp[qae,a10.1,a10.2]
 rw[qac (prog:=qaa) 0 F45l1 (sFr K 0)]
 simp[qad,qiz,sFr,qce,Sc.ob,Wa,qaI,qan,s3,s4,s5,c3,c4,c5,hsh,hiv,hsi,w1,w2,w3,w4,w5,w6,w7,w8,w9,w10,w11,w12,w13,w14,w15,w16,w17,w18,w19,hi,hr,qbw,qiL,boC,Bo.c]
 simp only[qac]
 congr 1
end
section
open F
theorem qBg (s:Sc) {K:List Int} (hK:K.length=24) (hk:InK K) (h1:1<=s.p) (h3:s.p<=3) (bs:List Bo) (i:Nat) (hi:(i:Int)=qqJ s K) :
  Z qaa (.loop 0 F45l1 (sFr K i) [qce,.tip 24,s.ob (.gsl (boC bs) i 9 3),.tip (i*9)])=some (.out (.exit 2) (sFr K i++[(101,.bool false)]) [qce,.tip 24,s.ob (.gsl (boC bs) i 9 3),.tip (i*9)]):=by
 have gm : ∀ j,j<24->0<=getN K j/\getN K j<1000000:=fun j hj=>hk _ (qcY (by omega))
 have q3:=qbM (gm 3 (by omega)).1 (m:=3) (by omega)
 have r3:=qaS q3.1 (m:=3) (by omega)
 unfold qqJ at hi
 have g3:=gm 3 (by omega)
 have c3:=qaJ K 3 (by omega)
 generalize getN K 3=k3 at *
 have w1:=qag (k3.tdiv 3) (by omega)
 have w2:=qag (s.p+(k3.tdiv 3).tmod 3) (by omega)
 have s3:=qdS K 24 1 1 3 (by omega) (by omega)
 rw[show (3:Int).toNat=3 from rfl] at s3
 rw[qac]
 generalize boC bs=B at *
 simp[qad,qiz,sFr,qce,Sc.ob,Wa,qaI,qan,s3,c3,w1,w2,hi]
theorem qBh (s:Sc) {K:List Int} (hK:K.length=24) (hk:InK K) (h1:1<=s.p) (h3:s.p<=3) (m:Nat) : ∀ (bs:List Bo) (i:Nat),(i:Int)+m=qqJ s K->bs.length=i->1<=i ->
  ∃ (bs':List Bo) (n:Nat),(n:Int)=qqJ s K/\bs'.length=n /\
  Z qaa (.loop 0 F45l1 (sFr K i) [qce,.tip 24,s.ob (.gsl (boC bs) i 9 3),.tip (i*9)])=some (.out (.exit 2) (sFr K n++[(101,.bool false)]) [qce,.tip 24,s.ob (.gsl (boC bs') n 9 3),.tip (n*9)]):=by
 induction m with
 |zero=>exact fun bs i hi hb h0=>⟨bs,i,by omega,hb,qBg s hK hk h1 h3 bs i (by omega)⟩
 |succ m ih=>
  intro bs i hi hb h0
  obtain⟨b,e⟩:=qBf s hK hk h1 h3 bs i (by omega) hb h0
  obtain⟨bs',n,e1,e2,e3⟩:=ih (bs++[b]) (i+1) (by omega) (by simp[hb]) (by omega)
  exact⟨bs',n,e1,e2,by rw[e]; exact e3⟩
theorem qCy (s:Sc) {K:List Int} (hK:K.length=24) (hk:InK K) (h1:1<=s.p) (h3:s.p<=3) :
  ∃ (bs':List Bo) (n:Nat),(n:Int)=qqJ s K/\bs'.length=n /\
  Z qaa (.loop 0 F45l1 (sFr K 0) [qce,.tip 24,s.ob (.dat (.lit (.slice none 0 0)))])=some (.out (.exit 2) (sFr K n++[(101,.bool false)]) [qce,.tip 24,s.ob (.gsl (boC bs') n 9 3),.tip (n*9)]):=by
 obtain⟨b,e⟩:=qyZ s hK hk h1 h3
 have gm:0<=getN K 3:=(hk _ (qcY (by omega))).1
 have q3:=qbM gm (m:=3) (by omega)
 have r3:=qaS q3.1 (m:=3) (by omega)
 have hm:1<=qqJ s K:=by unfold qqJ; omega
 obtain⟨bs',n,e1,e2,e3⟩:=qBh s hK hk h1 h3 (qqJ s K-1).toNat [b] 1 (by omega) rfl (by omega)
 exact⟨bs',n,e1,e2,by rw[e]; exact e3⟩
end
section
open F
theorem qpC(i:Nat)(h:i<3) : ∃ ds nd,qah [D.sl [] 0 true,.sl [.lit (.int .i64 0),.lit (.int .i64 1)] 1 true,.sl [.lit (.int .i64 0),.lit (.int .i64 2),.lit (.int .i64 1),.lit (.int .i64 2)] 2 true] i 1=some [.sl ds nd true]:=by
 match i,h with
 |0,_=>exact⟨_,_,rfl⟩
 |1,_=>exact⟨_,_,rfl⟩
 |2,_=>exact⟨_,_,rfl⟩
theorem qr6(i:Int)(h0:0<=i)(h1:i<3)(cs:List D):qae 1 (.dat (.sl cs 3 true)) i=some (.dat (.imm cs i.toNat)):=by
 simp[qae,h0,h1]
set_option maxHeartbeats 2000000 in
theorem qu7{d:D}{xs:List Int}(hd:IsRow d xs)(hx : ∀ x∈xs,I64 x) : ∃ (s:Su) (bs:List Bo),s.ok/\s.bs=boC bs/\bs.length=s.nb/\Z qaa (.call 45 [.dat d] [])=some (.ret s.d []):=by
 obtain⟨K,hK,hk,h1⟩:=qB0 hd hx
 have gm : ∀ j,j<24->0<=getN K j/\getN K j<1000000:=fun j hj=>hk _ (qcY (by omega))
 have g0:=gm 0 (by omega)
 have g1:=gm 1 (by omega)
 have g2:=gm 2 (by omega)
 have g3:=gm 3 (by omega)
 have c0:=qaJ K 0 (by omega)
 have c1:=qaJ K 1 (by omega)
 have c2:=qaJ K 2 (by omega)
 have c3:=qaJ K 3 (by omega)
 have s0:=qdS K 24 1 1 0 (by omega) (by omega)
 have s1:=qdS K 24 1 1 1 (by omega) (by omega)
 have s2:=qdS K 24 1 1 2 (by omega) (by omega)
 have s3:=qdS K 24 1 1 3 (by omega) (by omega)
 rw[show (0:Int).toNat=0 from rfl] at s0
 rw[show (1:Int).toNat=1 from rfl] at s1
 rw[show (2:Int).toNat=2 from rfl] at s2
 rw[show (3:Int).toNat=3 from rfl] at s3
 have p0:=qaS g0.1 (m:=3) (by omega)
 have p3:=qaS g3.1 (m:=3) (by omega)
 have q3:=qbM g3.1 (m:=3) (by omega)
 have r3:=qaS q3.1 (m:=3) (by omega)
 obtain⟨ds,nd,hds⟩:=qpC ((getN K 3).tmod 3).toNat (by omega)
 have hda:=qr6 ((getN K 3).tmod 3) p3.1 p3.2
 have w0:=qag (1+(getN K 0).tmod 3) (by omega)
 obtain⟨bs,n,e1,e2,e3⟩:=qCy ⟨1+(getN K 0).tmod 3,ds,nd,wr (4000+wr ((getN K 1).tmod 9*1000)),wr (wr (-(wr ((getN K 2).tdiv 36)).tmod 3)*40),wr ((wr ((getN K 1).tdiv 9)).tmod 5*100),wr ((getN K 2).tmod 4*100),wr ((wr ((getN K 2).tdiv 4)).tmod 3*512),wr (1+(wr ((getN K 2).tdiv 12)).tmod 3)⟩ hK hk (by simp only; omega) (by simp only; omega)
 unfold qqJ at e1
 simp only at e1
 refine⟨⟨(1+(getN K 0).tmod 3).toNat,n,boC bs,ds,nd,wr (4000+wr ((getN K 1).tmod 9*1000)),wr (wr (-(wr ((getN K 2).tdiv 36)).tmod 3)*40),wr ((wr ((getN K 1).tdiv 9)).tmod 5*100),wr ((getN K 2).tmod 4*100),wr ((wr ((getN K 2).tdiv 4)).tmod 3*512),wr (1+(wr ((getN K 2).tdiv 12)).tmod 3)⟩,bs,⟨by simp only; omega,by simp only; omega,by simp only; omega,by simp only; omega⟩,rfl,e2,?_⟩
 refine qab (pf:=F45) rfl rfl ?_
 have hp:((1+(getN K 0).tmod 3).toNat:Int)=1+(getN K 0).tmod 3:=by omega
 simp only[Su.d,Su.c,hp]
 simp only[qq7,qce] at h1
 simp only[sFr,qce,Sc.ob,qnA,iD] at e3
 generalize boC bs=B at *
 generalize getN K 0=k0 at *
 generalize getN K 1=k1 at *
 generalize getN K 2=k2 at *
 generalize getN K 3=k3 at *
 simp[F45,h1,Wa,qaI,qan,s0,s1,s2,s3,c0,c1,c2,c3,w0,hds,hda,e3,iD,qnA]
end
section
open F
def Low(w:List Int):Prop := ∀ j,j<48->getN w j=0
theorem qgR{w:List Int}(h:Low w)(i:Int)(v:Int)(hi:48<=i):Low (qao w i v):=by
 intro j hj
 have:=h j hj
 simp only[getN,qao,Wn] at this ⊢
 rw[Ww (by omega)]
 exact this
def qhL(s:Su):Ob := .cells (s.c.map .dat)
def iFr(N:Nat)(i:Int):Fr:=[(1,.ptr 0 0),(3,.msl 1 0 N N 1),(4,.int i)]
theorem qr9(bs:List Bo)(i:Nat):(boC bs).drop (i*9)=boC (bs.drop i):=by
 induction i generalizing bs with
 |zero=>simp
 |succ i ih=>
  cases bs with
  |nil=>simp[boC]
  |cons b bs=>
   rw[show (i+1)*9=9+i*9 by omega,<- List.drop_drop]
   have:(boC (b::bs)).drop 9=boC bs:=rfl
   rw[this,ih bs]
   rfl
theorem qx2(bs:List Bo)(i:Nat)(h:i<bs.length):qah (boC bs) (i*9) 9=some bs[i].c:=by
 unfold qah
 rw[qr9,WF h]
 have:boC (bs[i]::bs.drop (i+1))=bs[i].c++boC (bs.drop (i+1)):=rfl
 rw[this]
 rfl
theorem qAx (s:Su) (hs:s.ok) (bs:List Bo) (hb:s.bs=boC bs) (hl:bs.length=s.nb) (w:List Int) (hw:w.length=s.n) (hlow:Low w) (i:Nat) (hi:i<s.nb) :
  ∃ w',w'.length=s.n/\Low w'/\Z qaa (.loop 0 F55l0 (iFr s.n i) [qhL s,.cells (qba w)])=Z qaa (.loop 0 F55l0 (iFr s.n (i+1:Nat)) [qhL s,.cells (qba w')]):=by
 have hp:=hs.p3; have hq:=hs.b5
 have hN:s.n=48+4*s.p+8*s.nb:=rfl
 have hbody:=qmv s hs i
 have hB:bodyI s i=48+4*s.p+8*i:=by unfold bodyI; rw[if_neg (by omega)]
 rw[hB] at hbody
 have hcut:=qx2 bs i (by omega)
 generalize bs[i]=b at hcut
 generalize hA:(48+4*(s.p:Int)+8*i)=A at *
 have hA0:48<=A:=by omega
 have hA1:A+8<=s.n:=by omega
 have hsz:s.n<1000:=by omega
 have t0:=qaO w (A).toNat b.x (by first|omega | (simp; omega))
 have y0:(A).toNat+1<=w.length:=by omega
 have z0:A<s.n:=by omega
 have v0:0<=A:=by omega
 have t1:=qaO (w.set (A).toNat b.x) ((A+1)).toNat b.y (by first|omega | (simp; omega))
 have x1:=qag (A+1) (by omega)
 have y1:((A+1)).toNat+1<=w.length:=by omega
 have z1:(A+1)<s.n:=by omega
 have v1:0<=(A+1):=by omega
 have t2:=qaO ((w.set (A).toNat b.x).set ((A+1)).toNat b.y) ((A+2)).toNat b.vx (by first|omega | (simp; omega))
 have x2:=qag (A+2) (by omega)
 have y2:((A+2)).toNat+1<=w.length:=by omega
 have z2:(A+2)<s.n:=by omega
 have v2:0<=(A+2):=by omega
 have t3:=qaO (((w.set (A).toNat b.x).set ((A+1)).toNat b.y).set ((A+2)).toNat b.vx) ((A+3)).toNat b.vy (by first|omega | (simp; omega))
 have x3:=qag (A+3) (by omega)
 have y3:((A+3)).toNat+1<=w.length:=by omega
 have z3:(A+3)<s.n:=by omega
 have v3:0<=(A+3):=by omega
 have t4:=qaO ((((w.set (A).toNat b.x).set ((A+1)).toNat b.y).set ((A+2)).toNat b.vx).set ((A+3)).toNat b.vy) ((A+4)).toNat b.a (by first|omega | (simp; omega))
 have x4:=qag (A+4) (by omega)
 have y4:((A+4)).toNat+1<=w.length:=by omega
 have z4:(A+4)<s.n:=by omega
 have v4:0<=(A+4):=by omega
 have t5:=qaO (((((w.set (A).toNat b.x).set ((A+1)).toNat b.y).set ((A+2)).toNat b.vx).set ((A+3)).toNat b.vy).set ((A+4)).toNat b.a) ((A+5)).toNat b.b (by first|omega | (simp; omega))
 have x5:=qag (A+5) (by omega)
 have y5:((A+5)).toNat+1<=w.length:=by omega
 have z5:(A+5)<s.n:=by omega
 have v5:0<=(A+5):=by omega
 refine⟨((((((w.set (A).toNat b.x).set ((A+1)).toNat b.y).set ((A+2)).toNat b.vx).set ((A+3)).toNat b.vy).set ((A+4)).toNat b.a).set ((A+5)).toNat b.b),by simp[hw],?_,?_⟩
 ·have:=qgR (qgR (qgR (qgR (qgR (qgR hlow A b.x hA0) (A+1) b.y (by omega)) (A+2) b.vx (by omega)) (A+3) b.vy (by omega)) (A+4) b.a (by omega)) (A+5) b.b (by omega)
  exact this
 have w1:=qag ((i:Int)+1) (by omega)
 have hi':(i:Int)<s.nb:=by omega
 rw[<- hb] at hcut
 simp only[Su.d,Su.c] at hbody
 rw[qac]
 simp[qad,qlv,iFr,qhL,Su.c,Wa,hbody,hcut,Bo.c,hi,hi',qae,w1,V.len,t0,t1,t2,t3,t4,t5,x1,x2,x3,x4,x5,y0,y1,y2,y3,y4,y5,z0,z1,z2,z3,z4,z5,v0,v1,v2,v3,v4,v5]
 simp only[qac]
 congr 1
 simp[Wa,V.cells]
theorem qAy(s:Su)(w:List Int)(N:Nat):Z qaa (.loop 0 F55l0 (iFr N s.nb) [qhL s,.cells (qba w)])=some (.out (.exit 0) (iFr N s.nb++[(14,.bool false)]) [qhL s,.cells (qba w)]):=by
 rw[qac]
 simp[qad,qlv,iFr,qhL,Su.c,Wa,V.len]
theorem qAz (s:Su) (hs:s.ok) (bs:List Bo) (hb:s.bs=boC bs) (hl:bs.length=s.nb) (m:Nat) : ∀ (w:List Int) (i:Nat),i+m=s.nb->w.length=s.n->Low w ->
  ∃ w',w'.length=s.n/\Low w'/\Z qaa (.loop 0 F55l0 (iFr s.n i) [qhL s,.cells (qba w)])=some (.out (.exit 0) (iFr s.n s.nb++[(14,.bool false)]) [qhL s,.cells (qba w')]):=by
 induction m with
 |zero=>
  intro w i hi hw hlow
  have:i=s.nb:=by omega
  subst this
  exact⟨w,hw,hlow,qAy s w s.n⟩
 |succ m ih=>
  intro w i hi hw hlow
  obtain⟨w1,a1,a2,a3⟩:=qAx s hs bs hb hl w hw hlow i (by omega)
  obtain⟨w2,b1,b2,b3⟩:=ih w1 (i+1) (by omega) a1 a2
  exact⟨w2,b1,b2,by rw[a3]; exact b3⟩
end
section
open F
theorem qry(n:Nat):Low (List.replicate n 0):=by
 intro j _
 simp only[getN,Wn,List.getElem?_replicate]
 split<;>rfl
theorem qpi(s:Su)(hs:s.ok)(bs:List Bo)(hb:s.bs=boC bs)(hl:bs.length=s.nb) : ∃ w,w.length=s.n/\Low w/\Z qaa (.call 55 [s.d] [])=some (.ret (.dat (.sl (qal w) s.n false)) []):=by
 obtain⟨w,h1,h2,h3⟩:=qAz s hs bs hb hl s.nb (List.replicate s.n 0) 0 (by omega) (by simp) (qry _)
 refine⟨w,h1,h2,?_⟩
 refine qab (pf:=F55) rfl rfl ?_
 have hp:=hs.p3; have hq:=hs.b5
 have hN:s.n<1000:=by unfold Su.n; omega
 have hz:=qyY s hs
 have k1:(s.n:Int)<=1099511627776/\8*(s.n:Int)<=281474976710656:=by omega
 have k2:8*s.n<=281474976710656:=by omega
 have k3:=qd6 w s.n (by omega)
 rw[show ((0:Nat):Int)=0 from rfl] at h3
 simp only[iFr,qhL,Su.c,List.map] at h3
 simp only[Su.d,Su.c] at hz ⊢
 simp[F55,qe4,k1,k2,k3,hz,h1,h3,Wa]
end
section
open F
def tb7:List D:=[.lit (.int .i64 2147483647),.lit (.int .i64 (-2147483647)),.lit (.int .i64 65536),.lit (.int .i64 46341),.lit (.int .i64 (-46341)),.lit (.int .i64 1048577),.lit (.int .i64 16385)]
def tb5:List D:=[.lit (.int .i64 0),.lit (.int .i64 1),.lit (.int .i64 39),.lit (.int .i64 40),.lit (.int .i64 41)]
theorem qwE(i:Nat)(h:i<7) : ∃ v,I64 v/\qah tb7 i 1=some [.lit (.int .i64 v)]:=by
 match i,h with
 |0,_=>exact⟨_,by unfold I64; omega,rfl⟩
 |1,_=>exact⟨_,by unfold I64; omega,rfl⟩
 |2,_=>exact⟨_,by unfold I64; omega,rfl⟩
 |3,_=>exact⟨_,by unfold I64; omega,rfl⟩
 |4,_=>exact⟨_,by unfold I64; omega,rfl⟩
 |5,_=>exact⟨_,by unfold I64; omega,rfl⟩
 |6,_=>exact⟨_,by unfold I64; omega,rfl⟩
theorem qwF(i:Nat)(h:i<5) : ∃ v,qah tb5 i 1=some [.lit (.int .i64 v)]:=by
 match i,h with
 |0,_=>exact⟨_,rfl⟩
 |1,_=>exact⟨_,rfl⟩
 |2,_=>exact⟨_,rfl⟩
 |3,_=>exact⟨_,rfl⟩
 |4,_=>exact⟨_,rfl⟩
def qiM(d:D)(N:Nat)(i:Int):Fr:=[(1,.dat d),(5,.own 0 N 1),(6,.int i)]
theorem qBj {d:D} {xs:List Int} (hd:IsRow d xs) (hx : ∀ x∈xs,I64 x) (N:Nat) (hN0:48<=N) (hN1:N<1000) (w:List Int) (hw:w.length=N) (i:Nat) (h1:i+1<xs.length) (h2:i<40) :
  ∃ w',w'.length=N/\Z qaa (.loop 0 F47l0 (qiM d N i) [.vec (qba w)])=Z qaa (.loop 0 F47l0 (qiM d N (i+2:Nat)) [.vec (qba w')]):=by
 have m0:=hx _ (qcY (xs:=xs) (i:=i) (by omega))
 have m1:=hx _ (qcY (xs:=xs) (i:=i+1) (by omega))
 have a0:=qdl m0 (m:=N) (by omega)
 have a1:=qdl m1 (m:=100000) (by omega)
 have b0:=around_lt m0 (m:=N) (by omega)
 have b1:=around_lt m1 (m:=100000) (by omega)
 have c0:=qaJ xs i (by omega)
 have c1:=qaJ xs (i+1) (by omega)
 have e0:=hd.at_ i (by omega) (by omega)
 have e1:=hd.at_ ((i:Int)+1) (by omega) (by omega)
 rw[show ((i:Int)).toNat=i by omega] at e0
 rw[show ((i:Int)+1).toNat=i+1 by omega] at e1
 generalize around (getN xs i) N=at' at a0 b0
 generalize around (getN xs (i+1)) 100000=n at a1 b1
 generalize getN xs i=x0 at *
 generalize getN xs (i+1)=x1 at *
 have r1:=qaS b1.1 (m:=41) (by omega)
 have q7:=qbM b1.1 (m:=7) (by omega)
 have r7:=qaS q7.1 (m:=7) (by omega)
 have r5:=qaS b1.1 (m:=5) (by omega)
 have w1:=qag ((i:Int)+1) (by omega)
 have w2:=qag ((i:Int)+2) (by omega)
 have w3:=qag (n.tmod 41-20) (by omega)
 have w4:=qag (n.tdiv 7) (by omega)
 obtain⟨v7,i7,hv7⟩:=qwE ((n.tdiv 7).tmod 7).toNat (by omega)
 obtain⟨v5,hv5⟩:=qwF (n.tmod 5).toNat (by omega)
 have f7:=qcS tb7 7 true _ r7.1 r7.2
 have f5:=qcS tb5 5 true _ r5.1 r5.2
 have fo:=qho 0 N at' b0.1 b0.2
 have l1:(i:Int)+1<xs.length:=by omega
 have l2:(i:Int)<40:=by omega
 have hat:at'.toNat+1<=N:=by omega
 have fin : ∀ v,(qba w).take at'.toNat++(V.int v::(qba w).drop (at'.toNat+1))=qba (w.set at'.toNat v):=fun v=>qaO w at'.toNat v (by omega)
 have g : ∀ v,I64 v -> ∃ u,Z qaa (.call 17 [.int v,.int 24] [])=some (.ret (.int u) []):=fun v hv=>⟨_,qdl hv (by omega)⟩
 obtain⟨u1,hu1⟩:=g (n.tmod 41-20) (by unfold I64; omega)
 obtain⟨u7,hu7⟩:=g v7 i7
 have key : ∃ v,Z qaa (.loop 0 F47l0 (qiM d N i) [.vec (qba w)])=Z qaa (.loop 0 F47l0 (qiM d N (i+2:Nat)) [.vec (qba (w.set at'.toNat v))]):=by
  rw[qac]
  simp only[tb7,tb5] at f7 f5 hv7 hv5
  have b00:=b0.1
  have b01:=b0.2
  rcases (by omega:at'=11\/at'=6\/at'=7\/at'=8\/(¬ at'=11 /\ ¬ at'=6 /\ ¬ at'=7 /\ ¬ at'=8)) with rfl|rfl|rfl|rfl|⟨k11,k6,k70,k8⟩
  ·simp only[Int.reduceToNat,Nat.reduceAdd] at fo hat fin
   by_cases k7:n.tmod 7=0
   ·refine⟨v5,?_⟩
    simp[qad,qb7,qiM,Wa,hd.len,qcb,l1,l2,e0,e1,c0,c1,a0,a1,w1,w2,w3,w4,k7,f7,f5,hv7,hv5,fo,hat,fin,hw]
   ·refine⟨v5,?_⟩
    simp[qad,qb7,qiM,Wa,hd.len,qcb,l1,l2,e0,e1,c0,c1,a0,a1,w1,w2,w3,w4,k7,f7,f5,hv7,hv5,fo,hat,fin,hw]
  ·simp only[Int.reduceToNat,Nat.reduceAdd] at fo hat fin
   by_cases k7:n.tmod 7=0
   ·refine⟨u7,?_⟩
    simp[qad,qb7,qiM,Wa,hd.len,qcb,l1,l2,e0,e1,c0,c1,a0,a1,w1,w2,w3,w4,k7,f7,f5,hv7,hv5,fo,hat,fin,hw,hu7]
   ·refine⟨u1,?_⟩
    simp[qad,qb7,qiM,Wa,hd.len,qcb,l1,l2,e0,e1,c0,c1,a0,a1,w1,w2,w3,w4,k7,f7,f5,hv7,hv5,fo,hat,fin,hw,hu1]
  ·simp only[Int.reduceToNat,Nat.reduceAdd] at fo hat fin
   by_cases k7:n.tmod 7=0
   ·refine⟨u7,?_⟩
    simp[qad,qb7,qiM,Wa,hd.len,qcb,l1,l2,e0,e1,c0,c1,a0,a1,w1,w2,w3,w4,k7,f7,f5,hv7,hv5,fo,hat,fin,hw,hu7]
   ·refine⟨u1,?_⟩
    simp[qad,qb7,qiM,Wa,hd.len,qcb,l1,l2,e0,e1,c0,c1,a0,a1,w1,w2,w3,w4,k7,f7,f5,hv7,hv5,fo,hat,fin,hw,hu1]
  ·simp only[Int.reduceToNat,Nat.reduceAdd] at fo hat fin
   by_cases k7:n.tmod 7=0
   ·refine⟨u7,?_⟩
    simp[qad,qb7,qiM,Wa,hd.len,qcb,l1,l2,e0,e1,c0,c1,a0,a1,w1,w2,w3,w4,k7,f7,f5,hv7,hv5,fo,hat,fin,hw,hu7]
   ·refine⟨u1,?_⟩
    simp[qad,qb7,qiM,Wa,hd.len,qcb,l1,l2,e0,e1,c0,c1,a0,a1,w1,w2,w3,w4,k7,f7,f5,hv7,hv5,fo,hat,fin,hw,hu1]
  ·by_cases k7:n.tmod 7=0
   ·refine⟨v7,?_⟩
    simp[qad,qb7,qiM,Wa,hd.len,qcb,l1,l2,e0,e1,c0,c1,a0,a1,w1,w2,w3,w4,k7,f7,f5,hv7,hv5,fo,hat,fin,hw,k11,k6,k70,k8]
   ·refine⟨n.tmod 41-20,?_⟩
    simp[qad,qb7,qiM,Wa,hd.len,qcb,l1,l2,e0,e1,c0,c1,a0,a1,w1,w2,w3,w4,k7,f7,f5,hv7,hv5,fo,hat,fin,hw,k11,k6,k70,k8]
 obtain⟨v,e⟩:=key
 exact⟨w.set at'.toNat v,by simp[hw],e⟩
theorem qy3 {d:D} {xs:List Int} (hd:IsRow d xs) (N:Nat) (w:List Int) (i:Nat) (h : ¬ (i+1<xs.length/\i<40)) (hi:i<2^60) :
  Z qaa (.loop 0 F47l0 (qiM d N i) [.vec (qba w)])=some (.out (.exit 0) (qiM d N i++[(22,.bool false)]) [.vec (qba w)]):=by
 have w1:=qag ((i:Int)+1) (by omega)
 rw[qac]
 by_cases h1:(i:Int)+1<xs.length
 ·have h2 : ¬ (i:Int)<40:=by omega
  simp[qad,qb7,qiM,Wa,hd.len,qcb,w1,h1,h2]
 ·simp[qad,qb7,qiM,Wa,hd.len,qcb,w1,h1]
theorem qBk {d:D} {xs:List Int} (hd:IsRow d xs) (hx : ∀ x∈xs,I64 x) (N:Nat) (hN0:48<=N) (hN1:N<1000) (m:Nat) : ∀ (w:List Int) (i:Nat),w.length=N->42<=i+m->i<50 ->
  ∃ w' i',w'.length=N/\Z qaa (.loop 0 F47l0 (qiM d N i) [.vec (qba w)])=some (.out (.exit 0) (qiM d N (i':Nat)++[(22,.bool false)]) [.vec (qba w')]):=by
 induction m with
 |zero=>intro w i hw hi hi2; exact⟨w,i,hw,qy3 hd N w i (by omega) (by omega)⟩
 |succ m ih=>
  intro w i hw hi hi2
  by_cases h:i+1<xs.length/\i<40
  ·obtain⟨w',a1,a2⟩:=qBj hd hx N hN0 hN1 w hw i h.1 h.2
   obtain⟨w2,i2,b1,b2⟩:=ih w' (i+2) a1 (by omega) (by omega)
   exact⟨w2,i2,b1,by rw[a2]; exact b2⟩
  ·exact⟨w,i,hw,qy3 hd N w i h (by omega)⟩
theorem qwG (s:Su) (hs:s.ok) (bs:List Bo) (hb:s.bs=boC bs) (hbl:bs.length=s.nb) {d:D} {xs:List Int} (hd:IsRow d xs) (hx : ∀ x∈xs,I64 x) :
  ∃ w,w.length=s.n/\Z qaa (.call 47 [s.d,.dat d] [])=some (.ret (.dat (.sl (qal w) s.n false)) []):=by
 have hp:=hs.p3; have hq:=hs.b5
 have hN:48<=s.n/\s.n<1000:=by unfold Su.n; omega
 obtain⟨w0,a1,a2,a3⟩:=qpi s hs bs hb hbl
 obtain⟨w,i',b1,b2⟩:=qBk hd hx s.n hN.1 hN.2 42 w0 0 a1 (by omega) (by omega)
 refine⟨w,b1,?_⟩
 refine qab (pf:=F47) rfl rfl ?_
 have hr:qay s.n 8=true:=by simp[qay]; omega
 have hn0 : ¬ s.n=0:=by omega
 rw[show ((0:Nat):Int)=0 from rfl] at b2
 have e1:(qal w0).map V.dat=qba w0:=by simp[qal,qba]
 have b3:=(qam (k:=0) (b:=F47l0) (fr:=[(1,.dat d),(5,.own 1 s.n 1),(6,.int 0)]) (σ := [qhL s,.vec (qba w0)]) (by simp[qiM,qhL,Su.c,Wa])).trans b2
 simp only[qiM,qhL,Su.c,List.map] at b3
 simp only[Su.d,Su.c] at a3 ⊢
 simp[F47,a3,e1,a1,hr,hn0,b3,b1,Wa]
end
section
open F
def qys:Ob := .cells [.dat (.lit (.slice none 0 0)),.int 0,.int 0,.int 0]
@[simp] theorem qtR(a:List (Nat × Int)):(qbO a).length=a.length*2:=by
 induction a with
 |nil=>rfl
 |cons x a ih=>simp only[qbO,List.flatMap_cons,Wb,We,Wk] at ih ⊢; omega
end
section
open F
def eS(e0 e1 e2:Int):List (Nat × Int)->S
 |[]=>[qys,.cells [.dat (.lit (.slice none 0 0)),.int e0,.int e1,.int e2]]
 |x::c=>[qys,.cells [.gsl (qbO (x::c)) (c.length+1) 2 2,.int e0,.int e1,.int e2],.tip ((c.length+1)*2)]
end
section
open F
theorem qoI(s:Su)(c:List (Nat × Int))(cs:List Int) : ∃ x1 x2 x3 x4,(qcH s c cs).e=[x1,x2,x3,x4]:=by
 unfold qcH
 split
 ·exact qkg _ _ _ _
 ·exact⟨_,_,_,_,rfl⟩
end
section
open F
structure Rg(cs:List Int)(N:Nat)(pc sp fuel v0 v1:Int):Prop where
 len:cs.length=N
 pc:getN cs 6=pc
 sp:getN cs 7=sp
 fu:getN cs 8=fuel
 v0:getN cs 16=v0
 v1:getN cs 17=v1
end
section
open F
def okM:Option (List D × Nat)->Nat->Prop
 |none,_=>True
 |some (lg,k),b=>lg.length=k*2/\k<=b
end
section
open F
structure Ef(cs:List Int)(cnt h:Int):Prop where
 t:getN cs 0=0
 c:getN cs 11=cnt
 h:getN cs 12=h
section
variable{s:Su}{d:D}{xs:List Int}{cs cs1 cs':List Int}{N:Nat}{lg lg1 lg':List D}{k k1 k' i:Nat}{K kind hash hash' v:Int}
set_option maxHeartbeats 8000000
end
end
section
open F
section
variable{s:Su}{cs:List Int}{N:Nat}{c:List (Nat × Int)}{f:Bool}{e0 e1 e2 h self other fuel:Int}
theorem qqO (hb:h<0\/3<=h\/qcG e0 e1 e2 h<0) :
  Z qaa (.call 56 [.dat (.sl (qal cs) N false),qaq f c e0 e1 e2,.int h,.int self,.int other,.int fuel] [])=some (.ret (.tup [.dat (.sl (qal cs) N false),.bool false]) []):=by
 refine qab (pf:=F56) rfl rfl ?_
 by_cases h0:h<0
 ·simp[F56,qaq,Wa,h0]
 ·by_cases h3:2<h
  ·simp[F56,qaq,Wa,h0,h3]
  ·obtain rfl|rfl|rfl:h=0\/h=1\/h=2:=by omega
   ·have h4:e0<0:=by simpa [qcG] using hb
    simp[F56,qaq,Wa,h4]
   ·have h4:e1<0:=by simpa [qcG] using hb
    simp[F56,qaq,Wa,h4]
   ·have h4:e2<0:=by simpa [qcG] using hb
    simp[F56,qaq,Wa,h4]
theorem qoK (hN:cs.length=N) (h48:48<=N) (hN1:N<1000) (hb : ¬ (h<0\/3<=h\/qcG e0 e1 e2 h<0)) :
  Z qaa (.call 56 [.dat (.sl (qal cs) N false),qaq f c e0 e1 e2,.int h,.int self,.int other,.int fuel] [])=some (.ret (.tup [.dat (.sl (qal (qgk cs (qcG e0 e1 e2 h) fuel self other)) N false),.bool true]) []):=by
 refine qab (pf:=F56) rfl rfl ?_
 have hr:qay N 8=true:=by simp[qay]; omega
 have hn0 : ¬ N=0:=by omega
 have e1':(qal cs).map V.dat=qba cs:=by simp[qal,qba]
 have p6:qae 1 (.own 1 N 1) 6=some (.eptr 1 N 6):=qdj 1 N 6 (by omega)
 have p7:qae 1 (.own 1 N 1) 7=some (.eptr 1 N 7):=qdj 1 N 7 (by omega)
 have p8:qae 1 (.own 1 N 1) 8=some (.eptr 1 N 8):=qdj 1 N 8 (by omega)
 have p9:qae 1 (.own 1 N 1) 9=some (.eptr 1 N 9):=qdj 1 N 9 (by omega)
 have p10:qae 1 (.own 1 N 1) 10=some (.eptr 1 N 10):=qdj 1 N 10 (by omega)
 have q6:6+1<=N:=by omega
 have q7:7+1<=N:=by omega
 have q8:8+1<=N:=by omega
 have q9:9+1<=N:=by omega
 have q10:10+1<=N:=by omega
 simp only[Nat.reduceAdd] at q6 q7 q8 q9 q10
 have E : ∀ e,∃ L,L=qgk cs e fuel self other:=fun e=>⟨_,rfl⟩
 have t6 : ∀ e,(qba cs).take 6++(V.int e::(qba cs).drop 7)=qba (qao cs 6 e):=fun e=>qaO cs 6 e (by omega)
 have t7 : ∀ e,(qba (qao cs 6 e)).take 7++(V.int 0::(qba (qao cs 6 e)).drop 8)=qba (qao (qao cs 6 e) 7 0):=fun e=>qaO _ 7 _ (by simp; omega)
 have t8 : ∀ e,(qba (qao (qao cs 6 e) 7 0)).take 8++(V.int fuel::(qba (qao (qao cs 6 e) 7 0)).drop 9)=qba (qao (qao (qao cs 6 e) 7 0) 8 fuel):=fun e=>qaO _ 8 _ (by simp; omega)
 have t9 : ∀ e,(qba (qao (qao (qao cs 6 e) 7 0) 8 fuel)).take 9++(V.int self::(qba (qao (qao (qao cs 6 e) 7 0) 8 fuel)).drop 10)=qba (qao (qao (qao (qao cs 6 e) 7 0) 8 fuel) 9 self):=fun e=>qaO _ 9 _ (by simp; omega)
 have t10 : ∀ e,(qba (qao (qao (qao (qao cs 6 e) 7 0) 8 fuel) 9 self)).take 10++(V.int other::(qba (qao (qao (qao (qao cs 6 e) 7 0) 8 fuel) 9 self)).drop 11)=qba (qgk cs e fuel self other):=fun e=>qaO _ 10 _ (by simp; omega)
 obtain rfl|rfl|rfl:h=0\/h=1\/h=2:=by omega
 ·have h4 : ¬ e0<0:=by simpa [qcG] using hb
  simp[F56,qaq,Wa,h4,hr,hn0,hN,e1',p6,p7,p8,p9,p10,q6,q7,q8,q9,q10,t6,t7,t8,t9,t10,qcG]
 ·have h4 : ¬ e1<0:=by simpa [qcG] using hb
  simp[F56,qaq,Wa,h4,hr,hn0,hN,e1',p6,p7,p8,p9,p10,q6,q7,q8,q9,q10,t6,t7,t8,t9,t10,qcG]
 ·have h4 : ¬ e2<0:=by simpa [qcG] using hb
  simp[F56,qaq,Wa,h4,hr,hn0,hN,e1',p6,p7,p8,p9,p10,q6,q7,q8,q9,q10,t6,t7,t8,t9,t10,qcG]
end
end
section
open F
section
variable{s:Su}{cs:List Int}{N:Nat}{c:List (Nat × Int)}{f:Bool}{e0 e1 e2:Int}
set_option maxHeartbeats 4000000 in
theorem qqV (hN:cs.length=N) (h48:48<=N) (hN1:N<1000) (hc : ∀ x∈c,1<=x.1/\x.1<=21) :
  Z qaa (.call 67 [.dat (.sl (qal cs) N false),qaq f c e0 e1 e2] [])=some (.ret (.bool (qbV c cs)) []):=by
 refine qab (pf:=F67) rfl rfl ?_
 have p6:qae 1 (.dat (.sl (qal cs) N false)) 6=some (.dat (.imm (qal cs) 6)):=qlp _ N 6 (by omega)
 have p7:qae 1 (.dat (.sl (qal cs) N false)) 7=some (.dat (.imm (qal cs) 7)):=qlp _ N 7 (by omega)
 have p8:qae 1 (.dat (.sl (qal cs) N false)) 8=some (.dat (.imm (qal cs) 8)):=qlp _ N 8 (by omega)
 have q6:=qaJ cs 6 (by omega)
 have q7:=qaJ cs 7 (by omega)
 have q8:=qaJ cs 8 (by omega)
 have g6:getI cs 6=getN cs 6:=rfl
 have g7:getI cs 7=getN cs 7:=rfl
 have g8:getI cs 8=getN cs 8:=rfl
 unfold qbV
 rw[g6,g7,g8]
 have hat:=qfx f c (getN cs 6)
 have hcut:=qdx c (getN cs 6).toNat
 generalize getN cs 6=pc at *
 generalize getN cs 7=sp at *
 generalize getN cs 8=fuel at *
 by_cases h0:fuel<1
 ·simp[F67,qaq,Wa,qaI,qan,p6,p7,p8,q6,q7,q8,h0]
 by_cases h1:pc<0
 ·simp[F67,qaq,Wa,qaI,qan,p6,p7,p8,q6,q7,q8,h0,h1]
 by_cases h2:(c.length:Int)<=pc
 ·simp[F67,qaq,Wa,qaI,qan,p6,p7,p8,q6,q7,q8,h0,h1,h2]
 have hi:pc.toNat<c.length:=by omega
 have hins:insAt c pc=c[pc.toNat]:=by simp[insAt,Wn,hi]
 have hmem:=hc _ (WR hi)
 replace hcut:=hcut hi
 replace hat:=hat (by omega) (by omega)
 rw[<- hins] at hmem hcut
 generalize insAt c pc=ins at *
 obtain⟨op,n⟩:=ins
 simp only at hmem hcut ⊢
 have zp:=qt7 op hmem.1 hmem.2
 have zq:=qt8 op hmem.1 hmem.2
 have hp2:=qkz op
 have hu2:=qkA op
 have hfp:(!(decide (fuel<1)||(decide (pc<0)||decide ((c.length:Int)<=pc))))=true:=by simp; omega
 rw[hfp,Bool.true_and]
 have b0 : ¬ ((popsN op:Nat):Int)<0:=by omega
 by_cases h3:sp<popsN op
 ·have:qmw op n sp=false:=by simp[qmw]; omega
  rw[this]
  simp[F67,qaq,Wa,qaI,qan,p6,p7,p8,q6,q7,q8,h0,h1,h2,hat,hcut,zp,zq,b0,h3]
 by_cases h4:16<sp
 ·have:qmw op n sp=false:=by simp[qmw]; omega
  rw[this]
  simp[F67,qaq,Wa,qaI,qan,p6,p7,p8,q6,q7,q8,h0,h1,h2,hat,hcut,zp,zq,b0,h3,h4]
 have w1:wr (sp-popsN op)=sp-popsN op:=qag _ (by omega)
 have w2:wr (sp-popsN op+pushN op)=sp-popsN op+pushN op:=qag _ (by omega)
 by_cases h5:16<sp-popsN op+pushN op
 ·have:qmw op n sp=false:=by simp[qmw]; omega
  rw[this]
  simp[F67,qaq,Wa,qaI,qan,p6,p7,p8,q6,q7,q8,h0,h1,h2,hat,hcut,zp,zq,b0,h3,h4,w1,w2,h5]
 have hx:qmw op n sp=(decide (operN op=0)||(decide (0<=n)&&decide (n<operN op))):=by
  have a1:decide (sp<=16)=true:=by simp; omega
  have a2:decide ((popsN op:Int)<=sp)=true:=by simp; omega
  have a3:decide (sp-popsN op+pushN op<=16)=true:=by simp; omega
  simp only[qmw,a1,a2,a3,Bool.true_and]
 rw[hx]
 clear hx
 by_cases o2:op=2
 ·have d2:decide ((op:Int)=2)=true:=by simp; omega
  have d3:decide ((op:Int)=3)=false:=by simp; omega
  have d4:decide ((op:Int)=4)=false:=by simp; omega
  have d5:decide ((op:Int)=5)=false:=by simp; omega
  have hopr:operN op=16:=by rw[o2]; rfl
  by_cases n0:n<0
  ·have n0' : ¬ 0<=n:=by omega
   simp[F67,qaq,Wa,qaI,qan,p6,p7,p8,q6,q7,q8,h0,h1,h2,hat,hcut,zp,zq,b0,h3,h4,w1,w2,h5,d2,d3,d4,d5,hopr,n0,n0']
  ·have n0':0<=n:=by omega
   by_cases n1:15<n
   ·have n1' : ¬ n<16:=by omega
    simp[F67,qaq,Wa,qaI,qan,p6,p7,p8,q6,q7,q8,h0,h1,h2,hat,hcut,zp,zq,b0,h3,h4,w1,w2,h5,d2,d3,d4,d5,hopr,n0,n0',n1,n1']
   ·have n1':n<16:=by omega
    simp[F67,qaq,Wa,qaI,qan,p6,p7,p8,q6,q7,q8,h0,h1,h2,hat,hcut,zp,zq,b0,h3,h4,w1,w2,h5,d2,d3,d4,d5,hopr,n0,n0',n1,n1']
 by_cases o3:op=3
 ·have d2:decide ((op:Int)=2)=false:=by simp; omega
  have d3:decide ((op:Int)=3)=true:=by simp; omega
  have d4:decide ((op:Int)=4)=false:=by simp; omega
  have d5:decide ((op:Int)=5)=false:=by simp; omega
  have hopr:operN op=16:=by rw[o3]; rfl
  by_cases n0:n<0
  ·have n0' : ¬ 0<=n:=by omega
   simp[F67,qaq,Wa,qaI,qan,p6,p7,p8,q6,q7,q8,h0,h1,h2,hat,hcut,zp,zq,b0,h3,h4,w1,w2,h5,d2,d3,d4,d5,hopr,n0,n0']
  ·have n0':0<=n:=by omega
   by_cases n1:15<n
   ·have n1' : ¬ n<16:=by omega
    simp[F67,qaq,Wa,qaI,qan,p6,p7,p8,q6,q7,q8,h0,h1,h2,hat,hcut,zp,zq,b0,h3,h4,w1,w2,h5,d2,d3,d4,d5,hopr,n0,n0',n1,n1']
   ·have n1':n<16:=by omega
    simp[F67,qaq,Wa,qaI,qan,p6,p7,p8,q6,q7,q8,h0,h1,h2,hat,hcut,zp,zq,b0,h3,h4,w1,w2,h5,d2,d3,d4,d5,hopr,n0,n0',n1,n1']
 by_cases o4:op=4
 ·have d2:decide ((op:Int)=2)=false:=by simp; omega
  have d3:decide ((op:Int)=3)=false:=by simp; omega
  have d4:decide ((op:Int)=4)=true:=by simp; omega
  have d5:decide ((op:Int)=5)=false:=by simp; omega
  have hopr:operN op=8:=by rw[o4]; rfl
  by_cases n0:0<=n
  ·by_cases n1:n<=7
   ·have n1':n<8:=by omega
    simp[F67,qaq,Wa,qaI,qan,p6,p7,p8,q6,q7,q8,h0,h1,h2,hat,hcut,zp,zq,b0,h3,h4,w1,w2,h5,d2,d3,d4,d5,hopr,n0,n1,n1']
   ·have n1' : ¬ n<8:=by omega
    simp[F67,qaq,Wa,qaI,qan,p6,p7,p8,q6,q7,q8,h0,h1,h2,hat,hcut,zp,zq,b0,h3,h4,w1,w2,h5,d2,d3,d4,d5,hopr,n0,n1,n1']
  ·simp[F67,qaq,Wa,qaI,qan,p6,p7,p8,q6,q7,q8,h0,h1,h2,hat,hcut,zp,zq,b0,h3,h4,w1,w2,h5,d2,d3,d4,d5,hopr,n0]
 by_cases o5:op=5
 ·have d2:decide ((op:Int)=2)=false:=by simp; omega
  have d3:decide ((op:Int)=3)=false:=by simp; omega
  have d4:decide ((op:Int)=4)=false:=by simp; omega
  have d5:decide ((op:Int)=5)=true:=by simp; omega
  have hopr:operN op=8:=by rw[o5]; rfl
  by_cases n0:0<=n
  ·by_cases n1:n<=7
   ·have n1':n<8:=by omega
    simp[F67,qaq,Wa,qaI,qan,p6,p7,p8,q6,q7,q8,h0,h1,h2,hat,hcut,zp,zq,b0,h3,h4,w1,w2,h5,d2,d3,d4,d5,hopr,n0,n1,n1']
   ·have n1' : ¬ n<8:=by omega
    simp[F67,qaq,Wa,qaI,qan,p6,p7,p8,q6,q7,q8,h0,h1,h2,hat,hcut,zp,zq,b0,h3,h4,w1,w2,h5,d2,d3,d4,d5,hopr,n0,n1,n1']
  ·simp[F67,qaq,Wa,qaI,qan,p6,p7,p8,q6,q7,q8,h0,h1,h2,hat,hcut,zp,zq,b0,h3,h4,w1,w2,h5,d2,d3,d4,d5,hopr,n0]
 have d2:decide ((op:Int)=2)=false:=by simp; omega
 have d3:decide ((op:Int)=3)=false:=by simp; omega
 have d4:decide ((op:Int)=4)=false:=by simp; omega
 have d5:decide ((op:Int)=5)=false:=by simp; omega
 have hopr:operN op=0:=by
  unfold operN
  split<;>first|omega|rfl
 simp[F67,qaq,Wa,qaI,qan,p6,p7,p8,q6,q7,q8,h0,h1,h2,hat,hcut,zp,zq,b0,h3,h4,w1,w2,h5,d2,d3,d4,d5,hopr,h0]
end
end
section
open F
section
variable{s:Su}{cs:List Int}{N:Nat}{a b n:Int}
theorem qy2 (hs:s.ok) (hN:cs.length=N) (h:N=s.n) (n0:0<=n) (n8:n<8) :
  Z qaa (.call 1000 [.own 0 N 1,s.d,.int a,.int n] [.vec (qba cs)])=some (.ret (.int (if bodyI s a<0 then 0 else getI cs (bodyI s a+n))) [.vec (qba cs)]):=by
 have zb:=qmv s hs a
 refine qab (pf:=F1000) rfl rfl ?_
 by_cases h0:bodyI s a<0
 ·rw[if_pos h0]
  generalize bodyI s a=B at *
  simp only[Su.d,Su.c] at *
  simp[F1000,zb,h0,Wa]
 ·rw[if_neg h0]
  have hB:=qiK (s:=s) (a:=a) (by omega)
  have hp:=hs.p3; have hq:=hs.b5
  have h1000:s.n<1000:=by unfold Su.n; omega
  generalize bodyI s a=B at *
  have w:=qag (B+n) (by omega)
  have p:=qho 0 N (B+n) (by omega) (by omega)
  have q:=qdM cs (B+n) (by omega)
  simp only[Su.d,Su.c] at *
  simp[F1000,zb,h0,Wa,w,p,q,hN]
theorem qwA (hs:s.ok) (hN:cs.length=N) (h:N=s.n) (n0:0<=n) (n8:n<8) :
  Z qaa (.call 69 [.dat (.sl (qal cs) N false),s.d,.int a,.int n,.int b] [])=some (.ret (.dat (.sl (qal (if bodyI s a<0 then cs else qao cs (bodyI s a+n) (qjz n b))) N false)) []):=by
 have zb:=qmv s hs a
 refine qab (pf:=F69) rfl rfl ?_
 by_cases h0:bodyI s a<0
 ·rw[if_pos h0]
  generalize bodyI s a=B at *
  simp only[Su.d,Su.c] at *
  simp[F69,zb,h0,Wa]
 ·rw[if_neg h0]
  have hB:=qiK (s:=s) (a:=a) (by omega)
  have hp:=hs.p3; have hq:=hs.b5
  have h1000:s.n<1000:=by unfold Su.n; omega
  generalize bodyI s a=B at *
  have w:=qag (B+n) (by omega)
  have p:=qho 1 N (B+n) (by omega) (by omega)
  have hr:qay N 8=true:=by simp[qay]; omega
  have hn0 : ¬ N=0:=by omega
  have e1':(qal cs).map V.dat=qba cs:=by simp[qal,qba]
  have t : ∀ v,(qba cs).take (B+n).toNat++(V.int v::(qba cs).drop ((B+n).toNat+1))=qba (qao cs (B+n) v):=fun v=>qaO cs _ v (by omega)
  have hlt:(B+n).toNat+1<=N:=by omega
  simp only[Su.d,Su.c] at *
  by_cases c2:n<2
  ·have hl:qjz n b=qek b (-1048576) 1048576:=by unfold qjz; rw[if_pos (by omega)]
   have z:=qko b (-1048576) 1048576
   rw[hl]
   simp[F69,zb,h0,Wa,w,p,hr,hn0,hN,e1',t,hlt,c2,z]
  ·by_cases c4:n<4
   ·have hl:qjz n b=qek b (-16384) 16384:=by unfold qjz; rw[if_neg (by omega),if_pos (by omega)]
    have z:=qko b (-16384) 16384
    rw[hl]
    simp[F69,zb,h0,Wa,w,p,hr,hn0,hN,e1',t,hlt,c2,c4,z]
   ·have hl:qjz n b=b:=by unfold qjz; rw[if_neg (by omega),if_neg (by omega)]
    rw[hl]
    simp[F69,zb,h0,Wa,w,p,hr,hn0,hN,e1',t,hlt,c2,c4]
end
theorem qwB(f:BitVec 64->BitVec 64->BitVec 64)(a b:Int):0<=ql2 .u64 f a b/\ql2 .u64 f a b<18446744073709551616:=qeS _
theorem qqX(a b c d:Int):IntKind.u64.wrap ((hashI a b c d).tdiv 2)=shrI .u64 (hashI a b c d) 1:=by
 have h:0<=hashI a b c d/\hashI a b c d<18446744073709551616:=by
  unfold hashI
  rw[qj0]
  exact qwB _ _ _
 generalize hashI a b c d=x at *
 have e:shrI .u64 x 1=x.fdiv 2:=rfl
 rw[e,Int.fdiv_eq_ediv_of_nonneg _ (by omega),Yl h.1]
 exact qhd _ (by omega)
end
section
open F
def rL(cs:List Int)(p:Int):List Int:=qao (qao (qao cs 8 (wr (getN cs 8-1))) 6 (wr (getN cs 6+1))) 7 (getN cs 7-p)
@[simp] theorem qxj(cs:List Int)(p:Int):(rL cs p).length=cs.length:=by simp[rL]
theorem qtu{cs:List Int}{p:Int}{j:Nat}(h6:j≠6)(h7:j≠7)(h8:j≠8):getN (rL cs p) j=getN cs j:=by
 unfold rL
 rw[qaR (by simp; omega),qaR (by simp; omega),qaR (by simp; omega)]
set_option maxHeartbeats 8000000
abbrev RSV(s:Su)(cs:List Int)(N:Nat)(c:List (Nat × Int))(f:Bool)(e0 e1 e2:Int)(r:List Int)(ended:Bool)(e:List Int)(em:Bool):Prop:=
 Z qaa (.call 57 [.dat (.sl (qal cs) N false),s.d,qaq f c e0 e1 e2] [])=some (.ret (.tup [.dat (.sl (qal r) N false),.bool ended,.dat (.agg (qal e)),.bool em]) [])
abbrev PA(N:Nat)(j:Int)(i:Nat):Prop := ∀ l,qae 1 (.own l N 1) j=some (.eptr l N i)
abbrev PB(N:Nat)(i:Int):Prop := ∀ l,qae 1 (.own l N 1) i=some (.eptr l N i.toNat)
abbrev CU(L:List Int)(i:Nat)(v:Int):Prop:=qah (qba L) i 1=some [V.int v]
abbrev TS(L:List Int)(i j:Nat)(v:Int)(L':List Int):Prop:=(qba L).take i++(V.int v::(qba L).drop j)=qba L'
theorem qxk{op:Nat}(h:9<=op/\op<=17):(pushN op:Int)=1:=by
 have:pushN op=1:=by
  unfold pushN
  split<;>first|omega|rfl
 rw[this]; rfl
section
variable{s:Su}{cs:List Int}{N:Nat}{c:List (Nat × Int)}{f:Bool}{e0 e1 e2 n:Int}{op:Nat}(hs:s.ok)(hN:cs.length=N)(h:N=s.n)(hc : ∀ x∈c,1<=x.1/\x.1<=21)(hcan:qbV c cs=true)(hi:insAt c (getI cs 6)=(op,n))
include hs hN h hc hcan hi
theorem rsF {P Q:Int} (ho1:1<=op/\op<=21) (eP:(popsN op:Int)=P) (eQ:(pushN op:Int)=Q) : ∃ (L1 L2 L3:List Int) (B:Int),
  (getN cs 7-P=B/\0<=B/\B+P<=16/\B+Q<=16/\rL cs P=L3/\L3.length=N/\48<=N/\N<1000/\(∀ j:Nat,j≠6->j≠7->j≠8->getN L3 j=getN cs j)/\(operN op=0\/0<=n/\n<operN op)) /\
  (Z qaa (.call 67 [.dat (.sl (qal cs) N false),qaq f c e0 e1 e2] [])=some (.ret (.bool true) [])/\qae 2 (.dat (codeDV f c)) (getN cs 6)=some (.dat (.imm (qbO c) ((getN cs 6).toNat*2)))/\qah (qbO c) ((getN cs 6).toNat*2) 2=some [.lit (.int .i64 op),.lit (.int .i64 n)]/\Z qaa (.call 68 [.int op] [])=some (.ret (.int P) [])/\Z qaa (.call 72 [.int op] [])=some (.ret (.int Q) [])/\qae 1 (.dat (.sl (qal cs) N false)) 6=some (.dat (.imm (qal cs) 6))/\qah (qal cs) 6 1=some [.lit (.int .i64 (getN cs 6))]/\PA N 6 6/\PA N 7 7/\PA N 8 8/\qay N 8=true /\ ¬ N=0/\(qal cs).map V.dat=qba cs/\cs.length=N/\L1.length=N/\L2.length=N/\L3.length=N/\CU cs 8 (getN cs 8)/\CU L1 6 (getN cs 6)/\CU L2 7 (getN cs 7)/\CU L3 7 B/\TS cs 8 9 (wr (getN cs 8-1)) L1/\TS L1 6 7 (wr (getN cs 6+1)) L2/\TS L2 7 8 B L3/\wr (getN cs 7-P)=B/\9<=N/\7<=N/\8<=N) /\
  (wr (16+B)=16+B/\wr (16+B+1)=16+B+1/\wr (B+1)=B+1/\PB N (16+B)/\PB N (16+B+1)/\(16+B).toNat+1<=N/\CU L3 (16+B).toNat (getN cs (16+B).toNat)/\CU L3 (16+B+1).toNat (getN cs (16+B+1).toNat)/\(∀ v,TS L3 (16+B).toNat ((16+B).toNat+1) v (qao L3 (16+B) v))/\(∀ v,TS (qao L3 (16+B) v) 7 8 (B+1) (qao (qao L3 (16+B) v) 7 (B+1)))/\(∀ v,(qao L3 (16+B) v).length=N) /\ ∀ v,(qao (qao L3 (16+B) v) 7 (B+1)).length=N):=by
 have h48:48<=N/\N<1000:=by have:=hs.p3; have:=hs.b5; rw[h]; unfold Su.n; omega
 have zv:=qqV (f:=f) (e0:=e0) (e1:=e1) (e2:=e2) hN h48.1 h48.2 hc
 rw[hcan] at zv
 simp only[qbV,Wq,Bool.not_eq_true',W8,decide_eq_false_iff_not] at hcan
 obtain⟨⟨hf,hp0,hp1⟩,hx⟩:=hcan
 obtain⟨hx1,hx2,hx3,hx4⟩:=qgu hx
 have hiL:(getI cs 6).toNat<c.length:=by omega
 have hins:insAt c (getI cs 6)=c[(getI cs 6).toNat]:=by simp[insAt,Wn,hiL]
 have hcut:=qdx c _ hiL
 have hat:=qfx f c (getI cs 6) (by omega) (by omega)
 rw[<- hins,hi] at hcut
 rw[hi] at hx2 hx3 hx4
 simp only at hcut hx2 hx3 hx4
 have g6:getI cs 6=getN cs 6:=rfl
 have g7:getI cs 7=getN cs 7:=rfl
 rw[g6] at hat hcut
 rw[g7] at hx1 hx2 hx3
 have zp:=qt7 op ho1.1 ho1.2
 have zq:=qt8 op ho1.1 ho1.2
 rw[eP] at hx2 zp
 rw[eP,eQ] at hx3
 rw[eQ] at zq
 have q0:0<=P:=by omega
 obtain⟨L1,hL1⟩ : ∃ L,L=qao cs 8 (wr (getN cs 8-1)):=⟨_,rfl⟩
 obtain⟨L2,hL2⟩ : ∃ L,L=qao L1 6 (wr (getN cs 6+1)):=⟨_,rfl⟩
 obtain⟨L3,hL3⟩ : ∃ L,L=qao L2 7 (getN cs 7-P):=⟨_,rfl⟩
 have hR:rL cs P=L3:=by rw[hL3,hL2,hL1]; simp[rL]
 have n1:L1.length=N:=by rw[hL1]; simp[hN]
 have n2:L2.length=N:=by rw[hL2]; simp[n1]
 have n3:L3.length=N:=by rw[hL3]; simp[n2]
 have keep : ∀ j:Nat,j≠6->j≠7->j≠8->getN L3 j=getN cs j:=fun j a b d=>by rw[<- hR]; exact qtu a b d
 have pa : ∀ i:Nat,i<9->PA N i i:=fun i hi l=>qdj l N i (by omega)
 refine⟨L1,L2,L3,getN cs 7-P,⟨rfl,by omega,by omega,by omega,hR,n3,h48.1,h48.2,keep,hx4⟩,⟨zv,hat,hcut,zp,zq,qlp _ N 6 (by omega),qaJ cs 6 (by omega),pa 6 (by omega),pa 7 (by omega),pa 8 (by omega),by simp[qay]; omega,by omega,by simp[qal,qba],hN,n1,n2,n3,qbS 8 _ (by omega) rfl,qbS 6 _ (by omega) (by rw[hL1,qaR (by decide)]),qbS 7 _ (by omega) (by rw[hL2,qaR (by decide),hL1,qaR (by decide)]),qbS 7 _ (by omega) (by rw[hL3,qmj (by decide) (by omega)]),?_,?_,?_,qag _ (by omega),by omega,by omega,by omega⟩,qag _ (by omega),qag _ (by omega),qag _ (by omega),fun l=>qho l N _ (by omega) (by omega),fun l=>qho l N _ (by omega) (by omega),by omega,qkj _ _ (by omega) (by omega) (keep _ (by omega) (by omega) (by omega)),qkj _ _ (by omega) (by omega) (keep _ (by omega) (by omega) (by omega)),fun v=>qaO L3 _ v (by omega),fun v=>qaO _ 7 _ (by simp; omega),fun v=>by simp[n3],fun v=>by simp[n3]⟩
 ·rw[hL1]; exact qaO cs 8 _ (by omega)
 ·rw[hL2]; exact qaO L1 6 _ (by omega)
 ·rw[hL3]; exact qaO L2 7 _ (by omega)
theorem rs1(hop:op=1):RSV s cs N c f e0 e1 e2 (qao (qao (rL cs 0) (16+getN cs 7) (n)) 7 (getN cs 7+1)) false [0,0,0,0] false:=by
 obtain⟨L1,L2,L3,B,⟨hB,b0,b1,b2,hR,n3,k0,k1,keep,hx4⟩,hF,hG⟩:=rsF (P:=0) (Q:=1) (f:=f) (e0:=e0) (e1:=e1) (e2:=e2) hs hN h hc hcan hi (by omega) (by rw[hop]; rfl) (by rw[hop]; rfl)
 have hd : ∀ k:Int,decide ((op:Int)=k)=decide ((1:Int)=k):=fun k=>by rw[hop]; rfl
 simp only[Int.sub_zero] at hB hF
 rw[hR,hB]
 refine qab (pf:=F57) rfl rfl ?_
 simp only[Su.d,Su.c,qaq,PA,PB,CU,TS] at *
 simp[F57,Wa,qaI,qan,hd,hF,hG,qa4,qaP]
theorem rs2(hop:op=2):RSV s cs N c f e0 e1 e2 (qao (qao (rL cs 0) (16+getN cs 7) (getN cs (32+n).toNat)) 7 (getN cs 7+1)) false [0,0,0,0] false:=by
 obtain⟨L1,L2,L3,B,⟨hB,b0,b1,b2,hR,n3,k0,k1,keep,hx4⟩,hF,hG⟩:=rsF (P:=0) (Q:=1) (f:=f) (e0:=e0) (e1:=e1) (e2:=e2) hs hN h hc hcan hi (by omega) (by rw[hop]; rfl) (by rw[hop]; rfl)
 have hd : ∀ k:Int,decide ((op:Int)=k)=decide ((2:Int)=k):=fun k=>by rw[hop]; rfl
 simp only[Int.sub_zero] at hB hF
 have hn:0<=n/\n<16:=by rw[hop] at hx4; simpa [operN] using hx4
 have w32:wr (32+n)=32+n:=qag _ (by omega)
 have pN:PB N (32+n):=fun l=>qho l N (32+n) (by omega) (by omega)
 have uN:=qkj (cs:=L3) (32+n) _ (by omega) (by omega) (keep (32+n).toNat (by omega) (by omega) (by omega))
 rw[hR,hB]
 refine qab (pf:=F57) rfl rfl ?_
 simp only[Su.d,Su.c,qaq,PA,PB,CU,TS] at *
 simp[F57,Wa,qaI,qan,hd,hF,hG,qa4,qaP,w32,pN,uN]
theorem rs6(hop:op=6):RSV s cs N c f e0 e1 e2 (qao (qao (rL cs 0) (16+getN cs 7) (getN cs 9)) 7 (getN cs 7+1)) false [0,0,0,0] false:=by
 obtain⟨L1,L2,L3,B,⟨hB,b0,b1,b2,hR,n3,k0,k1,keep,hx4⟩,hF,hG⟩:=rsF (P:=0) (Q:=1) (f:=f) (e0:=e0) (e1:=e1) (e2:=e2) hs hN h hc hcan hi (by omega) (by rw[hop]; rfl) (by rw[hop]; rfl)
 have hd : ∀ k:Int,decide ((op:Int)=k)=decide ((6:Int)=k):=fun k=>by rw[hop]; rfl
 simp only[Int.sub_zero] at hB hF
 have pc:PA N 9 9:=fun l=>qdj l N 9 (by omega)
 have uc:CU L3 9 (getN cs 9):=qbS 9 _ (by omega) (keep 9 (by omega) (by omega) (by omega))
 rw[hR,hB]
 refine qab (pf:=F57) rfl rfl ?_
 simp only[Su.d,Su.c,qaq,PA,PB,CU,TS] at *
 simp[F57,Wa,qaI,qan,hd,hF,hG,qa4,qaP,pc,uc]
theorem rs7(hop:op=7):RSV s cs N c f e0 e1 e2 (qao (qao (rL cs 0) (16+getN cs 7) (getN cs 10)) 7 (getN cs 7+1)) false [0,0,0,0] false:=by
 obtain⟨L1,L2,L3,B,⟨hB,b0,b1,b2,hR,n3,k0,k1,keep,hx4⟩,hF,hG⟩:=rsF (P:=0) (Q:=1) (f:=f) (e0:=e0) (e1:=e1) (e2:=e2) hs hN h hc hcan hi (by omega) (by rw[hop]; rfl) (by rw[hop]; rfl)
 have hd : ∀ k:Int,decide ((op:Int)=k)=decide ((7:Int)=k):=fun k=>by rw[hop]; rfl
 simp only[Int.sub_zero] at hB hF
 have pc:PA N 10 10:=fun l=>qdj l N 10 (by omega)
 have uc:CU L3 10 (getN cs 10):=qbS 10 _ (by omega) (keep 10 (by omega) (by omega) (by omega))
 rw[hR,hB]
 refine qab (pf:=F57) rfl rfl ?_
 simp only[Su.d,Su.c,qaq,PA,PB,CU,TS] at *
 simp[F57,Wa,qaI,qan,hd,hF,hG,qa4,qaP,pc,uc]
theorem rs8(hop:op=8):RSV s cs N c f e0 e1 e2 (qao (qao (rL cs 0) (16+getN cs 7) (getN cs 0)) 7 (getN cs 7+1)) false [0,0,0,0] false:=by
 obtain⟨L1,L2,L3,B,⟨hB,b0,b1,b2,hR,n3,k0,k1,keep,hx4⟩,hF,hG⟩:=rsF (P:=0) (Q:=1) (f:=f) (e0:=e0) (e1:=e1) (e2:=e2) hs hN h hc hcan hi (by omega) (by rw[hop]; rfl) (by rw[hop]; rfl)
 have hd : ∀ k:Int,decide ((op:Int)=k)=decide ((8:Int)=k):=fun k=>by rw[hop]; rfl
 simp only[Int.sub_zero] at hB hF
 have pc:PA N 0 0:=fun l=>qdj l N 0 (by omega)
 have uc:CU L3 0 (getN cs 0):=qbS 0 _ (by omega) (keep 0 (by omega) (by omega) (by omega))
 rw[hR,hB]
 refine qab (pf:=F57) rfl rfl ?_
 simp only[Su.d,Su.c,qaq,PA,PB,CU,TS] at *
 simp[F57,Wa,qaI,qan,hd,hF,hG,qa4,qaP,pc,uc]
theorem rs4(hop:op=4):RSV s cs N c f e0 e1 e2 (qao (qao (rL cs 1) (16+(getN cs 7-1)) (if bodyI s (getN cs (16+(getN cs 7-1)).toNat)<0 then 0 else getI (rL cs 1) (bodyI s (getN cs (16+(getN cs 7-1)).toNat)+n))) 7 ((getN cs 7-1)+1)) false [0,0,0,0] false:=by
 obtain⟨L1,L2,L3,B,⟨hB,b0,b1,b2,hR,n3,k0,k1,keep,hx4⟩,hF,hG⟩:=rsF (P:=1) (Q:=1) (f:=f) (e0:=e0) (e1:=e1) (e2:=e2) hs hN h hc hcan hi (by omega) (by rw[hop]; rfl) (by rw[hop]; rfl)
 have hd : ∀ k:Int,decide ((op:Int)=k)=decide ((4:Int)=k):=fun k=>by rw[hop]; rfl
 have hn:0<=n/\n<8:=by rw[hop] at hx4; simpa [operN] using hx4
 rw[hR,hB]
 generalize hA:getN cs (16+B).toNat=A at *
 have zl:=qy2 (s:=s) (a:=A) hs n3 h hn.1 hn.2
 generalize (if bodyI s A<0 then 0 else getI L3 (bodyI s A+n))=X at *
 refine qab (pf:=F57) rfl rfl ?_
 simp only[Su.d,Su.c,qaq,PA,PB,CU,TS] at *
 simp[F57,Wa,qaI,qan,hd,hF,hG,qa4,qaP,zl]
theorem rs3(hop:op=3):RSV s cs N c f e0 e1 e2 (qao (rL cs 1) (32+n) (getN cs (16+(getN cs 7-1)).toNat)) false [0,0,0,0] false:=by
 obtain⟨L1,L2,L3,B,⟨hB,b0,b1,b2,hR,n3,k0,k1,keep,hx4⟩,hF,hG⟩:=rsF (P:=1) (Q:=0) (f:=f) (e0:=e0) (e1:=e1) (e2:=e2) hs hN h hc hcan hi (by omega) (by rw[hop]; rfl) (by rw[hop]; rfl)
 have hd : ∀ k:Int,decide ((op:Int)=k)=decide ((3:Int)=k):=fun k=>by rw[hop]; rfl
 have hn:0<=n/\n<16:=by rw[hop] at hx4; simpa [operN] using hx4
 have w32:wr (32+n)=32+n:=qag _ (by omega)
 have pN:PB N (32+n):=fun l=>qho l N (32+n) (by omega) (by omega)
 have tN : ∀ v,TS L3 (32+n).toNat ((32+n).toNat+1) v (qao L3 (32+n) v):=fun v=>qaO L3 _ v (by omega)
 have kN:(32+n).toNat+1<=N:=by omega
 have nN : ∀ v,(qao L3 (32+n) v).length=N:=fun v=>by simp[n3]
 rw[hR,hB]
 generalize hA:getN cs (16+B).toNat=A at *
 refine qab (pf:=F57) rfl rfl ?_
 simp only[Su.d,Su.c,qaq,PA,PB,CU,TS] at *
 simp[F57,Wa,qaI,qan,hd,hF,hG,qa4,qaP,w32,pN,tN,kN,nN]
theorem rs5(hop:op=5):RSV s cs N c f e0 e1 e2 (if bodyI s (getN cs (16+(getN cs 7-2)).toNat)<0 then rL cs 2 else qao (rL cs 2) (bodyI s (getN cs (16+(getN cs 7-2)).toNat)+n) (qjz n (getN cs (16+(getN cs 7-2)+1).toNat))) false [0,0,0,0] false:=by
 obtain⟨L1,L2,L3,B,⟨hB,b0,b1,b2,hR,n3,k0,k1,keep,hx4⟩,hF,hG⟩:=rsF (P:=2) (Q:=0) (f:=f) (e0:=e0) (e1:=e1) (e2:=e2) hs hN h hc hcan hi (by omega) (by rw[hop]; rfl) (by rw[hop]; rfl)
 have hd : ∀ k:Int,decide ((op:Int)=k)=decide ((5:Int)=k):=fun k=>by rw[hop]; rfl
 have hn:0<=n/\n<8:=by rw[hop] at hx4; simpa [operN] using hx4
 rw[hR,hB]
 generalize hA:getN cs (16+B).toNat=A at *
 generalize hA2:getN cs (16+B+1).toNat=A2 at *
 have zl:=qwA (s:=s) (a:=A) (b:=A2) hs n3 h hn.1 hn.2
 generalize (if bodyI s A<0 then L3 else qao L3 (bodyI s A+n) (qjz n A2))=X at *
 refine qab (pf:=F57) rfl rfl ?_
 simp only[Su.d,Su.c,qaq,PA,PB,CU,TS] at *
 simp[F57,Wa,qaI,qan,hd,hF,hG,qa4,qaP,zl]
theorem qBW(hop:op=18):RSV s cs N c f e0 e1 e2 (qao (rL cs 0) 6 n) false [0,0,0,0] false:=by
 obtain⟨L1,L2,L3,B,⟨hB,b0,b1,b2,hR,n3,k0,k1,keep,hx4⟩,hF,hG⟩:=rsF (P:=0) (Q:=0) (f:=f) (e0:=e0) (e1:=e1) (e2:=e2) hs hN h hc hcan hi (by omega) (by rw[hop]; rfl) (by rw[hop]; rfl)
 have hd : ∀ k:Int,decide ((op:Int)=k)=decide ((18:Int)=k):=fun k=>by rw[hop]; rfl
 simp only[Int.sub_zero] at hB hF
 have t6n:TS L3 6 7 n (qao L3 6 n):=qaO L3 6 _ (by omega)
 have n6:(qao L3 6 n).length=N:=by simp[n3]
 rw[hR]
 refine qab (pf:=F57) rfl rfl ?_
 simp only[Su.d,Su.c,qaq,PA,PB,CU,TS] at *
 simp[F57,Wa,qaI,qan,hd,hF,hG,qa4,qaP,t6n,n6]
theorem qzT(hop:op=19)(ha:(getN cs (16+(getN cs 7-1)).toNat)=0):RSV s cs N c f e0 e1 e2 (qao (rL cs 1) 6 n) false [0,0,0,0] false:=by
 obtain⟨L1,L2,L3,B,⟨hB,b0,b1,b2,hR,n3,k0,k1,keep,hx4⟩,hF,hG⟩:=rsF (P:=1) (Q:=0) (f:=f) (e0:=e0) (e1:=e1) (e2:=e2) hs hN h hc hcan hi (by omega) (by rw[hop]; rfl) (by rw[hop]; rfl)
 have hd : ∀ k:Int,decide ((op:Int)=k)=decide ((19:Int)=k):=fun k=>by rw[hop]; rfl
 have t6n:TS L3 6 7 n (qao L3 6 n):=qaO L3 6 _ (by omega)
 have n6:(qao L3 6 n).length=N:=by simp[n3]
 rw[hR]
 rw[hB] at ha
 rw[ha] at hG
 refine qab (pf:=F57) rfl rfl ?_
 simp only[Su.d,Su.c,qaq,PA,PB,CU,TS] at *
 simp[F57,Wa,qaI,qan,hd,hF,hG,qa4,qaP,t6n,n6]
theorem qzU(hop:op=19)(ha : ¬ (getN cs (16+(getN cs 7-1)).toNat)=0):RSV s cs N c f e0 e1 e2 (rL cs 1) false [0,0,0,0] false:=by
 obtain⟨L1,L2,L3,B,⟨hB,b0,b1,b2,hR,n3,k0,k1,keep,hx4⟩,hF,hG⟩:=rsF (P:=1) (Q:=0) (f:=f) (e0:=e0) (e1:=e1) (e2:=e2) hs hN h hc hcan hi (by omega) (by rw[hop]; rfl) (by rw[hop]; rfl)
 have hd : ∀ k:Int,decide ((op:Int)=k)=decide ((19:Int)=k):=fun k=>by rw[hop]; rfl
 rw[hR]
 rw[hB] at ha
 generalize hA:getN cs (16+B).toNat=A at *
 refine qab (pf:=F57) rfl rfl ?_
 simp only[Su.d,Su.c,qaq,PA,PB,CU,TS] at *
 simp[F57,Wa,qaI,qan,hd,hF,hG,qa4,qaP,ha]
theorem qBX(hop:op=21):RSV s cs N c f e0 e1 e2 (rL cs 0) true [0,0,0,0] false:=by
 obtain⟨L1,L2,L3,B,⟨hB,b0,b1,b2,hR,n3,k0,k1,keep,hx4⟩,hF,hG⟩:=rsF (P:=0) (Q:=0) (f:=f) (e0:=e0) (e1:=e1) (e2:=e2) hs hN h hc hcan hi (by omega) (by rw[hop]; rfl) (by rw[hop]; rfl)
 have hd : ∀ k:Int,decide ((op:Int)=k)=decide ((21:Int)=k):=fun k=>by rw[hop]; rfl
 simp only[Int.sub_zero] at hB hF
 rw[hR]
 refine qab (pf:=F57) rfl rfl ?_
 simp only[Su.d,Su.c,qaq,PA,PB,CU,TS] at *
 simp[F57,Wa,qaI,qan,hd,hF,hG,qa4,qaP]
theorem qzV(hop:op=20)(ha:40<=getN cs 11):RSV s cs N c f e0 e1 e2 (rL cs 2) false [0,0,0,0] false:=by
 obtain⟨L1,L2,L3,B,⟨hB,b0,b1,b2,hR,n3,k0,k1,keep,hx4⟩,hF,hG⟩:=rsF (P:=2) (Q:=0) (f:=f) (e0:=e0) (e1:=e1) (e2:=e2) hs hN h hc hcan hi (by omega) (by rw[hop]; rfl) (by rw[hop]; rfl)
 have hd : ∀ k:Int,decide ((op:Int)=k)=decide ((20:Int)=k):=fun k=>by rw[hop]; rfl
 have p11:PA N 11 11:=fun l=>qdj l N 11 (by omega)
 have p12:PA N 12 12:=fun l=>qdj l N 12 (by omega)
 have p0:PA N 0 0:=fun l=>qdj l N 0 (by omega)
 have u11:=qbS (cs:=L3) 11 _ (by omega) (keep 11 (by omega) (by omega) (by omega))
 have u12:=qbS (cs:=L3) 12 _ (by omega) (keep 12 (by omega) (by omega) (by omega))
 have u0:=qbS (cs:=L3) 0 _ (by omega) (keep 0 (by omega) (by omega) (by omega))
 rw[hR]
 refine qab (pf:=F57) rfl rfl ?_
 simp only[Su.d,Su.c,qaq,PA,PB,CU,TS] at *
 simp[F57,Wa,qaI,qan,hd,hF,hG,qa4,qaP,ha,p11,u11]
theorem qzW(hop:op=20)(ha : ¬ 40<=getN cs 11):RSV s cs N c f e0 e1 e2 (qao (qao (rL cs 2) 12 (wr (shrI .u64 (hashI (getN cs 12) (getN cs 0) (getN cs (16+(getN cs 7-2)).toNat) (getN cs (16+(getN cs 7-2)+1).toNat)) 1))) 11 (wr (getN cs 11+1))) false [getN cs 0,getN cs 11,(getN cs (16+(getN cs 7-2)).toNat),(getN cs (16+(getN cs 7-2)+1).toNat)] true:=by
 obtain⟨L1,L2,L3,B,⟨hB,b0,b1,b2,hR,n3,k0,k1,keep,hx4⟩,hF,hG⟩:=rsF (P:=2) (Q:=0) (f:=f) (e0:=e0) (e1:=e1) (e2:=e2) hs hN h hc hcan hi (by omega) (by rw[hop]; rfl) (by rw[hop]; rfl)
 have hd : ∀ k:Int,decide ((op:Int)=k)=decide ((20:Int)=k):=fun k=>by rw[hop]; rfl
 have p11:PA N 11 11:=fun l=>qdj l N 11 (by omega)
 have p12:PA N 12 12:=fun l=>qdj l N 12 (by omega)
 have p0:PA N 0 0:=fun l=>qdj l N 0 (by omega)
 have u11:=qbS (cs:=L3) 11 _ (by omega) (keep 11 (by omega) (by omega) (by omega))
 have u12:=qbS (cs:=L3) 12 _ (by omega) (keep 12 (by omega) (by omega) (by omega))
 have u0:=qbS (cs:=L3) 0 _ (by omega) (keep 0 (by omega) (by omega) (by omega))
 rw[hR,hB]
 generalize hA:getN cs (16+B).toNat=A at *
 generalize hA2:getN cs (16+B+1).toNat=A2 at *
 have k11:=keep 11 (by omega) (by omega) (by omega)
 generalize hC:getN cs 11=C at *
 generalize getN cs 12=Hh at *
 generalize getN cs 0=Tk at *
 have zh:=quJ Hh Tk A A2 true
 have hh:=qqX Hh Tk A A2
 generalize hashI Hh Tk A A2=Q at *
 generalize shrI .u64 Q 1=Q2 at *
 obtain⟨Y,hY⟩ : ∃ Y,wr Q2=Y:=⟨_,rfl⟩
 obtain⟨Y1,hY1⟩ : ∃ Y,wr (C+1)=Y:=⟨_,rfl⟩
 rw[hY,hY1]
 obtain⟨L4,hL4⟩ : ∃ L,L=qao L3 12 Y:=⟨_,rfl⟩
 have n4:L4.length=N:=by rw[hL4]; simp[n3]
 have t12:TS L3 12 13 Y L4:=by rw[hL4]; exact qaO L3 12 _ (by omega)
 have u11':CU L4 11 C:=qbS 11 _ (by omega) (by rw[hL4,qaR (by decide)]; exact k11)
 have t11:TS L4 11 12 Y1 (qao (qao L3 12 Y) 11 Y1):=by rw[<- hL4]; exact qaO L4 11 _ (by omega)
 have n5:(qao (qao L3 12 Y) 11 Y1).length=N:=by simp[n3]
 have k11:12<=N:=by omega
 have k12:13<=N:=by omega
 refine qab (pf:=F57) rfl rfl ?_
 simp only[Su.d,Su.c,qaq,PA,PB,CU,TS] at *
 simp[F57,Wa,qaI,qan,hd,hF,hG,qa4,qaP,ha,p11,p12,p0,u11,u12,u0,zh,hh,n4,t12,u11',t11,n5,hY,hY1,k11,k12]
theorem qBY(hop:9<=op/\op<=17)(hp:popsN op=1):RSV s cs N c f e0 e1 e2 (qao (qao (rL cs 1) (16+(getN cs 7-1)) (appI op (getN cs (16+(getN cs 7-1)).toNat) 0)) 7 ((getN cs 7-1)+1)) false [0,0,0,0] false:=by
 obtain⟨L1,L2,L3,B,⟨hB,b0,b1,b2,hR,n3,k0,k1,keep,hx4⟩,hF,hG⟩:=rsF (P:=1) (Q:=1) (f:=f) (e0:=e0) (e1:=e1) (e2:=e2) hs hN h hc hcan hi (by omega) (by rw[hp]; rfl) (qxk hop)
 have hd : ∀ k:Int,k<9\/17<k->decide ((op:Int)=k)=false:=fun k hk=>decide_eq_false (by omega)
 rw[hR,hB]
 generalize hA:getN cs (16+B).toNat=A at *
 have za:=qqo A (0) op hop.1 hop.2
 generalize appI op A (0)=X at *
 refine qab (pf:=F57) rfl rfl ?_
 simp only[Su.d,Su.c,qaq,PA,PB,CU,TS] at *
 simp[F57,Wa,qaI,qan,hd,hF,hG,qa4,qaP,za]
theorem qBZ(hop:9<=op/\op<=17)(hp:popsN op=2):RSV s cs N c f e0 e1 e2 (qao (qao (rL cs 2) (16+(getN cs 7-2)) (appI op (getN cs (16+(getN cs 7-2)).toNat) (getN cs (16+(getN cs 7-2)+1).toNat))) 7 ((getN cs 7-2)+1)) false [0,0,0,0] false:=by
 obtain⟨L1,L2,L3,B,⟨hB,b0,b1,b2,hR,n3,k0,k1,keep,hx4⟩,hF,hG⟩:=rsF (P:=2) (Q:=1) (f:=f) (e0:=e0) (e1:=e1) (e2:=e2) hs hN h hc hcan hi (by omega) (by rw[hp]; rfl) (qxk hop)
 have hd : ∀ k:Int,k<9\/17<k->decide ((op:Int)=k)=false:=fun k hk=>decide_eq_false (by omega)
 rw[hR,hB]
 generalize hA:getN cs (16+B).toNat=A at *
 generalize hA2:getN cs (16+B+1).toNat=A2 at *
 have za:=qqo A (A2) op hop.1 hop.2
 generalize appI op A (A2)=X at *
 refine qab (pf:=F57) rfl rfl ?_
 simp only[Su.d,Su.c,qaq,PA,PB,CU,TS] at *
 simp[F57,Wa,qaI,qan,hd,hF,hG,qa4,qaP,za]
end
end
section
open F
theorem qjj{cs:List Int}{op:Nat}(hq:pushN op=0)(hl:48<=cs.length):preC cs op=rL cs (popsN op):=by
 unfold preC rL
 by_cases h:popsN op=pushN op
 ·rw[if_pos h,h,hq]
  rw[qlq (i:=7)]
  ·rfl
  ·rw[qaR (by decide),qaR (by decide)]
   show getN cs 7=getN cs 7-0
   omega
 ·rw[if_neg h,hq]
  show qao _ 7 (getN cs 7-popsN op+0)=_
  rw[Int.add_zero]
  rfl
theorem qeY {cs:List Int} {op:Nat} {v:Int} {p:Int} (hp:(popsN op:Int)=p) (hq:pushN op=1) (hl:48<=cs.length) (hB:0<=getN cs 7-p) :
  qao (qao (rL cs p) (16+(getN cs 7-p)) v) 7 (getN cs 7-p+1)=qao (preC cs op) (16+getI cs 7-popsN op) v:=by
 have g7:getI cs 7=getN cs 7:=rfl
 rw[qqa (by simp; omega),hp,g7,show 16+getN cs 7-p=16+(getN cs 7-p) by omega]
 congr 1
 unfold rL preC
 rw[qqb,hp,hq,g7]
 by_cases h:popsN op=1
 ·rw[if_pos h]
  have h1:p=1:=by omega
  refine qlq ?_
  rw[h1]
  show getN _ 7=_
  rw[qaR (by decide),qaR (by decide)]
  omega
 ·rw[if_neg h]
  rfl
theorem qpD {s:Su} {c:List (Nat × Int)} {cs:List Int} {op:Nat} {n:Int} (hcan:qbV c cs=true) (hi:insAt c (getI cs 6)=(op,n)) :
  qcH s c cs=⟨postC s cs op n,decide ((op:Int)=21),exE (preC cs op) op (popA cs op) (popB cs op),exB (preC cs op) op⟩:=by
 unfold qcH
 rw[if_pos hcan,hi]
theorem qxW{cs:List Int}{op:Nat}(h:popsN op=1):popA cs op=getN cs (16+(getN cs 7-1)).toNat:=by
 unfold popA
 rw[if_neg (by omega),h]
 show getN cs (16+getN cs 7-(1:Nat)).toNat=_
 congr 2
 omega
theorem qAt{cs:List Int}{op:Nat}(h:popsN op=2):popA cs op=getN cs (16+(getN cs 7-2)).toNat:=by
 unfold popA
 rw[if_neg (by omega),h]
 show getN cs (16+getN cs 7-(2:Nat)).toNat=_
 congr 2
 omega
theorem qAu{cs:List Int}{op:Nat}(h:popsN op=2):popB cs op=getN cs (16+(getN cs 7-2)+1).toNat:=by
 unfold popB
 rw[if_pos h,h]
 show getN cs (16+getN cs 7-(2:Nat)+1).toNat=_
 congr 2
 omega
theorem qCm{cs:List Int}{op:Nat}(h:popsN op≠2):popB cs op=0:=by
 unfold popB
 rw[if_neg h]
theorem qr7 {s:Su} {c:List (Nat × Int)} {f:Bool} {e0 e1 e2:Int} {cs:List Int} {N:Nat} (hN:cs.length=N) (h48:48<=N) (hN1:N<1000) (hc : ∀ x∈c,1<=x.1/\x.1<=21) (hcan:qbV c cs=false) :
  Z qaa (.call 57 [.dat (.sl (qal cs) N false),s.d,qaq f c e0 e1 e2] [])=some (.ret (.tup [.dat (.sl (qal cs) N false),.bool true,.dat (.agg (qal [0,0,0,0])),.bool false]) []):=by
 have zv:=qqV (f:=f) (e0:=e0) (e1:=e1) (e2:=e2) hN h48 hN1 hc
 rw[hcan] at zv
 refine qab (pf:=F57) rfl rfl ?_
 simp only[Su.d,Su.c,qaq] at *
 simp[F57,Wa,zv,qa4,qaP]
def qAv(R:StR)(N:Nat):V := .tup [.dat (.sl (qal R.cs) N false),.bool R.ended,.dat (.agg (qal R.e)),.bool R.em]
theorem qu8 {s:Su} {c:List (Nat × Int)} {f:Bool} {e0 e1 e2:Int} {cs:List Int} {N:Nat} (hs:s.ok) (hN:cs.length=N) (h:N=s.n) (hc : ∀ x∈c,1<=x.1/\x.1<=21) :
  Z qaa (.call 57 [.dat (.sl (qal cs) N false),s.d,qaq f c e0 e1 e2] [])=some (.ret (qAv (qcH s c cs) N) []):=by
 have h48:48<=N/\N<1000:=by have:=hs.p3; have:=hs.b5; rw[h]; unfold Su.n; omega
 cases hcan:qbV c cs with
 |false=>rw[qf2 hcan]; exact qr7 hN h48.1 h48.2 hc hcan
 |true=>
  have hx:=hcan
  simp only[qbV,Wq,Bool.not_eq_true',W8,decide_eq_false_iff_not] at hx
  obtain⟨⟨hf,hp0,hp1⟩,hx⟩:=hx
  have hmem:1<=(insAt c (getI cs 6)).1/\(insAt c (getI cs 6)).1<=21:=by
   have hi:(getI cs 6).toNat<c.length:=by omega
   have hins:insAt c (getI cs 6)=c[(getI cs 6).toNat]:=by simp[insAt,Wn,hi]
   rw[hins]
   exact hc _ (WR hi)
  obtain⟨x1,x2,x3,x4⟩:=qgu hx
  obtain⟨op,hop⟩ : ∃ op,op=(insAt c (getI cs 6)).1:=⟨_,rfl⟩
  obtain⟨n,hn⟩ : ∃ n,n=(insAt c (getI cs 6)).2:=⟨_,rfl⟩
  have hi:insAt c (getI cs 6)=(op,n):=by rw[hop,hn]
  rw[<- hop] at hmem x2 x3 x4
  rw[<- hn] at x4
  clear hx hop hn
  have g7:getI cs 7=getN cs 7:=rfl
  rw[g7] at x1 x2 x3
  rw[qpD hcan hi,qAv]
  have hl:48<=cs.length:=by omega
  have kp : ∀ j:Nat,j≠6->j≠7->j≠8->getN (preC cs op) j=getN cs j:=fun j a b d=>qq2 a b d
  by_cases c1:op=1
  ·subst c1
   have:=rs1 (f:=f) (e0:=e0) (e1:=e1) (e2:=e2) hs hN h hc hcan hi rfl
   rw[this]
   have e:=qeY (cs:=cs) (op:=1) (v:=n) (p:=0) rfl rfl hl (by have:(0:Int)<=getN cs 7:=x2; omega)
   simp only[Int.sub_zero] at e
   rw[e]; rfl
  by_cases c2:op=2
  ·subst c2
   have:=rs2 (f:=f) (e0:=e0) (e1:=e1) (e2:=e2) hs hN h hc hcan hi rfl
   rw[this]
   have hn':0<=n/\n<16:=by simpa [operN] using x4
   have e:=qeY (cs:=cs) (op:=2) (v:=getN cs (32+n).toNat) (p:=0) rfl rfl hl (by have:(0:Int)<=getN cs 7:=x2; omega)
   simp only[Int.sub_zero] at e
   rw[e,<- kp (32+n).toNat (by omega) (by omega) (by omega)]; rfl
  by_cases c6:op=6
  ·subst c6
   have:=rs6 (f:=f) (e0:=e0) (e1:=e1) (e2:=e2) hs hN h hc hcan hi rfl
   rw[this]
   have e:=qeY (cs:=cs) (op:=6) (v:=getN cs 9) (p:=0) rfl rfl hl (by have:(0:Int)<=getN cs 7:=x2; omega)
   simp only[Int.sub_zero] at e
   rw[e,<- kp 9 (by omega) (by omega) (by omega)]; rfl
  by_cases c7:op=7
  ·subst c7
   have:=rs7 (f:=f) (e0:=e0) (e1:=e1) (e2:=e2) hs hN h hc hcan hi rfl
   rw[this]
   have e:=qeY (cs:=cs) (op:=7) (v:=getN cs 10) (p:=0) rfl rfl hl (by have:(0:Int)<=getN cs 7:=x2; omega)
   simp only[Int.sub_zero] at e
   rw[e,<- kp 10 (by omega) (by omega) (by omega)]; rfl
  by_cases c8:op=8
  ·subst c8
   have:=rs8 (f:=f) (e0:=e0) (e1:=e1) (e2:=e2) hs hN h hc hcan hi rfl
   rw[this]
   have e:=qeY (cs:=cs) (op:=8) (v:=getN cs 0) (p:=0) rfl rfl hl (by have:(0:Int)<=getN cs 7:=x2; omega)
   simp only[Int.sub_zero] at e
   rw[e,<- kp 0 (by omega) (by omega) (by omega)]; rfl
  by_cases c4:op=4
  ·subst c4
   have:=rs4 (f:=f) (e0:=e0) (e1:=e1) (e2:=e2) hs hN h hc hcan hi rfl
   rw[this]
   have hn':0<=n/\n<8:=by simpa [operN] using x4
   have hp:(1:Int)<=getN cs 7:=x2
   rw[qeY (cs:=cs) (op:=4) (p:=1) rfl rfl hl (by omega),<- qxW (op:=4) rfl]
   have ev:(if bodyI s (popA cs 4)<0 then 0 else getI (rL cs 1) (bodyI s (popA cs 4)+n))=exV s (preC cs 4) 4 n (popA cs 4) (popB cs 4):=by
    show _=if bodyI s (popA cs 4)<0 then 0 else getI (preC cs 4) (bodyI s (popA cs 4)+n)
    split
    ·rfl
    ·rename_i hb
     have hB:=qiK (s:=s) (a:=popA cs 4) (by omega)
     show getN _ _=getN _ _
     rw[qtu (by omega) (by omega) (by omega),kp _ (by omega) (by omega) (by omega)]
   rw[ev]; rfl
  by_cases c3:op=3
  ·subst c3
   have:=rs3 (f:=f) (e0:=e0) (e1:=e1) (e2:=e2) hs hN h hc hcan hi rfl
   rw[this,<- qxW (op:=3) rfl]
   have e:=qjj (cs:=cs) (op:=3) rfl hl
   have e':postC s cs 3 n=qao (preC cs 3) (32+n) (popA cs 3):=rfl
   rw[e',e]; rfl
  by_cases c5:op=5
  ·subst c5
   have:=rs5 (f:=f) (e0:=e0) (e1:=e1) (e2:=e2) hs hN h hc hcan hi rfl
   rw[this,<- qAt (op:=5) rfl,<- qAu (op:=5) rfl]
   have e:=qjj (cs:=cs) (op:=5) rfl hl
   have e':postC s cs 5 n=if bodyI s (popA cs 5)<0 then preC cs 5 else qao (preC cs 5) (bodyI s (popA cs 5)+n) (qjz n (popB cs 5)):=rfl
   rw[e',e]; rfl
  by_cases c18:op=18
  ·subst c18
   have:=qBW (f:=f) (e0:=e0) (e1:=e1) (e2:=e2) hs hN h hc hcan hi rfl
   rw[this]
   have e:=qjj (cs:=cs) (op:=18) rfl hl
   have e':postC s cs 18 n=qao (preC cs 18) 6 n:=rfl
   rw[e',e]; rfl
  by_cases c19:op=19
  ·subst c19
   have e:=qjj (cs:=cs) (op:=19) rfl hl
   have e':postC s cs 19 n=if popA cs 19=0 then qao (preC cs 19) 6 n else preC cs 19:=rfl
   rw[e',e]
   by_cases h0:popA cs 19=0
   ·have:=qzT (f:=f) (e0:=e0) (e1:=e1) (e2:=e2) hs hN h hc hcan hi rfl (by rw[<- qxW (op:=19) rfl]; exact h0)
    rw[this,if_pos h0]; rfl
   ·have:=qzU (f:=f) (e0:=e0) (e1:=e1) (e2:=e2) hs hN h hc hcan hi rfl (by rw[<- qxW (op:=19) rfl]; exact h0)
    rw[this,if_neg h0]; rfl
  by_cases c21:op=21
  ·subst c21
   have:=qBX (f:=f) (e0:=e0) (e1:=e1) (e2:=e2) hs hN h hc hcan hi rfl
   rw[this]
   have e:=qjj (cs:=cs) (op:=21) rfl hl
   have e':postC s cs 21 n=preC cs 21:=rfl
   rw[e',e]; rfl
  by_cases c20:op=20
  ·subst c20
   have e:preC cs 20=rL cs 2:=qjj (cs:=cs) (op:=20) rfl hl
   have e':postC s cs 20 n=if 40<=getI (preC cs 20) 11 then preC cs 20 else qao (qao (preC cs 20) 12 (qub (preC cs 20) (popA cs 20) (popB cs 20))) 11 (wr (getI (preC cs 20) 11+1)):=rfl
   have k11:getI (preC cs 20) 11=getN cs 11:=kp 11 (by omega) (by omega) (by omega)
   have k12:getI (preC cs 20) 12=getN cs 12:=kp 12 (by omega) (by omega) (by omega)
   have k0:getI (preC cs 20) 0=getN cs 0:=kp 0 (by omega) (by omega) (by omega)
   rw[e',exE,exB,k11,k0,qub,k12,k0]
   by_cases h0:40<=getN cs 11
   ·have:=qzV (f:=f) (e0:=e0) (e1:=e1) (e2:=e2) hs hN h hc hcan hi rfl h0
    have h1 : ¬ getN cs 11<40:=by omega
    rw[this,if_pos h0,e]
    simp[h1,qal]
   ·have:=qzW (f:=f) (e0:=e0) (e1:=e1) (e2:=e2) hs hN h hc hcan hi rfl h0
    have h1:getN cs 11<40:=by omega
    rw[this,if_neg h0,e,<- qAt (op:=20) rfl,<- qAu (op:=20) rfl]
    simp[h1,qal]
  have hd:9<=op/\op<=17:=by omega
  have hq:pushN op=1:=by unfold pushN; split<;>first|omega|rfl
  have ex:exB (preC cs op) op=false:=by simp[exB,c20]
  have ee:exE (preC cs op) op (popA cs op) (popB cs op)=[0,0,0,0]:=by simp[exE,ex]
  have eC:exC s (preC cs op) op n (popA cs op) (popB cs op)=preC cs op:=by unfold exC; split<;>first|omega|rfl
  have eV:exV s (preC cs op) op n (popA cs op) (popB cs op)=appI op (popA cs op) (popB cs op):=by unfold exV; split<;>first|omega|rfl
  have e21:decide ((op:Int)=21)=false:=by simp; omega
  have ep:postC s cs op n=qao (preC cs op) (16+getI cs 7-popsN op) (appI op (popA cs op) (popB cs op)):=by
   unfold postC
   rw[if_neg (by omega),eC,eV]
  rw[ep,ee,ex,e21]
  have hpn:popsN op=1\/popsN op=2:=by
   rcases (by omega:op=9\/op=10\/op=11\/op=12\/op=13\/op=14\/op=15\/op=16\/op=17) with e|e|e|e|e|e|e|e|e<;>rw[e]<;>decide
  rcases hpn with hpn|hpn
  ·have:=qBY (f:=f) (e0:=e0) (e1:=e1) (e2:=e2) hs hN h hc hcan hi hd hpn
   rw[this,qeY (cs:=cs) (op:=op) (p:=1) (by omega) hq hl (by omega),<- qxW hpn,qCm (by omega)]
  ·have:=qBZ (f:=f) (e0:=e0) (e1:=e1) (e2:=e2) hs hN h hc hcan hi hd hpn
   rw[this,qeY (cs:=cs) (op:=op) (p:=2) (by omega) hq hl (by omega),<- qAt hpn,<- qAu hpn]
end
section
open F
def qn6(w:List Int)(N:Nat)(i:Int):Fr:=[(0,.dat (.sl (qal w) N false)),(1,.dat (.sl (qal w) N false)),(5,.int i)]
theorem qpm (w:List Int) (N:Nat) (hN:w.length=N) (hN1:N<1000) (m:Nat) : ∀ i:Nat,i+m=N ->
  Z qaa (.loop 0 F58l0 (qn6 w N i) [])=some (.out (.exit 0) (qn6 w N N++[(14,.bool false)]) []):=by
 induction m with
 |zero=>
  intro i hi
  have:i=N:=by omega
  subst this
  rw[qac]
  simp[qad,qlG,qn6,qp9]
 |succ m ih=>
  intro i hi
  have e:=ih (i+1) (by omega)
  have hi':(i:Int)<N:=by omega
  have s1:=qlp (qal w) N i (by omega)
  have q1:=qaJ w i (by omega)
  have w1:=qag ((i:Int)+1) (by omega)
  rw[show (((i+1:Nat)):Int)=i+1 by omega] at e
  simp only[qn6] at e
  rw[qac]
  simp[qad,qlG,qn6,qp9,hi',s1,q1,w1,qaI,qan,e]
theorem qpn(w:List Int)(N:Nat)(hN:w.length=N)(hN1:N<1000):Z qaa (.call 58 [.dat (.sl (qal w) N false),.dat (.sl (qal w) N false)] [])=some (.ret (.bool true) []):=by
 have e:=qpm w N hN hN1 N 0 (by omega)
 rw[show ((0:Nat):Int)=0 from rfl] at e
 simp only[qn6] at e
 refine qab (pf:=F58) rfl rfl ?_
 simp[F58,qp9,e]
def sS(s:Su)(c:List (Nat × Int))(e0 e1 e2:Int)(cs:List Int)(N:Nat):Option (List D × Nat)->S
 |none=>[qhL s,.cells [.dat (codeDV false c),.int e0,.int e1,.int e2],.cells [.msl 3 0 N N 1,.dat (.lit (.slice none 0 0)),.int 0],.cells (qba cs)]
 |some (lg,k)=>[qhL s,.cells [.dat (codeDV false c),.int e0,.int e1,.int e2],.cells [.msl 3 0 N N 1,.gsl lg k 2 4,.int 0],.cells (qba cs),.tip (k*2)]
set_option maxHeartbeats 8000000
end
section
open F
def qqC(cs:List Int)(N:Nat):Option (List D × Nat)->S
 |none=>qaA cs N
 |some (lg,k)=>qai cs N lg k (k*2)
abbrev vrF(a b f:Int)(cs:List Int)(N:Nat)(h F:Int)(st:Bool)(i:Int):Fr:=[(3,.int a),(4,.int b),(5,.int f),(13,.ptr 0 0),(14,.ptr 1 0),(16,.dat (.sl (qal cs) N false)),(17,.ptr 2 0),(18,.int h),(21,.int F),(23,.bool st),(24,.int i)]
abbrev orF(a b f:Int)(cs:List Int)(N:Nat)(h:Int):Fr:=[(3,.int a),(4,.int b),(5,.int f),(13,.ptr 0 0),(14,.ptr 1 0),(16,.dat (.sl (qal cs) N false)),(17,.ptr 2 0),(18,.int h)]
def vrR:PC := .seq (rn [mv 121 17,cl 122 59 [121],mv 123 16,cl 124 58 [122,123],jj 125 (.un .not (.t 124))] [3,4,5,13,14,16,17,18,125]) (.cond (.t 125) (.seq (rn [mx 12 kF] [12]) (.ret)) (.skip))
def qms(s:Su)(c:List (Nat × Int))(e0 e1 e2 a b f h:Int)(N:Nat)(fr:Fr)(σ : S)(cs:List Int)(M:Option (List D × Nat)):Prop:=
 run (Z qaa) 0 vrR fr σ = some (.normal,orF a b f cs N h++[(125,.bool false)],σ) /\ ∀ h',gcF 0 (orF a b f cs N h') σ = gcF 0 (orF a b f cs N h') (sS s c e0 e1 e2 cs N M)
section
variable{s:Su}{c:List (Nat × Int)}{e0 e1 e2 a b f h F:Int}{cs cs':List Int}{N:Nat}{M M':Option (List D × Nat)}{i:Nat}{x1 x2 x3 x4:Int}{em:Bool}
theorem qA3 (hM:M.isSome=true->M'.isSome=true) (hi:(i:Int)<=F) (hF:F<1000)
  (hr:Z qaa (.call 57 [.dat (.sl (qal cs) N false),s.d,qaq false c e0 e1 e2] [])=some (.ret (.tup [.dat (.sl (qal cs') N false),.bool false,.dat (.agg (qal [x1,x2,x3,x4])),.bool em]) []))
  (hst:Z qaa (.call 52 [.iface 0 (.ptr 0 0),s.d,qaq false c e0 e1 e2] (qqC cs N M))=some (.ret (.tup [.bool false,.dat (.agg (qal [x1,x2,x3,x4])),.bool em]) (qqC cs' N M'))) :
  Z qaa (.loop 0 F338l1 (vrF a b f cs N h F true i) (sS s c e0 e1 e2 cs N M))=Z qaa (.loop 0 F338l1 (vrF a b f cs' N h F true (i+1:Nat)) (sS s c e0 e1 e2 cs' N M')):=by
 have w1:=qag ((i:Int)+1) (by omega)
 rcases M with _|⟨lg,k⟩<;>rcases M' with _|⟨lg',k'⟩
 all_goals first | (cases (hM rfl); done) | skip
 all_goals
  simp only[vrF,sS,qhL,qqC,qaA,qai,qaq,Su.d,Su.c,List.map,qa4,qaP] at *
  conv=>lhs; rw[qac]
  simp[qad,qfy,Wa,hr,hst,hi,w1]
  exact qam (by simp[Wa])
theorem qwm (hN:cs'.length=N) (hN1:N<1000) (hM:M.isSome=true->M'.isSome=true) (hi:(i:Int)<=F)
  (hr:Z qaa (.call 57 [.dat (.sl (qal cs) N false),s.d,qaq false c e0 e1 e2] [])=some (.ret (.tup [.dat (.sl (qal cs') N false),.bool true,.dat (.agg (qal [x1,x2,x3,x4])),.bool em]) []))
  (hst:Z qaa (.call 52 [.iface 0 (.ptr 0 0),s.d,qaq false c e0 e1 e2] (qqC cs N M))=some (.ret (.tup [.bool true,.dat (.agg (qal [x1,x2,x3,x4])),.bool em]) (qqC cs' N M'))) :
  ∃ fr σ,Z qaa (.loop 0 F338l1 (vrF a b f cs N h F true i) (sS s c e0 e1 e2 cs N M))=some (.out (.exit 2) fr σ)/\qms s c e0 e1 e2 a b f h N fr σ cs' M':=by
 have zs:=qpn cs' N hN hN1
 have z0:=qm7 cs' N hN (by omega)
 have z1:=fun lg k=>qm8 cs' N lg k (k*2) hN (by omega)
 rcases M with _|⟨lg,k⟩<;>rcases M' with _|⟨lg',k'⟩
 all_goals first | (cases (hM rfl); done) | skip
 all_goals
  simp only[vrF,sS,qhL,qqC,qaA,qai,qaq,Su.d,Su.c,List.map,qa4,qaP] at *
  rw[qac]
  simp[qad,qfy,Wa,hr,hst,hi]
  refine⟨_,_,⟨rfl,rfl⟩,?_⟩
  simp[qms,vrR,orF,sS,qhL,Su.c,Wa,z0,z1,zs]
theorem qt5 {st:Bool} (hN:cs.length=N) (hN1:N<1000) (hi:st=false\/F<i) :
  ∃ fr σ,Z qaa (.loop 0 F338l1 (vrF a b f cs N h F st i) (sS s c e0 e1 e2 cs N M))=some (.out (.exit 2) fr σ)/\qms s c e0 e1 e2 a b f h N fr σ cs M:=by
 have zs:=qpn cs N hN hN1
 have z0:=qm7 cs N hN (by omega)
 have z1:=fun lg k=>qm8 cs N lg k (k*2) hN (by omega)
 rcases hi with rfl|hi
 ·by_cases hle:(i:Int)<=F
  all_goals
   rcases M with _|⟨lg,k⟩
   all_goals
    simp only[vrF,sS,qhL,qaA,qai,qaq,Su.d,Su.c,List.map] at *
    rw[qac]
    simp[qad,qfy,Wa,hle]
    refine⟨_,_,⟨rfl,rfl⟩,?_⟩
    simp[qms,vrR,orF,sS,qhL,Su.c,Wa,z0,z1,zs]
 ·have hle : ¬ (i:Int)<=F:=by omega
  rcases M with _|⟨lg,k⟩
  all_goals
   simp only[vrF,sS,qhL,qaA,qai,qaq,Su.d,Su.c,List.map] at *
   rw[qac]
   simp[qad,qfy,Wa,hle]
   refine⟨_,_,⟨rfl,rfl⟩,?_⟩
   simp[qms,vrR,orF,sS,qhL,Su.c,Wa,z0,z1,zs]
end
end
end Go.Pm
