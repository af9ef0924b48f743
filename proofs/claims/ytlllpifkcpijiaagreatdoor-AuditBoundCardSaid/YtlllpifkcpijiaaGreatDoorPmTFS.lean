/- The abstract machine's program: a table of functions. -/
import Derived.Test.YtlllpifkcpijiaaGreatDoorPmFSa
import Derived.Test.YtlllpifkcpijiaaGreatDoorPmKb
import Derived.Laws.BitsAllLaws
import Derived.Laws.Bits64
import Derived.KernelRfl
import GoSem.ClaimSeven
import Derived.DataReads
import Derived.Below
import Derived.OpenShut
import Derived.FnData
import Derived.LaidMore
set_option linter.unusedSimpArgs false
set_option linter.unusedVariables false
set_option maxHeartbeats 4000000
section
namespace Go.Pm.F
def qwh:Nat->Option PFun
 |12=>some F12
 |15=>some F15
 |17=>some F17
 |26=>some F26
 |32=>some F32
 |38=>some F38
 |39=>some F39
 |45=>some F45
 |46=>some F46
 |49=>some F49
 |51=>some F51
 |59=>some F59
 |60=>some F60
 |62=>some F62
 |73=>some F73
 |100=>some F100
 |108=>some F108
 |110=>some F110
 |111=>some F111
 |112=>some F112
 |113=>some F113
 |114=>some F114
 |131=>some F131
 |228=>some F228
 |239=>some F239
 |240=>some F240
 |241=>some F241
 |242=>some F242
 |249=>some F249
 |250=>some F250
 |251=>some F251
 |252=>some F252
 |299=>some F299
 |317=>some F317
 |318=>some F318
 |322=>some F322
 |323=>some F323
 |324=>some F324
 |325=>some F325
 |326=>some F326
 |327=>some F327
 |328=>some F328
 |329=>some F329
 |330=>some F330
 |331=>some F331
 |361=>some F361
 |362=>some F362
 |363=>some F363
 |368=>some F368
 |369=>some F369
 |370=>some F370
 |371=>some F371
 |372=>some F372
 |373=>some F373
 |374=>some F374
 |375=>some F375
 |376=>some F376
 |377=>some F377
 |378=>some F378
 |379=>some F379
 |380=>some F380
 |381=>some F381
 |382=>some F382
 |383=>some F383
 |389=>some F389
 |390=>some F390
 |394=>some F394
 |395=>some F395
 |396=>some F396
 |397=>some F397
 |398=>some F398
 |399=>some F399
 |400=>some F400
 |401=>some F401
 |402=>some F402
 |403=>some F403
 |404=>some F404
 |405=>some F405
 |406=>some F406
 |407=>some F407
 |408=>some F408
 |409=>some F409
 |410=>some F410
 |411=>some F411
 |412=>some F412
 |413=>some F413
 |414=>some F414
 |415=>some F415
 |417=>some F417
 |418=>some F418
 |419=>some F419
 |420=>some F420
 |422=>some F422
 |423=>some F423
 |424=>some F424
 |425=>some F425
 |426=>some F426
 |427=>some F427
 |428=>some F428
 |429=>some F429
 |430=>some F430
 |431=>some F431
 |434=>some F434
 |435=>some F435
 |436=>some F436
 |437=>some F437
 |438=>some F438
 |439=>some F439
 |440=>some F440
 |441=>some F441
 |442=>some F442
 |443=>some F443
 |444=>some F444
 |445=>some F445
 |446=>some F446
 |447=>some F447
 |448=>some F448
 |449=>some F449
 |450=>some F450
 |451=>some F451
 |452=>some F452
 |453=>some F453
 |454=>some F454
 |457=>some F457
 |458=>some F458
 |461=>some F461
 |463=>some F463
 |464=>some F464
 |465=>some F465
 |467=>some F467
 |468=>some F468
 |469=>some F469
 |470=>some F470
 |471=>some F471
 |472=>some F472
 |473=>some F473
 |474=>some F474
 |475=>some F475
 |476=>some F476
 |477=>some F477
 |478=>some F478
 |479=>some F479
 |480=>some F480
 |481=>some F481
 |482=>some F482
 |483=>some F483
 |484=>some F484
 |486=>some F486
 |487=>some F487
 |489=>some F489
 |490=>some F490
 |492=>some F492
 |494=>some F494
 |495=>some F495
 |496=>some F496
 |497=>some F497
 |498=>some F498
 |499=>some F499
 |502=>some F502
 |503=>some F503
 |504=>some F504
 |505=>some F505
 |506=>some F506
 |508=>some F508
 |509=>some F509
 |510=>some F510
 |512=>some F512
 |513=>some F513
 |514=>some F514
 |515=>some F515
 |516=>some F516
 |518=>some F518
 |519=>some F519
 |520=>some F520
 |521=>some F521
 |522=>some F522
 |523=>some F523
 |525=>some F525
 |530=>some F530
 |533=>some F533
 |535=>some F535
 |536=>some F536
 |538=>some F538
 |539=>some F539
 |542=>some F542
 |543=>some F543
 |544=>some F544
 |545=>some F545
 |547=>some F547
 |558=>some F558
 |559=>some F559
 |560=>some F560
 |561=>some F561
 |562=>some F562
 |563=>some F563
 |564=>some F564
 |565=>some F565
 |567=>some F567
 |571=>some F571
 |572=>some F572
 |573=>some F573
 |597=>some F597
 |598=>some F598
 |599=>some F599
 |600=>some F600
 |601=>some F601
 |602=>some F602
 |603=>some F603
 |606=>some F606
 |607=>some F607
 |608=>some F608
 |609=>some F609
 |615=>some F615
 |618=>some F618
 |619=>some F619
 |634=>some F634
 |635=>some F635
 |636=>some F636
 |637=>some F637
 |642=>some F642
 |643=>some F643
 |651=>some F651
 |659=>some F659
 |667=>some F667
 |1001=>some F1001
 |1002=>some F1002
 |1003=>some F1003
 |_=>none
end Go.Pm.F
end
namespace Go.Pm
section
open F
def lg(n:Nat):Nat:=if n<=1 then 0 else Nat.log2 (n-1)+1
theorem qoi(n:Nat):n<=2 ^ lg n:=by
 unfold lg
 split
 ·omega
 ·have:=(Nat.log2_eq_iff (n:=n-1) (k:=Nat.log2 (n-1)) (by omega)).1 rfl
  omega
theorem qoj{n:Nat}(h:1<n):2 ^ (lg n-1)<n:=by
 unfold lg
 rw[if_neg (by omega)]
 have:=(Nat.log2_eq_iff (n:=n-1) (k:=Nat.log2 (n-1)) (by omega)).1 rfl
 simp only[Nat.add_sub_cancel]
 omega
theorem qje{n:Nat}(h:n<=1):lg n=0:=by unfold lg; rw[if_pos h]
theorem qo0{n:Nat}(h:1<n):0<lg n:=by unfold lg; rw[if_neg (by omega)]; omega
theorem qok{n k:Nat}(h1:n<=2 ^ k)(h2:0<k->2 ^ (k-1)<n):lg n=k:=by
 have a:=qoi n
 by_cases hn:n<=1
 ·rw[qje hn]
  cases k with
  |zero=>rfl
  |succ k=>have:=h2 (by omega); have:0<2 ^ k:=Nat.two_pow_pos k; simp at *; omega
 ·have b:=qoj (n:=n) (by omega)
  have p:=qo0 (n:=n) (by omega)
  rcases Nat.lt_trichotomy (lg n) k with h|h|h
  ·have:=h2 (by omega)
   have:=Nat.pow_le_pow_right (n:=2) (by omega) (show lg n<=k-1 by omega)
   omega
  ·exact h
  ·have:=Nat.pow_le_pow_right (n:=2) (by omega) (show k<=lg n-1 by omega)
   omega
theorem qh1{m n:Nat}(h:m<=n):lg m<=lg n:=by
 by_cases hm:m<=1
 ·rw[qje hm]; omega
 ·rcases Nat.lt_or_ge (lg n) (lg m) with h'|h'
  ·have a:=qoi n
   have b:=qoj (n:=m) (by omega)
   have:=Nat.pow_le_pow_right (n:=2) (by omega) (show lg n<=lg m-1 by omega)
   omega
  ·exact h'
theorem qt5{n:Nat}(h:0<n):lg (2*n)=lg n+1:=by
 refine qok ?_ fun _=>?_
 ·have:=qoi n; rw[Nat.pow_succ]; omega
 ·rw[Nat.add_sub_cancel]
  by_cases hn:n<=1
  ·rw[qje hn]; simp; omega
  ·have:=qoj (n:=n) (by omega)
   have p:=qo0 (n:=n) (by omega)
   have e:2 ^ lg n=2*2 ^ (lg n-1):=by
    rw[<- Nat.pow_succ']; congr 1; omega
   omega
def tab8:ByteArray:=⟨#[0,1,2,2,3,3,3,3,4,4,4,4,4,4,4,4,5,5,5,5,5,5,5,5,5,5,5,5,5,5,5,5,6,6,6,6,6,6,6,6,6,6,6,6,6,6,6,6,6,6,6,6,6,6,6,6,6,6,6,6,6,6,6,6,7,7,7,7,7,7,7,7,7,7,7,7,7,7,7,7,7,7,7,7,7,7,7,7,7,7,7,7,7,7,7,7,7,7,7,7,7,7,7,7,7,7,7,7,7,7,7,7,7,7,7,7,7,7,7,7,7,7,7,7,7,7,7,7,8,8,8,8,8,8,8,8,8,8,8,8,8,8,8,8,8,8,8,8,8,8,8,8,8,8,8,8,8,8,8,8,8,8,8,8,8,8,8,8,8,8,8,8,8,8,8,8,8,8,8,8,8,8,8,8,8,8,8,8,8,8,8,8,8,8,8,8,8,8,8,8,8,8,8,8,8,8,8,8,8,8,8,8,8,8,8,8,8,8,8,8,8,8,8,8,8,8,8,8,8,8,8,8,8,8,8,8,8,8,8,8,8,8,8,8,8,8,8,8,8,8,8,8,8,8,8,8]⟩
def F299K(tab:ByteArray):PFun:=⟨1,[.tmp 2],.seq (rn [mx 2 (kk 0)] [0,2]) (.seq (.seq (rn [mv 3 0,jj 4 (.bin .geq (.t 3) (.c (.int .u64 4294967296)))] [0,2,4]) (.cond (.t 4) (.seq (rn [mv 5 0,jj 6 (.bin .shr (.t 5) (.c (.int .u64 32))),mv 0 6] [0]) (rn [mx 2 (kk 32)] [0,2])) (.skip))) (.seq (.seq (rn [mv 7 0,jj 8 (.bin .geq (.t 7) (.c (.int .u64 65536)))] [0,2,8]) (.cond (.t 8) (.seq (rn [mv 9 0,jj 10 (.bin .shr (.t 9) (.c (.int .u64 16))),mv 0 10] [0,2]) (rn [mv 11 2,bk 12 .add 11 16,mv 2 12] [0,2])) (.skip))) (.seq (.seq (rn [mv 13 0,jj 14 (.bin .geq (.t 13) (.c (.int .u64 256)))] [0,2,14]) (.cond (.t 14) (.seq (rn [mv 15 0,jj 16 (.bin .shr (.t 15) (.c (.int .u64 8))),mv 0 16] [0,2]) (rn [mv 17 2,bk 18 .add 17 8,mv 2 18] [0,2])) (.skip))) (.seq (rn [mv 19 2,mv 20 0,jj 21 (.conv (.int .u8) (.t 20)),jj 22 (.indexS (.c (.string tab)) (.t 21)),jj 23 (.conv (.int .i64) (.t 22)),bn 24 .add 19 23,mv 2 24] [2]) (.ret))))),false,false,false⟩
theorem qqB : ∀ x,x<256 -> ∃ l,tab8[x]?=some l/\l.toNat<=8/\(x=0->l.toNat=0)/\(0<x->2 ^ (l.toNat-1)<=x/\x<2 ^ l.toNat/\0<l.toNat):=by
 have h : ∀ x,x<256->(match tab8[x]? with
  |some l=>decide (l.toNat<=8)&&(decide (x=0->l.toNat=0)&&decide (0<x->2 ^ (l.toNat-1)<=x/\x<2 ^ l.toNat/\0<l.toNat))
  |none=>false)=true:=by decide +kernel
 intro x hx
 have:=h x hx
 cases hl:tab8[x]? with
 |none=>rw[hl] at this; cases this
 |some l=>
  rw[hl] at this
  simp only[Bool.and_eq_true,decide_eq_true_eq] at this
  exact⟨l,rfl,this.1,this.2.1,this.2.2⟩
abbrev U64(n:Nat):V := .dat (.lit (.int .u64 n))
theorem qwe{n:Nat}(h:n<18446744073709551616):IntKind.u64.wrap (n:Int)=n:=by rw[IntKind.wrap_u64]; omega
theorem qwj{n:Nat}(h:n<4294967296):IntKind.u32.wrap (n:Int)=n:=by rw[IntKind.wrap_u32']; omega
theorem w8u{n:Nat}(h:n<256):IntKind.u8.wrap (n:Int)=n:=by rw[IntKind.wrap_u8']; omega
theorem qt6(a b:Nat):Int.fdiv (a:Int) (b:Int)=((a / b:Nat):Int):=by
 rw[Int.fdiv_eq_ediv_of_nonneg _ (by omega)]; rfl
theorem qt7{prog:Nat->Option PFun}(h299:prog 299=some F299){u:Nat}(h0:0<u)(h1:u<2147483648) : ∃ L:Nat,L<=31/\0<L/\2 ^ (L-1)<=u/\u<2 ^ L/\Z prog (.call 299 [U64 u] [])=some (.ret (.int L) []):=by
 have key : ∀ x a:Nat,x<256->0<x->a<=24->a*1=a -> ∃ l:UInt8,tab8[x]?=some l/\a+l.toNat<=a+8/\0<a+l.toNat/\2 ^ (a+l.toNat-1)<=x*2 ^ a/\(x+1)*2 ^ a<=2 ^ (a+l.toNat)/\l.toNat<=8:=by
  intro x a hx hp _ _
  obtain⟨l,e1,e2,_,e4⟩:=qqB x hx
  obtain⟨e5,e6,e7⟩:=e4 hp
  refine⟨l,e1,by omega,by omega,?_,?_,e2⟩
  ·rw[show a+l.toNat-1=(l.toNat-1)+a by omega,Nat.pow_add]
   exact Nat.mul_le_mul_right _ e5
  ·rw[Nat.add_comm a,Nat.pow_add]
   exact Nat.mul_le_mul_right _ e6
 have hx:prog 299=some (F299K tab8):=h299
 have c1 : ¬ (4294967296:Int)<=u:=by omega
 have n16 : ∀ x:Nat,qtf .u64 (x:Int) 16=((x / 65536:Nat):Int):=fun x=>qt6 x 65536
 have n8 : ∀ x:Nat,qtf .u64 (x:Int) 8=((x / 256:Nat):Int):=fun x=>qt6 x 256
 by_cases a1:65536<=u
 ·by_cases a2:256<=u / 65536
  ·obtain⟨l,e1,e2,e3,e4,e5,e6⟩:=key (u / 65536 / 256) 24 (by omega) (by omega) (by omega) rfl
   have hL:l.toNat<=7:=by
    rcases Nat.lt_or_ge l.toNat 8 with h|h
    ·omega
    ·have:l.toNat=8:=by omega
     rw[this] at e4
     omega
   refine⟨24+l.toNat,by omega,e3,by omega,by omega,?_⟩
   refine qbL hx rfl ?_
   have w1:=w8u (show u / 65536 / 256<256 by omega)
   have w2:IntKind.i64.wrap (24+(l.toNat:Int))=((24+l.toNat:Nat):Int):=by rw[qbd _ (by omega)]; omega
   have w3:=qbd (l.toNat:Int) (by omega)
   have w4:IntKind.i64.wrap 24=24:=rfl
   have w5:IntKind.i64.wrap 16=16:=rfl
   have b1:(65536:Int)<=u:=by omega
   have b2:(256:Int)<=((u / 65536:Nat):Int):=by omega
   generalize tab8=tb at *
   generalize hq1:u / 65536=q1 at *
   generalize hq2:q1 / 256=q2 at *
   generalize 24+l.toNat=L at *
   simp[F299K,c1,b1,b2,n16,n8,hq1,hq2,w1,w2,w3,w4,w5,e1]
  ·obtain⟨l,e1,e2,e3,e4,e5,e6⟩:=key (u / 65536) 16 (by omega) (by omega) (by omega) rfl
   refine⟨16+l.toNat,by omega,e3,by omega,by omega,?_⟩
   refine qbL hx rfl ?_
   have w1:=w8u (show u / 65536<256 by omega)
   have w2:IntKind.i64.wrap (16+(l.toNat:Int))=((16+l.toNat:Nat):Int):=by rw[qbd _ (by omega)]; omega
   have w3:=qbd (l.toNat:Int) (by omega)
   have w4:IntKind.i64.wrap 16=16:=rfl
   have b1:(65536:Int)<=u:=by omega
   have b2 : ¬ (256:Int)<=((u / 65536:Nat):Int):=by omega
   generalize tab8=tb at *
   generalize hq1:u / 65536=q1 at *
   generalize 16+l.toNat=L at *
   simp[F299K,c1,b1,b2,n16,n8,hq1,w1,w2,w3,w4,e1]
 ·by_cases a2:256<=u
  ·obtain⟨l,e1,e2,e3,e4,e5,e6⟩:=key (u / 256) 8 (by omega) (by omega) (by omega) rfl
   refine⟨8+l.toNat,by omega,e3,by omega,by omega,?_⟩
   refine qbL hx rfl ?_
   have w1:=w8u (show u / 256<256 by omega)
   have w2:IntKind.i64.wrap (8+(l.toNat:Int))=((8+l.toNat:Nat):Int):=by rw[qbd _ (by omega)]; omega
   have w3:=qbd (l.toNat:Int) (by omega)
   have w4:IntKind.i64.wrap 8=8:=rfl
   have b1 : ¬ (65536:Int)<=u:=by omega
   have b2:(256:Int)<=u:=by omega
   generalize tab8=tb at *
   generalize hq1:u / 256=q1 at *
   generalize 8+l.toNat=L at *
   simp[F299K,c1,b1,b2,n16,n8,hq1,w1,w2,w3,w4,e1]
  ·obtain⟨l,e1,e2,e3,e4,e5,e6⟩:=key u 0 (by omega) (by omega) (by omega) rfl
   refine⟨0+l.toNat,by omega,e3,by omega,by omega,?_⟩
   refine qbL hx rfl ?_
   have w1:=w8u (show u<256 by omega)
   have w2:IntKind.i64.wrap (0+(l.toNat:Int))=((0+l.toNat:Nat):Int):=by rw[qbd _ (by omega)]; omega
   have w3:=qbd (l.toNat:Int) (by omega)
   have b1 : ¬ (65536:Int)<=u:=by omega
   have b2 : ¬ (256:Int)<=u:=by omega
   generalize tab8=tb at *
   simp[F299K,c1,b1,b2,n16,n8,w1,w3,e1]
theorem qt8{prog:Nat->Option PFun}(h299:prog 299=some F299)(h441:prog 441=some F441){u:Nat}(h0:0<u)(h1:u<2147483648):Z prog (.call 441 [U64 u] [])=some (.ret (.int (lg (u+1))) []):=by
 obtain⟨L,l1,l2,l3,l4,z⟩:=qt7 h299 h0 h1
 have e:lg (u+1)=L:=qok (by omega) fun _=>by omega
 rw[e]
 refine qbL h441 rfl ?_
 simp[F441,z]
theorem qkK{prog:Nat->Option PFun}(h299:prog 299=some F299)(h441:prog 441=some F441)(h394:prog 394=some F394){n:Nat}(h1:n<2147483648):Z prog (.call 394 [.int n] [])=some (.ret (.int (lg n)) []):=by
 refine qbL h394 rfl ?_
 by_cases h:n<=1
 ·have h':(n:Int)<=1:=by omega
  simp[F394,h',qje h]
 ·have h' : ¬ (n:Int)<=1:=by omega
  have z:=qt8 h299 h441 (u:=n-1) (by omega) (by omega)
  rw[show n-1+1=n by omega] at z
  have w1:IntKind.i64.wrap ((n:Int)-1)=((n-1:Nat):Int):=by rw[qbd _ (by omega)]; omega
  have w2:=qwe (n:=n-1) (by omega)
  simp[F394,h',w1,w2,z]
theorem qgm{prog:Nat->Option PFun}(h299:prog 299=some F299)(h441:prog 441=some F441)(h394:prog 394=some F394)(h368:prog 368=some F368){n m:Nat}(h1:n<2147483648)(h2:m<2147483648):Z prog (.call 368 [.int n,.int m] [])=some (.ret (.int ((2*lg n+2*lg m+12:Nat):Int)) []):=by
 have z1:=qkK h299 h441 h394 h1
 have z2:=qkK h299 h441 h394 h2
 have b : ∀ k,k<2147483648->lg k<=31:=fun k hk=>by
  have:=qh1 (m:=k) (n:=2 ^ 31) (by simp; omega)
  have e:lg (2 ^ 31)=31:=qok (by omega) fun _=>by decide
  omega
 have b1:=b n h1
 have b2:=b m h2
 refine qbL h368 rfl ?_
 have w1:IntKind.i64.wrap (2*(lg n:Int))=2*lg n:=qbd _ (by omega)
 have w2:IntKind.i64.wrap (2*(lg m:Int))=2*lg m:=qbd _ (by omega)
 have w3:IntKind.i64.wrap (2*(lg n:Int)+2*lg m)=2*lg n+2*lg m:=qbd _ (by omega)
 have w4:IntKind.i64.wrap (2*(lg n:Int)+2*lg m+12)=2*lg n+2*lg m+12:=qbd _ (by omega)
 have w5:IntKind.i64.wrap 12=12:=rfl
 simp[F368,z1,z2,w1,w2,w3,w4,w5]
theorem qo1{prog:Nat->Option PFun}{n:Nat}(hn:n<2147483648) : ∀ j k:Nat,k+j=lg n->Z prog (.loop 0 F369l0 [(0,.int n),(3,.int k),(4,.int ((2 ^ k:Nat):Int))] [])=some (.out (.exit 0) [(0,.int n),(3,.int (lg n)),(4,.int ((2 ^ lg n:Nat):Int)),(7,.bool false)] [])
 |0,k,h=>by
  have e:k=lg n:=by omega
  subst e
  have a:=qoi n
  generalize 2 ^ lg n=m at *
  generalize lg n=l at *
  have h' : ¬ (m:Int)<n:=by omega
  rw[qfI]
  simp[qdP,qgU,h']
 |j+1,k,h=>by
  have ih:=qo1 (prog:=prog) hn j (k+1) (by omega)
  have hp:1<n:=by
   rcases Nat.lt_or_ge 1 n with h'|h'
   ·exact h'
   ·rw[qje h'] at h; omega
  have a:2 ^ k<n:=by
   have:=qoj hp
   have:=Nat.pow_le_pow_right (n:=2) (by omega) (show k<=lg n-1 by omega)
   omega
  have b:k<2147483648:=by
   have:k<2 ^ k:=Nat.lt_two_pow_self
   omega
  rw[Nat.pow_succ'] at ih
  generalize 2 ^ k=m at *
  generalize (2 ^ lg n:Nat)=M at *
  generalize lg n=l at *
  have h':(m:Int)<n:=by omega
  have w1:IntKind.i64.wrap ((k:Int)+1)=((k+1:Nat):Int):=by rw[qbd _ (by omega)]; omega
  have w2:IntKind.i64.wrap (2*(m:Int))=((2*m:Nat):Int):=by rw[qbd _ (by omega)]; omega
  generalize k+1=k' at *
  generalize 2*m=m' at *
  rw[qfI]
  simp[qdP,qgU,h',w1,w2,ih]
theorem qkL{prog:Nat->Option PFun}(h369:prog 369=some F369){n:Nat}(hn:n<2147483648):Z prog (.call 369 [.int n] [])=some (.ret (.int (lg n)) []):=by
 have z:=qo1 (prog:=prog) hn (lg n) 0 (by omega)
 generalize (2 ^ lg n:Nat)=M at *
 generalize lg n=l at *
 have z':Z prog (.loop 0 F369l0 [(0,.int n),(3,.int 0),(4,.int 1)] [])=some (.out (.exit 0) [(0,.int n),(3,.int l),(4,.int M),(7,.bool false)] []):=z
 refine qbL h369 rfl ?_
 simp[F369,z']
def qjf(n m:Int):Int:=(if n<0 then -(n+1) else n).tmod m
theorem qgX{prog:Nat->Option PFun}(h17:prog 17=some F17){n m:Int}(h1:I64 n)(hm:1<=m):Z prog (.call 17 [.int n,.int m] [])=some (.ret (.int (qjf n m)) []):=by
 refine qbL h17 rfl ?_
 unfold qjf
 have hm0 : ¬ m=0:=by omega
 by_cases h:n<0
 ·have w1:IntKind.i64.wrap (n+1)=n+1:=qbd _ (by unfold I64 at h1; omega)
  have w2:IntKind.i64.wrap (-(n+1)) = -(n+1):=qbd _ (by unfold I64 at h1; omega)
  simp[F17,h,hm0,w1,w2]
 ·simp[F17,h,hm0]
theorem qgY(n:Int){m:Int}(hm:0<m) : ∃ t:Nat,(t:Int)<m/\qjf n m=t:=by
 unfold qjf
 have hx:0<=(if n<0 then -(n+1) else n):=by split<;>omega
 generalize (if n<0 then -(n+1) else n)=x at *
 have a:=Int.tmod_nonneg m hx
 have b:=Int.tmod_lt_of_pos x hm
 exact⟨(x.tmod m).toNat,by omega,by omega⟩
end
section
open F
def c361a:PC:=(.seq (rn [mv 11 5,mv 12 6,cl 13 368 [11,12],mv 14 5,cl 15 369 [14],jj 16 (.bin .mul (kk 2) (.t 15)),mv 17 6,cl 18 369 [17],jj 19 (.bin .mul (kk 2) (.t 18)),bn 20 .add 16 19,bk 21 .add 20 12,bn 22 .neq 13 21,mv 23 22,jf 24 23 (.mov (.t 5)),jf 25 23 (.bin .add (.t 24) (kk 1)),jf 26 23 (.mov (.t 6)),jf 27 23 (.call 368 [(.t 25),(.t 26)]),jf 28 23 (.mov (.t 5)),jf 29 23 (.mov (.t 6)),jf 30 23 (.call 368 [(.t 28),(.t 29)]),jf 31 23 (.bin .lss (.t 27) (.t 30)),jj 32 (.pick (.t 23) kT (.t 31)),mv 33 32,jf 34 33 (.mov (.t 5)),jf 35 33 (.mov (.t 6)),jf 36 33 (.bin .add (.t 35) (kk 1)),jf 37 33 (.call 368 [(.t 34),(.t 36)]),jf 38 33 (.mov (.t 5)),jf 39 33 (.mov (.t 6)),jf 40 33 (.call 368 [(.t 38),(.t 39)]),jf 41 33 (.bin .lss (.t 37) (.t 40)),jj 42 (.pick (.t 33) kT (.t 41))] [5,6,42]) (.cond (.t 42) (.seq (rn [mx 4 kF] [4]) (.ret)) (.skip)))
def c361b:PC:=(.seq (rn [mv 43 5,bk 44 .eql 43 0,mv 45 44,jf 46 45 (.mov (.t 5)),jf 47 45 (.bin .mul (kk 2) (.t 46)),jf 48 45 (.mov (.t 6)),jf 49 45 (.call 368 [(.t 47),(.t 48)]),jf 50 45 (.mov (.t 5)),jf 51 45 (.mov (.t 6)),jf 52 45 (.call 368 [(.t 50),(.t 51)]),jf 53 45 (.bin .add (.t 52) (kk 2)),jf 54 45 (.bin .eql (.t 49) (.t 53)),jj 55 (.pick (.t 45) kT (.t 54)),mv 56 55,jt 57 56 (.mov (.t 5)),jt 58 56 (.mov (.t 6)),jt 59 56 (.call 368 [(.t 57),(.t 58)]),jt 60 56 (.mov (.t 6)),jt 61 56 (.mov (.t 5)),jt 62 56 (.call 368 [(.t 60),(.t 61)]),jt 63 56 (.bin .eql (.t 59) (.t 62)),jj 64 (.pick (.t 56) (.t 63) kF),mv 65 64,jt 66 65 (.call 370 []),jj 67 (.pick (.t 65) (.t 66) kF),mv 4 67] [4]) (.ret))
theorem F361_t:F361=⟨2,[.tmp 4],.seq (rn [mx 4 kF] [0,1]) (.seq (rn [mv 7 0,jj 8 (.call 17 [(.t 7),(kk 1073741824)]),mv 5 8] [1,5]) (.seq (rn [mv 9 1,jj 10 (.call 17 [(.t 9),(kk 1073741824)]),mv 6 10] [5,6]) (.seq c361a c361b))),false,false,false⟩:=rfl
theorem qrb {C:Task->Option Res} {t k t1 k1 A B1 B2 Lt Lk C1 C2 C0:Nat}
  (z0:C (.call 368 [.int t,.int k] [])=some (.ret (.int A) [])) (z1:C (.call 368 [.int t1,.int k] [])=some (.ret (.int B1) [])) (z2:C (.call 368 [.int t,.int k1] [])=some (.ret (.int B2) []))
  (l1:C (.call 369 [.int t] [])=some (.ret (.int Lt) [])) (l2:C (.call 369 [.int k] [])=some (.ret (.int Lk) []))
  (w0:IntKind.i64.wrap (2*(Lt:Int))=C1) (w1:IntKind.i64.wrap (2*(Lk:Int))=C2) (w2:IntKind.i64.wrap ((C1:Int)+C2)=C0) (w3:IntKind.i64.wrap ((C0:Int)+12)=A)
  (w4:IntKind.i64.wrap ((t:Int)+1)=t1) (w5:IntKind.i64.wrap ((k:Int)+1)=k1) (n1 : ¬ (B1:Int)<A) (n2 : ¬ (B2:Int)<A) :
  run C 0 c361a [(5,.int t),(6,.int k)] []=some (.normal,[(5,.int t),(6,.int k),(42,.bool false)],[]):=by
 simp -implicitDefEqProofs [c361a,z0,z1,z2,l1,l2,w0,w1,w2,w3,w4,w5,n1,n2]
theorem qrc {C:Task->Option Res} {t k t2 A B3 A2:Nat}
  (z0:C (.call 368 [.int t,.int k] [])=some (.ret (.int A) [])) (z3:C (.call 368 [.int t2,.int k] [])=some (.ret (.int B3) [])) (z4:C (.call 368 [.int k,.int t] [])=some (.ret (.int A) []))
  (w6:IntKind.i64.wrap (2*(t:Int))=t2) (w7:IntKind.i64.wrap ((A:Int)+2)=A2) (h:t=0\/B3=A2) (zl:C (.call 370 [] [])=some (.ret (.bool true) [])) :
  run C 0 c361b [(5,.int t),(6,.int k),(42,.bool false)] []=some (.ret,[(4,.bool true)],[]):=by
 by_cases h0:t=0
 ·have e1:((t:Int)=0)=True:=eq_true (by omega)
  have e2:(t=0)=True:=eq_true h0
  simp -implicitDefEqProofs [c361b,z0,z3,z4,w6,w7,zl,e1,e2]
 ·have h0' : ¬ (t:Int)=0:=by omega
  have e:B3=A2:=h.resolve_left h0
  subst e
  simp -implicitDefEqProofs [c361b,z0,z3,z4,w6,w7,zl,h0,h0']
theorem ql5 {prog:Nat->Option PFun} (h17:prog 17=some F17) (h299:prog 299=some F299) (h441:prog 441=some F441) (h394:prog 394=some F394) (h368:prog 368=some F368) (h369:prog 369=some F369) (h361:prog 361=some F361)
  (zl:Z prog (.call 370 [] [])=some (.ret (.bool true) [])) {x y:Int} (h1:I64 x) (h2:I64 y):Z prog (.call 361 [.int x,.int y] [])=some (.ret (.bool true) []):=by
 have za:=qgX h17 h1 (m:=1073741824) (by omega)
 have zb:=qgX h17 h2 (m:=1073741824) (by omega)
 obtain⟨t,ht,et⟩:=qgY x (m:=1073741824) (by omega)
 obtain⟨k,hk,ek⟩:=qgY y (m:=1073741824) (by omega)
 rw[et] at za
 rw[ek] at zb
 have z0:=qgm h299 h441 h394 h368 (n:=t) (m:=k) (by omega) (by omega)
 have z1:=qgm h299 h441 h394 h368 (n:=t+1) (m:=k) (by omega) (by omega)
 have z2:=qgm h299 h441 h394 h368 (n:=t) (m:=k+1) (by omega) (by omega)
 have z3:=qgm h299 h441 h394 h368 (n:=2*t) (m:=k) (by omega) (by omega)
 have z4:=qgm h299 h441 h394 h368 (n:=k) (m:=t) (by omega) (by omega)
 have l1:=qkL h369 (n:=t) (by omega)
 have l2:=qkL h369 (n:=k) (by omega)
 have m1:=qh1 (show t<=t+1 by omega)
 have m2:=qh1 (show k<=k+1 by omega)
 have m3:t=0\/lg (2*t)=lg t+1:=by
  rcases Nat.eq_zero_or_pos t with h|h
  ·exact .inl h
  ·exact .inr (qt5 h)
 have b : ∀ n,n<2147483648->lg n<=31:=fun n hn=>by
  have:=qh1 (m:=n) (n:=2 ^ 31) (by simp; omega)
  have e:lg (2 ^ 31)=31:=qok (by omega) fun _=>by decide
  omega
 have b1:=b t (by omega)
 have b2:=b k (by omega)
 have e4:2*lg k+2*lg t+12=2*lg t+2*lg k+12:=by omega
 rw[e4] at z4
 have m1':2*lg t+2*lg k+12<=2*lg (t+1)+2*lg k+12:=by omega
 have m2':2*lg t+2*lg k+12<=2*lg t+2*lg (k+1)+12:=by omega
 have m3':t=0\/2*lg (2*t)+2*lg k+12=2*lg t+2*lg k+12+2:=by omega
 have w0:IntKind.i64.wrap (2*(lg t:Int))=((2*lg t:Nat):Int):=by rw[qbd _ (by omega)]; omega
 have w1:IntKind.i64.wrap (2*(lg k:Int))=((2*lg k:Nat):Int):=by rw[qbd _ (by omega)]; omega
 have w2:IntKind.i64.wrap (((2*lg t:Nat):Int)+((2*lg k:Nat):Int))=((2*lg t+2*lg k:Nat):Int):=by rw[qbd _ (by omega)]; omega
 have w3:IntKind.i64.wrap (((2*lg t+2*lg k:Nat):Int)+12)=((2*lg t+2*lg k+12:Nat):Int):=by rw[qbd _ (by omega)]; omega
 have w4:IntKind.i64.wrap ((t:Int)+1)=((t+1:Nat):Int):=by rw[qbd _ (by omega)]; omega
 have w5:IntKind.i64.wrap ((k:Int)+1)=((k+1:Nat):Int):=by rw[qbd _ (by omega)]; omega
 have w6:IntKind.i64.wrap (2*(t:Int))=((2*t:Nat):Int):=by rw[qbd _ (by omega)]; omega
 have w7:IntKind.i64.wrap (((2*lg t+2*lg k+12:Nat):Int)+2)=((2*lg t+2*lg k+12+2:Nat):Int):=by rw[qbd _ (by omega)]; omega
 generalize 2*lg t+2*lg k+12+2=A2 at *
 generalize 2*lg t+2*lg k+12=A at *
 generalize 2*lg (t+1)+2*lg k+12=B1 at *
 generalize 2*lg t+2*lg (k+1)+12=B2 at *
 generalize 2*lg (2*t)+2*lg k+12=B3 at *
 generalize 2*lg t+2*lg k=C0 at *
 generalize 2*lg t=C1 at *
 generalize 2*lg k=C2 at *
 generalize lg t=Lt at *
 generalize lg k=Lk at *
 generalize t+1=t1 at *
 generalize k+1=k1 at *
 have n1 : ¬ (B1:Int)<A:=by omega
 have n2 : ¬ (B2:Int)<A:=by omega
 have n1' : ¬ B1<A:=by omega
 have n2' : ¬ B2<A:=by omega
 have ha:=qrb (C:=Z prog) z0 z1 z2 l1 l2 w0 w1 w2 w3 w4 w5 n1 n2
 have hb:=qrc (C:=Z prog) z0 z3 z4 w6 w7 m3' zl
 refine qbL (pf:=F361) h361 rfl ?_
 simp[F361_t,za,zb,ha,hb]
end
end Go.Pm
section
namespace Go.Pm
inductive Tr where
 |nil
 |node (l:Tr) (k:Nat) (f:PFun) (r:Tr)
def Tr.get:Tr->Nat->Option PFun
 |.nil,_=>none
 |.node l k f r,n=>cond (Nat.beq n k) (some f) (cond (Nat.ble n k) (l.get n) (r.get n))
namespace F
def progST:Tr:=(.node (.node (.node (.node (.node (.node (.node (.node .nil 12 F12 .nil) 15 F15 (.node .nil 17 F17 .nil)) 26 F26 (.node (.node .nil 32 F32 .nil) 38 F38 (.node .nil 39 F39 .nil))) 45 F45 (.node (.node (.node .nil 46 F46 .nil) 49 F49 (.node .nil 51 F51 .nil)) 59 F59 (.node (.node .nil 60 F60 .nil) 62 F62 .nil))) 73 F73 (.node (.node (.node (.node .nil 100 F100 .nil) 108 F108 (.node .nil 110 F110 .nil)) 111 F111 (.node (.node .nil 112 F112 .nil) 113 F113 .nil)) 114 F114 (.node (.node (.node .nil 131 F131 .nil) 228 F228 (.node .nil 239 F239 .nil)) 240 F240 (.node (.node .nil 241 F241 .nil) 242 F242 .nil)))) 249 F249 (.node (.node (.node (.node (.node .nil 250 F250 .nil) 251 F251 (.node .nil 252 F252 .nil)) 299 F299 (.node (.node .nil 317 F317 .nil) 318 F318 .nil)) 322 F322 (.node (.node (.node .nil 323 F323 .nil) 324 F324 (.node .nil 325 F325 .nil)) 326 F326 (.node (.node .nil 327 F327 .nil) 328 F328 .nil))) 329 F329 (.node (.node (.node (.node .nil 330 F330 .nil) 331 F331 (.node .nil 361 F361 .nil)) 362 F362 (.node (.node .nil 363 F363 .nil) 368 F368 .nil)) 369 F369 (.node (.node (.node .nil 370 F370 .nil) 371 F371 (.node .nil 372 F372 .nil)) 373 F373 (.node (.node .nil 374 F374 .nil) 375 F375 .nil))))) 376 F376 (.node (.node (.node (.node (.node (.node .nil 377 F377 .nil) 378 F378 (.node .nil 379 F379 .nil)) 380 F380 (.node (.node .nil 381 F381 .nil) 382 F382 (.node .nil 383 F383 .nil))) 389 F389 (.node (.node (.node .nil 390 F390 .nil) 394 F394 (.node .nil 395 F395 .nil)) 396 F396 (.node (.node .nil 397 F397 .nil) 398 F398 .nil))) 399 F399 (.node (.node (.node (.node .nil 400 F400 .nil) 401 F401 (.node .nil 402 F402 .nil)) 403 F403 (.node (.node .nil 404 F404 .nil) 405 F405 .nil)) 406 F406 (.node (.node (.node .nil 407 F407 .nil) 408 F408 (.node .nil 409 F409 .nil)) 410 F410 (.node (.node .nil 411 F411 .nil) 412 F412 .nil)))) 413 F413 (.node (.node (.node (.node (.node .nil 414 F414 .nil) 415 F415 (.node .nil 417 F417 .nil)) 418 F418 (.node (.node .nil 419 F419 .nil) 420 F420 .nil)) 422 F422 (.node (.node (.node .nil 423 F423 .nil) 424 F424 (.node .nil 425 F425 .nil)) 426 F426 (.node (.node .nil 427 F427 .nil) 428 F428 .nil))) 429 F429 (.node (.node (.node (.node .nil 430 F430 .nil) 431 F431 (.node .nil 434 F434 .nil)) 435 F435 (.node (.node .nil 436 F436 .nil) 437 F437 .nil)) 438 F438 (.node (.node (.node .nil 439 F439 .nil) 440 F440 (.node .nil 441 F441 .nil)) 442 F442 (.node (.node .nil 443 F443 .nil) 444 F444 .nil)))))) 445 F445 (.node (.node (.node (.node (.node (.node (.node .nil 446 F446 .nil) 447 F447 (.node .nil 448 F448 .nil)) 449 F449 (.node (.node .nil 450 F450 .nil) 451 F451 (.node .nil 452 F452 .nil))) 453 F453 (.node (.node (.node .nil 454 F454 .nil) 457 F457 (.node .nil 458 F458 .nil)) 461 F461 (.node (.node .nil 463 F463 .nil) 464 F464 .nil))) 465 F465 (.node (.node (.node (.node .nil 467 F467 .nil) 468 F468 (.node .nil 469 F469 .nil)) 470 F470 (.node (.node .nil 471 F471 .nil) 472 F472 .nil)) 473 F473 (.node (.node (.node .nil 474 F474 .nil) 475 F475 (.node .nil 476 F476 .nil)) 477 F477 (.node (.node .nil 478 F478 .nil) 479 F479 .nil)))) 480 F480 (.node (.node (.node (.node (.node .nil 481 F481 .nil) 482 F482 (.node .nil 483 F483 .nil)) 484 F484 (.node (.node .nil 486 F486 .nil) 487 F487 .nil)) 489 F489 (.node (.node (.node .nil 490 F490 .nil) 492 F492 (.node .nil 494 F494 .nil)) 495 F495 (.node (.node .nil 496 F496 .nil) 497 F497 .nil))) 498 F498 (.node (.node (.node (.node .nil 499 F499 .nil) 502 F502 (.node .nil 503 F503 .nil)) 504 F504 (.node (.node .nil 505 F505 .nil) 506 F506 .nil)) 508 F508 (.node (.node (.node .nil 509 F509 .nil) 510 F510 (.node .nil 512 F512 .nil)) 513 F513 (.node (.node .nil 514 F514 .nil) 515 F515 .nil))))) 516 F516 (.node (.node (.node (.node (.node (.node .nil 518 F518 .nil) 519 F519 (.node .nil 520 F520 .nil)) 521 F521 (.node (.node .nil 522 F522 .nil) 523 F523 (.node .nil 525 F525 .nil))) 530 F530 (.node (.node (.node .nil 533 F533 .nil) 535 F535 (.node .nil 536 F536 .nil)) 538 F538 (.node (.node .nil 539 F539 .nil) 542 F542 .nil))) 543 F543 (.node (.node (.node (.node .nil 544 F544 .nil) 545 F545 (.node .nil 547 F547 .nil)) 558 F558 (.node (.node .nil 559 F559 .nil) 560 F560 .nil)) 561 F561 (.node (.node (.node .nil 562 F562 .nil) 563 F563 (.node .nil 564 F564 .nil)) 565 F565 (.node (.node .nil 567 F567 .nil) 571 F571 .nil)))) 572 F572 (.node (.node (.node (.node (.node .nil 573 F573 .nil) 597 F597 (.node .nil 598 F598 .nil)) 599 F599 (.node (.node .nil 600 F600 .nil) 601 F601 .nil)) 602 F602 (.node (.node (.node .nil 603 F603 .nil) 606 F606 (.node .nil 607 F607 .nil)) 608 F608 (.node (.node .nil 609 F609 .nil) 615 F615 .nil))) 618 F618 (.node (.node (.node (.node .nil 619 F619 .nil) 634 F634 (.node .nil 635 F635 .nil)) 636 F636 (.node (.node .nil 637 F637 .nil) 642 F642 .nil)) 643 F643 (.node (.node (.node .nil 651 F651 .nil) 659 F659 (.node .nil 667 F667 .nil)) 1001 F1001 (.node (.node .nil 1002 F1002 .nil) 1003 F1003 .nil)))))))
end F
end Go.Pm
end
namespace Go.Pm
section
open F
abbrev prX:Nat->Option PFun:=progST.get
attribute [local simp] V.len qbr qdP qfI
noncomputable def qoG(cs:List V):Bool:=List.rec (motive:=fun _=>Bool) true (fun v _ ih=>V.casesOn (motive_1:=fun _=>Bool) v (fun _=>ih) (fun _ _=>false) (fun _ _ _ _=>false) (fun _ _ _ _ _=>false) (fun _ _ _=>false) (fun _ _ _=>false) (fun _ _ _ _ _=>false) (fun _ _=>false) (fun _ _=>false) (fun _=>false) (fun _ _ _=>false) (fun _=>false) (fun _ _=>false) (fun _=>false) (fun _=>false) (fun _=>false)) cs
structure Dats(cs:List V):Prop where
 l:qav cs=[]
 r : ∀ f,qcw f cs=cs
theorem qfz : ∀ {cs:List V},qoG cs=true->Dats cs
 |[],_=>⟨rfl,fun _=>rfl⟩
 |v::cs,h=>by
  cases v with
  |dat d=>
   have ih:=qfz (cs:=cs) h
   exact⟨by simp[qav,ih.l],fun f=>by simp[qcw,ih.r]⟩
  |_=>cases h
section
variable{cs:List V}{n:Nat}{lg:List D}{k t:Nat}{i:Nat}{v w:Int}
abbrev me0(cs:List V)(n:Nat):S:=[.cells [.msl 1 0 n n 1,.dat (.lit (.slice none 0 0)),.int 0],.cells cs]
abbrev me1(cs:List V)(n:Nat)(lg:List D)(k t:Nat):S:=[.cells [.msl 1 0 n n 1,.gsl lg k 2 2,.int 0],.cells cs,.tip t]
theorem qpE(hd:Dats cs)(h:i<n):Z prX (.call 62 [.ptr 0 0,.int i] (me0 cs n))=some (.ret (.bool true) (me0 cs n)):=by
 refine qbL (pf:=F62) rfl rfl ?_
 have h1:(i:Int)<n:=by omega
 simp[F62,hd.l,hd.r,h,h1,List.range_succ]
theorem qpF(hd:Dats cs)(h:i<n):Z prX (.call 62 [.ptr 0 0,.int i] (me1 cs n lg k t))=some (.ret (.bool true) (me1 cs n lg k t)):=by
 refine qbL (pf:=F62) rfl rfl ?_
 have h1:(i:Int)<n:=by omega
 simp[F62,hd.l,hd.r,h,h1,List.range_succ]
theorem quM(hd:Dats cs)(h:i<n)(hc:qay cs i 1=some [.int v]):Z prX (.call 51 [.ptr 0 0,.int i] (me0 cs n))=some (.ret (.int v) (me0 cs n)):=by
 refine qbL (pf:=F51) rfl rfl ?_
 have h2:=qpE hd h
 have h1:(i:Int)<n:=by omega
 simp[F51,hd.l,hd.r,h2,h,h1,hc,List.range_succ]
theorem quN(hd:Dats cs)(h:i<n)(hc:qay cs i 1=some [.int v]):Z prX (.call 51 [.ptr 0 0,.int i] (me1 cs n lg k t))=some (.ret (.int v) (me1 cs n lg k t)):=by
 refine qbL (pf:=F51) rfl rfl ?_
 have h2:=qpF (lg:=lg) (k:=k) (t:=t) hd h
 have h1:(i:Int)<n:=by omega
 simp[F51,hd.l,hd.r,h2,h,h1,hc,List.range_succ]
theorem quO(hd:Dats cs)(hd':Dats (cs.take i++(.int w::cs.drop (i+1))))(h:i<n)(hn:i+1<=cs.length)(hc:qay cs i 1=some [.int v]):Z prX (.call 114 [.ptr 0 0,.int i,.int w] (me0 cs n))=some (.ret (.tup []) (me1 (cs.take i++(.int w::cs.drop (i+1))) n [.lit (.int .i64 i),.lit (.int .i64 v)] 1 2)):=by
 refine qbL (pf:=F114) rfl rfl ?_
 have h2:=qpE hd h
 have h1:(i:Int)<n:=by omega
 simp[F114,hd.l,hd.r,hd'.l,hd'.r,h2,h,h1,hc,hn,List.range_succ,qea,qtU,qa2,qlO,qgh]
theorem quP(hd:Dats cs)(hd':Dats (cs.take i++(.int w::cs.drop (i+1))))(h:i<n)(hn:i+1<=cs.length)(hl:lg.length=k*2)(hk:k<2 ^ 30)(hc:qay cs i 1=some [.int v]):Z prX (.call 114 [.ptr 0 0,.int i,.int w] (me1 cs n lg k (k*2)))=some (.ret (.tup []) (me1 (cs.take i++(.int w::cs.drop (i+1))) n (lg++[.lit (.int .i64 i),.lit (.int .i64 v)]) (k+1) ((k+1)*2))):=by
 refine qbL (pf:=F114) rfl rfl ?_
 have h2:=qpF (lg:=lg) (k:=k) (t:=k*2) hd h
 have h1:(i:Int)<n:=by omega
 have h5:qa2 (k+1) 16=true:=by simp[qa2]; omega
 simp[F114,hd.l,hd.r,hd'.l,hd'.r,h2,h,h1,h5,hl,hc,hn,List.range_succ,qea,qtU,qlO,qgh]
 try omega
end
universe u
section
variable{α : Type u}
noncomputable def qvn(w:V)(cs:List V)(i:Nat)(k:List V -> α) : α := List.rec (motive:=fun _=>Nat->(List V -> α) -> α) (fun _ k=>k []) (fun v r ih i k=>Nat.rec (motive:=fun _ => α) (k (w::r)) (fun j _=>ih j fun t=>k (v::t)) i) cs i k
theorem qke(w:V) : ∀ (cs:List V) (i:Nat) (k:List V -> α),i<cs.length->qvn w cs i k=k (cs.take i++w::cs.drop (i+1))
 |[],_,_,h=>by simp at h
 |v::r,0,k,_=>rfl
 |v::r,i+1,k,h=>by
  show qvn w r i (fun t=>k (v::t))=_
  rw[qke w r i _ (by simpa using h)]
  rfl
noncomputable def apD(b:List D)(a:List D)(k:List D -> α) : α := List.rec (motive:=fun _=>(List D -> α) -> α) (fun k=>k b) (fun d _ ih k=>ih fun t=>k (d::t)) a k
theorem qpG(b:List D) : ∀ (a:List D) (k:List D -> α),apD b a k=k (a++b)
 |[],_=>rfl
 |d::a,k=>by
  show apD b a (fun t=>k (d::t))=_
  rw[qpG b a]; rfl
end
noncomputable def qvP(cs:List V)(i:Nat):Option V:=List.rec (motive:=fun _=>Nat->Option V) (fun _=>none) (fun v _ ih i=>Nat.rec (motive:=fun _=>Option V) (some v) (fun j _=>ih j) i) cs i
theorem qnt : ∀ {cs:List V} {i:Nat} {v:V},qvP cs i=some v->i<cs.length/\qay cs i 1=some [v]
 |[],_,_,h=>by cases h
 |x::cs,0,v,h=>by cases h; exact⟨by simp,rfl⟩
 |x::cs,i+1,v,h=>by
  have h':qvP cs i=some v:=h
  obtain⟨h1,h2⟩:=qnt h'
  refine⟨by simp; omega,?_⟩
  simpa [qay] using h2
noncomputable def qvQ(l:List D):Nat:=List.rec (motive:=fun _=>Nat) 0 (fun _ _ ih=>Nat.succ ih) l
theorem qnu : ∀ l:List D,qvQ l=l.length
 |[]=>rfl
 |_::l=>by show Nat.succ (qvQ l)=_; rw[qnu l]; rfl
noncomputable def qvo(r:List V)(σ : S)(v:Int):Option Res:=match r with
 |[]=>some (.ret (.dat (.lit (.int .i64 v))) σ)
 |_=>none
noncomputable def quQ(r:List V)(cs:List V)(n i:Nat)(v:Int):Option Res:=match r with
 |[.dat (.lit (.int .i64 w))]=>qvn (.dat (.lit (.int .i64 w))) cs i fun cs'=>cond (qoG cs') (some (.ret (.tup []) [.cells [.msl 1 0 n n 1,.gsl [.lit (.int .i64 (.ofNat i)),.lit (.int .i64 v)] 1 2 2,.dat (.lit (.int .i64 (.ofNat 0)))],.cells cs',.tip 2])) none
 |_=>none
noncomputable def quR(r:List V)(cs:List V)(n i:Nat)(v:Int)(lg:List D)(k:Nat):Option Res:=match r with
 |[.dat (.lit (.int .i64 w))]=>qvn (.dat (.lit (.int .i64 w))) cs i fun cs'=>apD [.lit (.int .i64 (.ofNat i)),.lit (.int .i64 v)] lg fun lg'=>qrs (k+1) fun k'=>qrs ((k+1)*2) fun t'=>cond (qoG cs') (some (.ret (.tup []) [.cells [.msl 1 0 n n 1,.gsl lg' k' 2 2,.dat (.lit (.int .i64 (.ofNat 0)))],.cells cs',.tip t'])) none
 |_=>none
noncomputable def qv7(set:Bool)(r:List V)(σ : S)(x:V)(τ : S)(cs:List V)(n i:Nat)(v:Int):Option Res:=match x,τ with
 |.dat (.lit (.slice none l c)),[]=>cond (Nat.beq l 0&&Nat.beq c 0) (cond set (quQ r cs n i v) (qvo r σ v)) none
 |.gsl lg k s l,[.tip t]=>cond (Nat.beq s 2&&Nat.beq l 2) (cond set (cond (Nat.beq t (k*2)&&(Nat.beq (qvQ lg) (k*2)&&Nat.ble k 1000000)) (quR r cs n i v lg k) none) (qvo r σ v)) none
 |_,_=>none
noncomputable def qtm(set:Bool)(args:List V)(σ : S):Option Res:=match args with
 |.ptr a b :: .dat (.lit (.int .i64 (.ofNat i)))::r=>match σ with
  |.cells [.msl p q n m s,x,.dat (.lit (.int .i64 (.ofNat z)))] :: .cells cs :: τ=>
   cond (Nat.beq a 0&&(Nat.beq b 0&&(Nat.beq p 1&&(Nat.beq q 0&&(Nat.beq n m&&(Nat.beq s 1&&(Nat.beq z 0&&(Nat.blt i n&&qoG cs))))))))
    (match qvP cs i with
     |some (.dat (.lit (.int .i64 v)))=>qv7 set r σ x τ cs n i v
     |_=>none) none
  |_=>none
 |_=>none
theorem qcY{b:Bool}{x:Option Res}{r:Res}(h:cond b x none=some r):b=true/\x=some r:=by cases b; cases h; exact⟨rfl,h⟩
theorem qpH{set:Bool}{args:List V}{σ : S}{r:Res}(h:qtm set args σ = some r):Z prX (.call (if set then 114 else 51) args σ)=some r:=by
 unfold qtm at h
 split at h
 ·rename_i a b i rest
  split at h
  ·rename_i p q n m s x z cs τ
   obtain⟨h1,h2⟩:=qcY h
   simp only[Bool.and_eq_true] at h1
   obtain⟨e1,e2,e3,e4,e5,e6,e7,e8,e9⟩:=h1
   obtain rfl:=Nat.eq_of_beq_eq_true e1
   obtain rfl:=Nat.eq_of_beq_eq_true e2
   obtain rfl:=Nat.eq_of_beq_eq_true e3
   obtain rfl:=Nat.eq_of_beq_eq_true e4
   obtain rfl:=Nat.eq_of_beq_eq_true e5
   obtain rfl:=Nat.eq_of_beq_eq_true e6
   obtain rfl:=Nat.eq_of_beq_eq_true e7
   have hi:i<n:=by simpa using e8
   have hd:=qfz e9
   split at h2
   ·rename_i v hv
    obtain⟨hl,hc⟩:=qnt hv
    unfold qv7 at h2
    split at h2
    ·obtain⟨f1,f2⟩:=qcY h2
     simp only[Bool.and_eq_true] at f1
     obtain rfl:=Nat.eq_of_beq_eq_true f1.1
     obtain rfl:=Nat.eq_of_beq_eq_true f1.2
     cases set with
     |false=>
      simp only[cond_false,qvo] at f2
      split at f2
      ·cases f2; exact quM hd hi hc
      ·cases f2
     |true=>
      simp only[cond_true,quQ] at f2
      split at f2
      ·rw[qke _ _ _ _ hl] at f2
       obtain⟨g1,g2⟩:=qcY f2
       cases g2
       exact quO hd (qfz g1) hi hl hc
      ·cases f2
    ·obtain⟨f1,f2⟩:=qcY h2
     simp only[Bool.and_eq_true] at f1
     obtain rfl:=Nat.eq_of_beq_eq_true f1.1
     obtain rfl:=Nat.eq_of_beq_eq_true f1.2
     cases set with
     |false=>
      simp only[cond_false,qvo] at f2
      split at f2
      ·cases f2; exact quN hd hi hc
      ·cases f2
     |true=>
      simp only[cond_true] at f2
      obtain⟨j1,j2⟩:=qcY f2
      simp only[Bool.and_eq_true] at j1
      obtain rfl:=Nat.eq_of_beq_eq_true j1.1
      have j3:=Nat.eq_of_beq_eq_true j1.2.1
      have j4:=Nat.le_of_ble_eq_true j1.2.2
      rw[qnu] at j3
      simp only[quR] at j2
      split at j2
      ·rw[qke _ _ _ _ hl,qpG,qfL,qfL] at j2
       obtain⟨g1,g2⟩:=qcY j2
       cases g2
       exact quP hd (qfz g1) hi hl j3 (by omega) hc
      ·cases j2
    ·cases h2
   ·cases h2
  ·cases h
 ·cases h
noncomputable def scL(L:List Kn)(t:Task):Option Res:=Task.rec (motive:=fun _=>Option Res)
 (fun f args σ => cond (Nat.beq f 51) (qtm false args σ) (cond (Nat.beq f 114) (qtm true args σ) (qkl f args σ L))) (fun _ _ _=>none) (fun _ _ _ _=>none) (fun _ _=>none) t
theorem qvR{L:List Kn}(hL : ∀ k∈L,k.ok prX):Le (scL L) (Z prX):=fun t r h=>by
 cases t with
 |call f args σ=>
  have h':cond (Nat.beq f 51) (qtm false args σ) (cond (Nat.beq f 114) (qtm true args σ) (qkl f args σ L))=some r:=h
  cases h1:Nat.beq f 51 with
  |true=>rw[h1] at h'; rw[Nat.eq_of_beq_eq_true h1]; exact qpH (set:=false) h'
  |false=>
   cases h2:Nat.beq f 114 with
   |true=>rw[h1,h2] at h'; rw[Nat.eq_of_beq_eq_true h2]; exact qpH (set:=true) h'
   |false=>rw[h1,h2] at h'; exact qnK prX hL h'
 |dcall f args σ => cases h
 |loop k b fr σ => cases h
 |round args σ => cases h
theorem qvS{L:List Kn}(hL : ∀ k∈L,k.ok prX){f:Nat}{args:List V}{σ : S}{v:V}{τ : S}(n:Nat)(h:qnI prX (scL L) n (.call f args σ)=some (.ret v τ)):(⟨f,args,σ,v,τ⟩:Kn).ok prX:=
 qnJ prX (qvR hL) n _ _ h
abbrev vi(n:Int):V := .dat (.lit (.int .i64 n))
abbrev di(n:Int):D := .lit (.int .i64 n)
def vs(l:List Int):List V:=l.map vi
def ds(l:List Int):List D:=l.map di
theorem qaD{L:List Kn}(hL : ∀ k∈L,k.ok prX){f:Nat}{args:List V}{σ : S}{v:V}{τ : S}(n:Nat)(h:(fVs args fun a=>fS σ fun s=>qnI prX (scL L) n (.call f a s))=some (.ret v τ)):(⟨f,args,σ,v,τ⟩:Kn).ok prX:=by
 rw[qb9,qni] at h
 exact qvS hL n h
end
end Go.Pm
section
set_option maxRecDepth 100000
namespace Go.Pm
open F
def qas:V:=(.dat (.lit (.slice none 0 0)))
def qdV:D:=(.sl [(di 512),(.lit (.slice none 0 0)),(di (-5400)),(di (-4000)),(di (-1200)),(di (-1200)),(di 1024),(di 0),(di 0)] 1 false)
def qdW:List D:=(ds [-12000,-9000,-1,9000,0,0,12000,9000,0,-9000,12000,-1])
def qmT:D:=(.sl [(.lit (.string ⟨#[]⟩)),(.lit (.string ⟨#[]⟩))] 2 false)
def qmU:D:=(.sl (ds [0,0,0,0]) 1 false)
def qlR:D:=(.sl (ds [0,0,-1,-1,0,0,0,-1,-1,0,0,0,-1,-1,0,0,0,-1,-1,0,0,0,-1,-1,0,0,0,-1,-1,0,0,0,-1,-1,0,0,0,-1,-1,0,0,0,-1,-1,0]) 9 false)
def qmV:D:=(.sl [(di 0),(di 0)] 2 false)
def qvM:V:=(.dat (.agg [(di 1),qdV,(di (-12000)),(di (-9000)),(di 12000),(di 9000),(.sl qdW 3 true),(.sl [] 0 true),(di 4000),(di 0),(di 0),(di 0),(di 0),(di 0),(di 1),(di 20),qmT,(.sl [(di 1)] 1 true),qmU,qlR,qmV,(.lit (.slice none 0 0)),(di 0)]))
def qbG:List D:=[(di 0),(.lit (.slice none 0 0)),(di (-1)),(di (-1)),(di (-1)),(di 1),(.lit (.slice none 0 0)),(di (-1)),(di (-1)),(di (-1))]
def qbI:Ob := .cells (vs [0,0,0,0,0,0,0,0,0,0,0,0,0,0,0,0,0,0,0,0,0,0,0,0,0,0,0,0,0,0,0,0,0,0,0,0,0,0,0,0,0,0,0,0,0,0,0,0,0,0,0,0,-5400,-4000,-1200,-1200,0,0,0,0])
def qgG:V:=(.dat (.sl [(di 1)] 1 false))
def qol:Ob := .cells [(vi 1),(.dat qdV),(vi (-12000)),(vi (-9000)),(vi 12000),(vi 9000),(.dat (.sl qdW 3 false)),(.dat (.sl [] 0 true)),(vi 4000),(vi 0),(vi 0),(vi 0),(vi 0),(vi 0),(vi 1),(vi 20),(.dat qmT),qgG,(.dat qmU),(.dat qlR),(.dat qmV),qas,(vi 0),(.ptr 1 0),(vi 0),(.ptr 2 0),(.ptr 3 0),(.ptr 4 0),(.msl 5 0 1 1 1),(.own 6 1 1),qas,(.own 7 1 1),(.mp 8)]
def qom:Ob := .cells [(vi 1),(vi 0),(.mp 10),qas]
def qmW:Ob := .cells [(vi 1),(.dat qdV),(vi (-12000)),(vi (-9000)),(vi 12000),(vi 9000),(.dat (.sl qdW 3 false)),(.dat (.sl [] 0 true)),(vi 4000),(vi 0),(vi 0),(vi 0),(vi 0),(vi 0),(vi 1),(vi 20),(.ptr 1 0),(.ptr 11 0)]
def qqC:Ob := .cells [(.msl 14 0 60 60 1),qas,(vi 0)]
def qub:Ob := .cells [(vi 1),(vi 0),(vi 12),(.ptr 19 0),(.ptr 20 0),(.mp 21),qas,(vi 0),qas,qas,(vi 0),(.ptr 22 0)]
def qj8:Ob := .cells (vs [0,0,0,0,0,0,0,0,0,0,0,0,0,0,0,0,0,0])
def qqD:Ob := .cells [(vi 1),(.dat qdV),(vi (-12000)),(vi (-9000)),(vi 12000),(vi 9000),(.dat (.sl qdW 3 false)),(.dat (.sl [] 0 true)),(vi 4000),(vi 0),(vi 0),(vi 0),(vi 0),(vi 0),(vi 1),(vi 20),(.ptr 1 0),(.ptr 24 0)]
def quc:Ob := .cells [(.ptr 24 0),(vi 12),qas]
def qqE:Ob := .cells [(vi 1),(.dat qdV),(vi (-12000)),(vi (-9000)),(vi 12000),(vi 9000),(.dat (.sl qdW 3 false)),(.dat (.sl [] 0 true)),(vi 4000),(vi 0),(vi 0),(vi 0),(vi 0),(vi 0),(vi 1),(vi 20),(.ptr 1 0),(.ptr 25 0)]
def qud:Ob := .cells [(.msl 26 0 60 60 1),qas,(vi 0)]
def qmX:Ob := .cells [(.msl 27 0 60 60 1),qas,(vi 0)]
def qqF:S:=[qol,.cells [(.gsl qbG 2 5 9)],qom,qmW,.cells [qas,qas],.cells [(vi 0)],.vec [(.ptr 12 0)],.vec [(.ptr 13 0)],.map [],.tip 10,.map [],qqC,.cells [(.ptr 15 0),(.ptr 16 0),(.ptr 17 0),(vi 0),(vi 0),qas,(vi 0),(vi 0),(vi 0),(.dat qlR),qas,qas,qas],.cells [(vi 0),(vi 0),(.fn 430 [] [(.ptr 18 0)])],qbI,qub,qj8,.cells [(.mp 23),(vi 0)],.cells (vs [0,0,0,0]),qqD,quc,.map [],qqE,.map [],qud,qmX,qbI,qbI]
def que:Ob := .cells [(vi 1),(vi 0),(.mp 11),qas]
def quf:Ob := .cells [(vi 1),(.dat qdV),(vi (-12000)),(vi (-9000)),(vi 12000),(vi 9000),(.dat (.sl qdW 3 false)),(.dat (.sl [] 0 true)),(vi 4000),(vi 0),(vi 0),(vi 0),(vi 0),(vi 0),(vi 1),(vi 20),(.ptr 2 0),(.ptr 12 0)]
def qon:Ob := .cells [(.msl 15 0 60 60 1),qas,(vi 0)]
def qug:Ob := .cells [(.ptr 16 0),(.ptr 17 0),(.ptr 18 0),(vi 0),(vi 0),qas,(vi 0),(vi 0),(vi 0),(.dat qlR),qas,qas,qas]
def quh:Ob := .cells [(vi 0),(vi 0),(.fn 430 [] [(.ptr 19 0)])]
def qui:Ob := .cells [(vi 1),(vi 0),(vi 12),(.ptr 20 0),(.ptr 21 0),(.mp 22),qas,(vi 0),qas,qas,(vi 0),(.ptr 23 0)]
def quj:Ob := .cells [(vi 1),(.dat qdV),(vi (-12000)),(vi (-9000)),(vi 12000),(vi 9000),(.dat (.sl qdW 3 false)),(.dat (.sl [] 0 true)),(vi 4000),(vi 0),(vi 0),(vi 0),(vi 0),(vi 0),(vi 1),(vi 20),(.ptr 2 0),(.ptr 25 0)]
def quk:Ob := .cells [(.ptr 25 0),(vi 12),qas]
def qul:Ob := .cells [(vi 1),(.dat qdV),(vi (-12000)),(vi (-9000)),(vi 12000),(vi 9000),(.dat (.sl qdW 3 false)),(.dat (.sl [] 0 true)),(vi 4000),(vi 0),(vi 0),(vi 0),(vi 0),(vi 0),(vi 1),(vi 20),(.ptr 2 0),(.ptr 26 0)]
def qoo:Ob := .cells [(.msl 28 0 60 60 1),qas,(vi 0)]
def qum:D:=(.sl (ds [0,-1,-1,0,1,-1,-1,0]) 2 false)
def qun:List D:=[(di 0),(di 0),(di 0),qum,(.lit (.slice none 0 0))]
def qdG:V:=(.dat (.agg (ds [-1,-1,0])))
def qop:Ob := .map [((.int .i64 0),qdG),((.int .i64 1),qdG)]
def qlS:Ob := .vec (vs [0,-1,-1,0,1,-1,-1,0])
def qj9:V:=(.dat (.sl (ds [0,0,0]) 1 false))
def qd1:Ob := .cells [(vi 1),(.dat qdV),(vi (-12000)),(vi (-9000)),(vi 12000),(vi 9000),(.dat (.sl qdW 3 false)),(.dat (.sl [] 0 true)),(vi 4000),(vi 0),(vi 0),(vi 0),(vi 0),(vi 0),(vi 1),(vi 20),(.ptr 1 0),(.ptr 2 0)]
def qgH:V:=(.tup [qas,(vi 11),(vi 0)])
def qoq:List D:=(ds [13,0,11,0,48,0,49,0,50,0,1,0,2,0,3,0,2,0,1,1,2,1,3,0,1,2,2,0,3,0,58,0,54,-1200,55,-1200,1,3,2,0,3,0,4,0,1,4,2,0,3,1,5,0,3,0,52,-5400,53,-4000,1,5,2,0,3,1,5,1024,2,0,1,6,2,1,3,0,59,0,0,0,1,7,2,0,3,0,4,0,5,0,6,0,7,0,8,0,9,0,10,0])
def qeM:Ob := .cells (vs [1,0,0,0,0,0,0,0,0,0,0,0,0,0,0,0,0,0,0,0,0,0,0,0,0,0,0,0,0,0,0,0,0,0,0,0,0,0,0,0,0,0,0,0,0,0,0,0,0,0,0,0,-6600,-5200,-1200,-1200,0,0,0,0])
def qup:S:=[qd1,.cells [(.gsl qbG 2 5 3)],.cells [(.msl 4 0 60 60 1),(.gsl qoq 49 2 5),(vi 0)],.tip 10,qeM,.tip 98]
def quq:Ob := .cells [(.ptr 16 0),(.ptr 17 0),(.ptr 18 0),(vi 0),(vi 2),(.own 19 2 4),(vi (-1)),(vi (-1)),(vi 0),(.dat (.sl [] 0 false)),qas,qas,qas]
def qur:Ob := .cells [(vi 1),(vi 0),(vi 12),(.ptr 21 0),(.ptr 22 0),(.mp 23),qas,(vi 0),qas,qas,(vi 0),(.ptr 24 0)]
def qus:Ob := .cells [(vi 1),(.dat qdV),(vi (-12000)),(vi (-9000)),(vi 12000),(vi 9000),(.dat (.sl qdW 3 false)),(.dat (.sl [] 0 true)),(vi 4000),(vi 0),(vi 0),(vi 0),(vi 0),(vi 0),(vi 1),(vi 20),(.ptr 1 0),(.ptr 26 0)]
def qut:Ob := .cells [(.ptr 26 0),(vi 12),qas]
def quu:Ob := .cells [(vi 1),(.dat qdV),(vi (-12000)),(vi (-9000)),(vi 12000),(vi 9000),(.dat (.sl qdW 3 false)),(.dat (.sl [] 0 true)),(vi 4000),(vi 0),(vi 0),(vi 0),(vi 0),(vi 0),(vi 1),(vi 20),(.ptr 1 0),(.ptr 27 0)]
def quv:Ob := .cells [(.msl 29 0 60 60 1),qas,(vi 0)]
def quw:List D:=[(di 0),(di 0),(di 0),(di 0),(di 0),(di 0),(di 0),(di 0),(di 0),(di 0),(di 0),(di 0),(di 0),(di 0),(di 0),(di 0),(di 0),(di 0),(di 0),(di 0),(di 0),(di 0),(di 0),(di 0),(.lit (.bool true)),(.lit (.bool false)),(.lit (.bool false)),(.lit (.bool false)),(.lit (.bool false)),(.lit (.bool false)),(.lit (.bool false)),(.lit (.bool false))]
def qux:List D:=[(.lit (.int .u8 1)),(.lit (.int .u8 117)),(.lit (.int .u8 59)),(.lit (.int .u8 159)),(.lit (.int .u8 26)),(.lit (.int .u8 114)),(.lit (.int .u8 127)),(.lit (.int .u8 31)),(.lit (.int .u8 224)),(.lit (.int .u8 4))]
def qmY:List D:=[(.sl (ds [0,0,0]) 1 false)]
def quy:List D:=[(di 0),(di 0),(di 0),qum,(.lit (.slice none 0 0)),(di 0),(di 1),(di 0),(.lit (.slice none 0 0)),(.sl qmY 1 false)]
def qlT:Ob := .cells [(vi 1),(.dat qdV),(vi (-12000)),(vi (-9000)),(vi 12000),(vi 9000),(.dat (.sl qdW 3 false)),(.dat (.sl [] 0 true)),(vi 4000),(vi 0),(vi 0),(vi 0),(vi 0),(vi 0),(vi 1),(vi 20),(.dat qmT),qgG,(.dat qmU),(.dat qlR),(.dat qmV),qas,(vi 0),(.ptr 1 0),(vi 1),(.ptr 2 0),(.ptr 3 0),(.ptr 4 0),(.msl 5 0 1 1 1),(.own 6 1 1),qas,(.own 7 1 1),(.mp 8)]
def qmZ:Ob := .cells [(vi 1),(vi 0),(.mp 10),(.gsl quw 1 32 11)]
def qbu:Ob := .cells [(vi 1),(.dat qdV),(vi (-12000)),(vi (-9000)),(vi 12000),(vi 9000),(.dat (.sl qdW 3 false)),(.dat (.sl [] 0 true)),(vi 4000),(vi 0),(vi 0),(vi 0),(vi 0),(vi 0),(vi 1),(vi 20),(.ptr 1 0),(.ptr 12 0)]
def qm0:Ob := .cells [(.gsl qux 10 1 13),(.gsl [(di 9),(di 10)] 1 2 14)]
def qqG:Ob := .cells [(.msl 18 0 60 60 1),qas,(vi 49)]
def quz:Ob := .cells [(.ptr 19 0),(.ptr 20 0),(.ptr 21 0),(vi 0),(vi 2),(.own 22 2 4),(vi (-1)),(vi (-1)),(vi 0),(.dat (.sl [] 0 false)),qas,qas,qas]
def quA:Ob := .cells [(vi 1),(vi 1),(.fn 430 [] [(.ptr 23 0)])]
def qor:Ob := .cells [(vi 1),(.dat qdV),(vi (-12000)),(vi (-9000)),(vi 12000),(vi 9000),(.dat (.sl qdW 3 false)),(.dat (.sl [] 0 true)),(vi 4000),(vi 0),(vi 0),(vi 0),(vi 0),(vi 0),(vi 1),(vi 20),(.ptr 1 0),(.ptr 29 0)]
def qqH:Ob := .cells [(.ptr 29 0),(vi 12),qas]
def qos:Ob := .cells [(vi 1),(.dat qdV),(vi (-12000)),(vi (-9000)),(vi 12000),(vi 9000),(.dat (.sl qdW 3 false)),(.dat (.sl [] 0 true)),(vi 4000),(vi 0),(vi 0),(vi 0),(vi 0),(vi 0),(vi 1),(vi 20),(.ptr 1 0),(.ptr 30 0)]
def qqI:Ob := .cells [(.msl 31 0 60 60 1),qas,(vi 0)]
def qot:Ob := .cells [(.msl 32 0 60 60 1),qas,(vi 0)]
def qm1:V:=(.dat (.agg [(di (-1)),(di (-1)),(di 0),(.lit (.bool true)),(di 0),(di 0),(di 0),(.lit (.bool false)),(di 0),(di 0),(di 0),(.lit (.bool false)),(di 0),(di 0),(di 0),(.lit (.bool false)),(di 0),(di 0),(di 0),(.lit (.bool false)),(di 0),(di 0),(di 0),(.lit (.bool false)),(di 0),(di 0),(di 0),(.lit (.bool false)),(di 0),(di 0),(di 0),(.lit (.bool false))]))
def qou:Ob := .map [((.int .i64 1),qm1)]
def qlU:Ob := .cells (vs [1,0,0,0,0,0,0,0,0,0,0,0,0,0,0,0,1,1])
def quB:Ob := .map [((.int .i64 1),qdG)]
def quC:Ob := .cells [(.msl 17 0 60 60 1),qas,(vi 49)]
def quD:D:=(.sl (ds [1,-1,-1,0,2,-1,-1,0]) 2 false)
def quE:List D:=[(di 0),(di 0),(di 1),quD,(.lit (.slice none 0 0))]
def qov:Ob := .map [((.int .i64 1),qdG),((.int .i64 2),qdG)]
def qlV:Ob := .vec (vs [1,-1,-1,0,2,-1,-1,0])
def qaN:D:=(.sl (ds [-1,-1,0]) 1 false)
def qed:Ob := .cells (vs [2,0,0,0,0,0,0,0,0,0,0,0,0,1,0,0,0,0,0,0,0,0,0,0,0,0,0,0,0,0,0,0,0,0,0,0,0,0,0,0,0,0,0,0,0,0,0,0,-1,-1,0,0,-7800,-6400,-1200,-1200,0,0,0,0])
def qow:Ob := .cells [(.ptr 19 0),(.ptr 20 0),(.ptr 21 0),(vi 1),(vi 3),(.own 22 2 4),(vi (-1)),(vi (-1)),(vi 0),(.dat (.sl [] 0 false)),qas,qas,qas]
def qqJ:Ob := .cells [(vi 1),(vi 0),(vi 12),(.ptr 24 0),(.ptr 25 0),(.mp 26),(.gsl qmY 1 1 27),(vi 1),(.vw 28 1 1 0 1),(.own 29 1 1),(vi 0),(.ptr 30 0)]
def qcW:Ob := .cells [(vi 1),(.dat qdV),(vi (-12000)),(vi (-9000)),(vi 12000),(vi 9000),(.dat (.sl qdW 3 false)),(.dat (.sl [] 0 true)),(vi 4000),(vi 0),(vi 0),(vi 0),(vi 0),(vi 0),(vi 1),(vi 20),(.ptr 1 0),(.ptr 32 0)]
def qox:Ob := .cells [(.ptr 32 0),(vi 12),(.gsl [(di 0),(di 0)] 1 2 33)]
def qcX:Ob := .cells [(vi 1),(.dat qdV),(vi (-12000)),(vi (-9000)),(vi 12000),(vi 9000),(.dat (.sl qdW 3 false)),(.dat (.sl [] 0 true)),(vi 4000),(vi 0),(vi 0),(vi 0),(vi 0),(vi 0),(vi 1),(vi 20),(.ptr 1 0),(.ptr 34 0)]
def qoy:Ob := .cells [(.msl 35 0 60 60 1),(.gsl qoq 49 2 36),(vi 0)]
def qc9:Ob := .cells [(.msl 37 0 60 60 1),qas,(vi 0)]
def qlW:Ob := .cells [(vi 1),(vi 0),(.mp 10),(.gsl [(di 0),(di 0),(di 0),(di 0),(di 0),(di 0),(di 0),(di 0),(di 0),(di 0),(di 0),(di 0),(di 0),(di 0),(di 0),(di 0),(di 0),(di 0),(di 0),(di 0),(di 0),(di 0),(di 0),(di 0),(.lit (.bool true)),(.lit (.bool false)),(.lit (.bool false)),(.lit (.bool false)),(.lit (.bool false)),(.lit (.bool false)),(.lit (.bool false)),(.lit (.bool false)),(di (-1)),(di (-1)),(di 0),(di 0),(di 0),(di 0),(di 0),(di 0),(di 0),(di 0),(di 0),(di 0),(di 0),(di 0),(di 0),(di 0),(di 0),(di 0),(di 0),(di 0),(di 0),(di 0),(di 0),(di 0),(.lit (.bool false)),(.lit (.bool false)),(.lit (.bool false)),(.lit (.bool false)),(.lit (.bool false)),(.lit (.bool false)),(.lit (.bool false)),(.lit (.bool false))] 2 32 11)]
def qlX:Ob := .cells [(.gsl [(.lit (.int .u8 1)),(.lit (.int .u8 117)),(.lit (.int .u8 59)),(.lit (.int .u8 159)),(.lit (.int .u8 26)),(.lit (.int .u8 114)),(.lit (.int .u8 127)),(.lit (.int .u8 31)),(.lit (.int .u8 224)),(.lit (.int .u8 4)),(.lit (.int .u8 1)),(.lit (.int .u8 33)),(.lit (.int .u8 40)),(.lit (.int .u8 69)),(.lit (.int .u8 226)),(.lit (.int .u8 171)),(.lit (.int .u8 244)),(.lit (.int .u8 192)),(.lit (.int .u8 13)),(.lit (.int .u8 0))] 20 1 13),(.gsl (ds [9,10,19,20]) 2 2 14)]
def qm2:List D:=[(.sl (ds [0,0,0]) 1 false),qaN]
def quF:Ob := .map [((.int .i64 2),(.agg [(.gsl [(di 0),(di 0),(di 1),quD,(.lit (.slice none 0 0)),(di 0),(di 1),(di 0),(.lit (.slice none 0 0)),(.sl qm2 2 false)] 2 5 17),qas]))]
def qoz:Ob := .cells [(.msl 18 0 60 60 1),qas,(vi 98)]
def qqK:Ob := .cells [(vi 2),(vi 2),(.fn 430 [] [(.ptr 23 0)])]
def qlY:Ob := .cells [(vi 1),(.dat qdV),(vi (-12000)),(vi (-9000)),(vi 12000),(vi 9000),(.dat (.sl qdW 3 false)),(.dat (.sl [] 0 true)),(vi 4000),(vi 0),(vi 0),(vi 0),(vi 0),(vi 0),(vi 1),(vi 20),(.dat qmT),qgG,(.dat qmU),(.dat qlR),(.dat qmV),qas,(vi 0),(.ptr 1 0),(vi 2),(.ptr 2 0),(.ptr 3 0),(.ptr 4 0),(.msl 5 0 1 1 1),(.own 6 1 1),qas,(.own 7 1 1),(.mp 8)]
def qoA:Ob := .map [((.int .i64 2),qm1)]
def qlZ:Ob := .cells (vs [1,1,0,0,0,0,0,0,0,0,0,0,0,0,0,0,2,2])
def quG:Ob := .map [((.int .i64 2),qdG)]
def qqL:List D:=(ds [13,0,11,0,48,0,49,0,50,0,1,0,2,0,3,0,2,0,1,1,2,1,3,0,1,2,2,0,3,0,58,0,54,-1200,55,-1200,1,3,2,0,3,0,4,0,1,4,2,0,3,1,5,0,3,0,52,-5400,53,-4000,1,5,2,0,3,1,5,1024,2,0,1,6,2,1,3,0,59,0,0,0,1,7,2,0,3,0,4,0,5,0,6,0,7,0,8,0,9,0,10,0,13,0,11,0,48,0,49,0,50,0,1,0,2,0,3,0,2,0,1,1,2,1,3,0,1,2,2,0,3,0,58,0,54,-1200,55,-1200,1,3,2,0,3,0,4,0,1,4,2,0,3,1,5,0,3,0,52,-6600,53,-5200,1,5,2,0,3,1,5,1024,2,0,1,6,2,1,3,0,59,0,0,1,1,7,2,0,3,0,4,0,5,0,6,0,7,0,8,0,9,0,10,0])
def quH:S:=[qd1,.cells [(.gsl qbG 2 5 3)],.cells [(.msl 4 0 60 60 1),(.gsl qqL 98 2 5),(vi 0)],.tip 10,qed,.tip 196]
def quI:Ob := .cells [(.msl 17 0 60 60 1),qas,(vi 98)]
def qjh:Ob := .cells [(vi 1),(.dat qdV),(vi (-12000)),(vi (-9000)),(vi 12000),(vi 9000),(.dat (.sl qdW 3 false)),(.dat (.sl [] 0 true)),(vi 4000),(vi 0),(vi 0),(vi 0),(vi 0),(vi 0),(vi 1),(vi 20),(.ptr 1 0),(.ptr 31 0)]
def qji:Ob := .cells [(vi 1),(.dat qdV),(vi (-12000)),(vi (-9000)),(vi 12000),(vi 9000),(.dat (.sl qdW 3 false)),(.dat (.sl [] 0 true)),(vi 4000),(vi 0),(vi 0),(vi 0),(vi 0),(vi 0),(vi 1),(vi 20),(.ptr 1 0),(.ptr 33 0)]
def qjj:Ob := .cells [(.msl 36 0 60 60 1),qas,(vi 0)]
def qo2:D:=(.sl (ds [2,-1,-1,0,3,-1,-1,0]) 2 false)
def qo3:List D:=[(di 0),(di 0),(di 2),qo2,(.lit (.slice none 0 0))]
def qo4:Ob := .cells [(.ptr 31 0),(vi 12),(.gsl (ds [0,0,1,49]) 2 2 32)]
def qkM:Ob := .map [((.int .i64 2),qdG),((.int .i64 3),qdG)]
def qo5:Ob := .cells [(.msl 34 0 60 60 1),(.gsl qqL 98 2 35),(vi 0)]
def qgZ:Ob := .vec (vs [2,-1,-1,0,3,-1,-1,0])
def qcm:Ob := .cells (vs [3,0,0,0,0,0,0,0,0,0,0,0,0,1,0,0,0,0,0,0,0,0,0,0,0,0,0,0,0,0,0,0,0,0,0,0,0,0,0,0,0,0,0,0,0,0,0,0,-1,-1,0,0,-9000,-7600,-1200,-1200,0,0,0,0])
def qkN:Ob := .cells [(.ptr 19 0),(.ptr 20 0),(.ptr 21 0),(vi 2),(vi 4),(.own 22 2 4),(vi (-1)),(vi (-1)),(vi 0),(.dat (.sl [] 0 false)),qas,qas,qas]
def qm3:Ob := .cells [(vi 1),(vi 0),(vi 12),(.ptr 24 0),(.ptr 25 0),(.mp 26),(.gsl qm2 2 1 27),(vi 2),(.vw 28 1 1 0 1),(.own 29 2 1),(vi 0),(.ptr 30 0)]
def qkO:Ob := .cells [(.ptr 32 0),(vi 12),(.gsl (ds [0,0,1,49]) 2 2 33)]
def qkP:Ob := .cells [(.msl 35 0 60 60 1),(.gsl qqL 98 2 36),(vi 0)]
def qg0:Ob := .cells [(vi 1),(vi 0),(.mp 10),(.gsl [(di 0),(di 0),(di 0),(di 0),(di 0),(di 0),(di 0),(di 0),(di 0),(di 0),(di 0),(di 0),(di 0),(di 0),(di 0),(di 0),(di 0),(di 0),(di 0),(di 0),(di 0),(di 0),(di 0),(di 0),(.lit (.bool true)),(.lit (.bool false)),(.lit (.bool false)),(.lit (.bool false)),(.lit (.bool false)),(.lit (.bool false)),(.lit (.bool false)),(.lit (.bool false)),(di (-1)),(di (-1)),(di 0),(di 0),(di 0),(di 0),(di 0),(di 0),(di 0),(di 0),(di 0),(di 0),(di 0),(di 0),(di 0),(di 0),(di 0),(di 0),(di 0),(di 0),(di 0),(di 0),(di 0),(di 0),(.lit (.bool false)),(.lit (.bool false)),(.lit (.bool false)),(.lit (.bool false)),(.lit (.bool false)),(.lit (.bool false)),(.lit (.bool false)),(.lit (.bool false)),(di (-1)),(di (-1)),(di 0),(di 0),(di 0),(di 0),(di 0),(di 0),(di 0),(di 0),(di 0),(di 0),(di 0),(di 0),(di 0),(di 0),(di 0),(di 0),(di 0),(di 0),(di 0),(di 0),(di 0),(di 0),(.lit (.bool false)),(.lit (.bool false)),(.lit (.bool false)),(.lit (.bool false)),(.lit (.bool false)),(.lit (.bool false)),(.lit (.bool false)),(.lit (.bool false))] 3 32 11)]
def qg1:Ob := .cells [(.gsl [(.lit (.int .u8 1)),(.lit (.int .u8 117)),(.lit (.int .u8 59)),(.lit (.int .u8 159)),(.lit (.int .u8 26)),(.lit (.int .u8 114)),(.lit (.int .u8 127)),(.lit (.int .u8 31)),(.lit (.int .u8 224)),(.lit (.int .u8 4)),(.lit (.int .u8 1)),(.lit (.int .u8 33)),(.lit (.int .u8 40)),(.lit (.int .u8 69)),(.lit (.int .u8 226)),(.lit (.int .u8 171)),(.lit (.int .u8 244)),(.lit (.int .u8 192)),(.lit (.int .u8 13)),(.lit (.int .u8 0)),(.lit (.int .u8 1)),(.lit (.int .u8 33)),(.lit (.int .u8 40)),(.lit (.int .u8 69)),(.lit (.int .u8 226)),(.lit (.int .u8 171)),(.lit (.int .u8 244)),(.lit (.int .u8 192)),(.lit (.int .u8 13)),(.lit (.int .u8 0))] 30 1 13),(.gsl (ds [9,10,19,20,29,30]) 3 2 14)]
def qo6:Ob := .map [((.int .i64 3),(.agg [(.gsl [(di 0),(di 0),(di 2),qo2,(.lit (.slice none 0 0)),(di 0),(di 1),(di 1),(.lit (.slice none 0 0)),(.sl [qaN,qaN] 2 false)] 2 5 17),qas]))]
def qkQ:Ob := .cells [(.msl 18 0 60 60 1),qas,(vi 147)]
def qm4:Ob := .cells [(vi 3),(vi 3),(.fn 430 [] [(.ptr 23 0)])]
def qg2:Ob := .cells [(vi 1),(.dat qdV),(vi (-12000)),(vi (-9000)),(vi 12000),(vi 9000),(.dat (.sl qdW 3 false)),(.dat (.sl [] 0 true)),(vi 4000),(vi 0),(vi 0),(vi 0),(vi 0),(vi 0),(vi 1),(vi 20),(.dat qmT),qgG,(.dat qmU),(.dat qlR),(.dat qmV),qas,(vi 0),(.ptr 1 0),(vi 3),(.ptr 2 0),(.ptr 3 0),(.ptr 4 0),(.msl 5 0 1 1 1),(.own 6 1 1),qas,(.own 7 1 1),(.mp 8)]
def qkR:Ob := .map [((.int .i64 3),qm1)]
def qkS:List D:=[(.sl (ds [0,0,0]) 1 false),qaN,qaN]
def qg3:Ob := .cells (vs [1,1,1,0,0,0,0,0,0,0,0,0,0,0,0,0,3,3])
def qo7:Ob := .map [((.int .i64 3),qdG)]
def qm5:List D:=(ds [13,0,11,0,48,0,49,0,50,0,1,0,2,0,3,0,2,0,1,1,2,1,3,0,1,2,2,0,3,0,58,0,54,-1200,55,-1200,1,3,2,0,3,0,4,0,1,4,2,0,3,1,5,0,3,0,52,-5400,53,-4000,1,5,2,0,3,1,5,1024,2,0,1,6,2,1,3,0,59,0,0,0,1,7,2,0,3,0,4,0,5,0,6,0,7,0,8,0,9,0,10,0,13,0,11,0,48,0,49,0,50,0,1,0,2,0,3,0,2,0,1,1,2,1,3,0,1,2,2,0,3,0,58,0,54,-1200,55,-1200,1,3,2,0,3,0,4,0,1,4,2,0,3,1,5,0,3,0,52,-6600,53,-5200,1,5,2,0,3,1,5,1024,2,0,1,6,2,1,3,0,59,0,0,1,1,7,2,0,3,0,4,0,5,0,6,0,7,0,8,0,9,0,10,0,13,1,11,0,48,-1,49,-1,50,0,1,0,2,0,3,0,2,0,1,1,2,1,3,0,1,2,2,0,3,0,58,0,54,-1200,55,-1200,1,3,2,0,3,0,4,0,1,4,2,0,3,1,5,0,3,0,52,-7800,53,-6400,1,5,2,0,3,1,5,1024,2,0,1,6,2,1,3,0,59,0,0,2,1,7,2,0,3,0,4,0,5,0,6,0,7,0,8,0,9,0,10,0])
def qo8:S:=[qd1,.cells [(.gsl qbG 2 5 3)],.cells [(.msl 4 0 60 60 1),(.gsl qm5 147 2 5),(vi 0)],.tip 10,qcm,.tip 294]
def qo9:Ob := .cells [(.msl 17 0 60 60 1),qas,(vi 147)]
def qpa:D:=(.sl (ds [3,-1,-1,0,4,-1,-1,0]) 2 false)
def qpb:List D:=[(di 0),(di 0),(di 3),qpa,(.lit (.slice none 0 0))]
def qpc:Ob := .cells [(.ptr 31 0),(vi 12),(.gsl (ds [0,0,1,49,2,98]) 3 2 32)]
def qkT:Ob := .map [((.int .i64 3),qdG),((.int .i64 4),qdG)]
def qpd:Ob := .cells [(.msl 34 0 60 60 1),(.gsl qm5 147 2 35),(vi 0)]
def qg4:Ob := .vec (vs [3,-1,-1,0,4,-1,-1,0])
def qcn:Ob := .cells (vs [4,0,0,0,0,0,0,0,0,0,0,0,0,1,0,0,0,0,0,0,0,0,0,0,0,0,0,0,0,0,0,0,0,0,0,0,0,0,0,0,0,0,0,0,0,0,0,0,-1,-1,0,0,-10200,-8800,-1200,-1200,0,0,0,0])
def qkU:Ob := .cells [(.ptr 19 0),(.ptr 20 0),(.ptr 21 0),(vi 3),(vi 5),(.own 22 2 4),(vi (-1)),(vi (-1)),(vi 0),(.dat (.sl [] 0 false)),qas,qas,qas]
def qm6:Ob := .cells [(vi 1),(vi 0),(vi 12),(.ptr 24 0),(.ptr 25 0),(.mp 26),(.gsl qkS 3 1 27),(vi 3),(.vw 28 1 1 0 1),(.own 29 3 1),(vi 0),(.ptr 30 0)]
def qkV:Ob := .cells [(.ptr 32 0),(vi 12),(.gsl (ds [0,0,1,49,2,98]) 3 2 33)]
def qkW:Ob := .cells [(.msl 35 0 60 60 1),(.gsl qm5 147 2 36),(vi 0)]
def qg5:Ob := .cells [(vi 1),(vi 0),(.mp 10),(.gsl [(di 0),(di 0),(di 0),(di 0),(di 0),(di 0),(di 0),(di 0),(di 0),(di 0),(di 0),(di 0),(di 0),(di 0),(di 0),(di 0),(di 0),(di 0),(di 0),(di 0),(di 0),(di 0),(di 0),(di 0),(.lit (.bool true)),(.lit (.bool false)),(.lit (.bool false)),(.lit (.bool false)),(.lit (.bool false)),(.lit (.bool false)),(.lit (.bool false)),(.lit (.bool false)),(di (-1)),(di (-1)),(di 0),(di 0),(di 0),(di 0),(di 0),(di 0),(di 0),(di 0),(di 0),(di 0),(di 0),(di 0),(di 0),(di 0),(di 0),(di 0),(di 0),(di 0),(di 0),(di 0),(di 0),(di 0),(.lit (.bool false)),(.lit (.bool false)),(.lit (.bool false)),(.lit (.bool false)),(.lit (.bool false)),(.lit (.bool false)),(.lit (.bool false)),(.lit (.bool false)),(di (-1)),(di (-1)),(di 0),(di 0),(di 0),(di 0),(di 0),(di 0),(di 0),(di 0),(di 0),(di 0),(di 0),(di 0),(di 0),(di 0),(di 0),(di 0),(di 0),(di 0),(di 0),(di 0),(di 0),(di 0),(.lit (.bool false)),(.lit (.bool false)),(.lit (.bool false)),(.lit (.bool false)),(.lit (.bool false)),(.lit (.bool false)),(.lit (.bool false)),(.lit (.bool false)),(di (-1)),(di (-1)),(di 0),(di 0),(di 0),(di 0),(di 0),(di 0),(di 0),(di 0),(di 0),(di 0),(di 0),(di 0),(di 0),(di 0),(di 0),(di 0),(di 0),(di 0),(di 0),(di 0),(di 0),(di 0),(.lit (.bool false)),(.lit (.bool false)),(.lit (.bool false)),(.lit (.bool false)),(.lit (.bool false)),(.lit (.bool false)),(.lit (.bool false)),(.lit (.bool false))] 4 32 11)]
def qg6:Ob := .cells [(.gsl [(.lit (.int .u8 1)),(.lit (.int .u8 117)),(.lit (.int .u8 59)),(.lit (.int .u8 159)),(.lit (.int .u8 26)),(.lit (.int .u8 114)),(.lit (.int .u8 127)),(.lit (.int .u8 31)),(.lit (.int .u8 224)),(.lit (.int .u8 4)),(.lit (.int .u8 1)),(.lit (.int .u8 33)),(.lit (.int .u8 40)),(.lit (.int .u8 69)),(.lit (.int .u8 226)),(.lit (.int .u8 171)),(.lit (.int .u8 244)),(.lit (.int .u8 192)),(.lit (.int .u8 13)),(.lit (.int .u8 0)),(.lit (.int .u8 1)),(.lit (.int .u8 33)),(.lit (.int .u8 40)),(.lit (.int .u8 69)),(.lit (.int .u8 226)),(.lit (.int .u8 171)),(.lit (.int .u8 244)),(.lit (.int .u8 192)),(.lit (.int .u8 13)),(.lit (.int .u8 0)),(.lit (.int .u8 1)),(.lit (.int .u8 33)),(.lit (.int .u8 40)),(.lit (.int .u8 69)),(.lit (.int .u8 226)),(.lit (.int .u8 171)),(.lit (.int .u8 244)),(.lit (.int .u8 192)),(.lit (.int .u8 13)),(.lit (.int .u8 0))] 40 1 13),(.gsl (ds [9,10,19,20,29,30,39,40]) 4 2 14)]
def qpe:Ob := .map [((.int .i64 4),(.agg [(.gsl [(di 0),(di 0),(di 3),qpa,(.lit (.slice none 0 0)),(di 0),(di 1),(di 2),(.lit (.slice none 0 0)),(.sl [qaN,qaN] 2 false)] 2 5 17),qas]))]
def qkX:Ob := .cells [(.msl 18 0 60 60 1),qas,(vi 196)]
def qm7:Ob := .cells [(vi 4),(vi 4),(.fn 430 [] [(.ptr 23 0)])]
def qg7:Ob := .cells [(vi 1),(.dat qdV),(vi (-12000)),(vi (-9000)),(vi 12000),(vi 9000),(.dat (.sl qdW 3 false)),(.dat (.sl [] 0 true)),(vi 4000),(vi 0),(vi 0),(vi 0),(vi 0),(vi 0),(vi 1),(vi 20),(.dat qmT),qgG,(.dat qmU),(.dat qlR),(.dat qmV),qas,(vi 0),(.ptr 1 0),(vi 4),(.ptr 2 0),(.ptr 3 0),(.ptr 4 0),(.msl 5 0 1 1 1),(.own 6 1 1),qas,(.own 7 1 1),(.mp 8)]
def qkY:Ob := .map [((.int .i64 4),qm1)]
def qkZ:List D:=[(.sl (ds [0,0,0]) 1 false),qaN,qaN,qaN]
def qg8:Ob := .cells (vs [1,1,1,1,0,0,0,0,0,0,0,0,0,0,0,0,4,4])
def qpf:Ob := .map [((.int .i64 4),qdG)]
def qm8:List D:=(ds [13,0,11,0,48,0,49,0,50,0,1,0,2,0,3,0,2,0,1,1,2,1,3,0,1,2,2,0,3,0,58,0,54,-1200,55,-1200,1,3,2,0,3,0,4,0,1,4,2,0,3,1,5,0,3,0,52,-5400,53,-4000,1,5,2,0,3,1,5,1024,2,0,1,6,2,1,3,0,59,0,0,0,1,7,2,0,3,0,4,0,5,0,6,0,7,0,8,0,9,0,10,0,13,0,11,0,48,0,49,0,50,0,1,0,2,0,3,0,2,0,1,1,2,1,3,0,1,2,2,0,3,0,58,0,54,-1200,55,-1200,1,3,2,0,3,0,4,0,1,4,2,0,3,1,5,0,3,0,52,-6600,53,-5200,1,5,2,0,3,1,5,1024,2,0,1,6,2,1,3,0,59,0,0,1,1,7,2,0,3,0,4,0,5,0,6,0,7,0,8,0,9,0,10,0,13,1,11,0,48,-1,49,-1,50,0,1,0,2,0,3,0,2,0,1,1,2,1,3,0,1,2,2,0,3,0,58,0,54,-1200,55,-1200,1,3,2,0,3,0,4,0,1,4,2,0,3,1,5,0,3,0,52,-7800,53,-6400,1,5,2,0,3,1,5,1024,2,0,1,6,2,1,3,0,59,0,0,2,1,7,2,0,3,0,4,0,5,0,6,0,7,0,8,0,9,0,10,0,13,1,11,0,48,-1,49,-1,50,0,1,0,2,0,3,0,2,0,1,1,2,1,3,0,1,2,2,0,3,0,58,0,54,-1200,55,-1200,1,3,2,0,3,0,4,0,1,4,2,0,3,1,5,0,3,0,52,-9000,53,-7600,1,5,2,0,3,1,5,1024,2,0,1,6,2,1,3,0,59,0,0,3,1,7,2,0,3,0,4,0,5,0,6,0,7,0,8,0,9,0,10,0])
def qpg:S:=[qd1,.cells [(.gsl qbG 2 5 3)],.cells [(.msl 4 0 60 60 1),(.gsl qm8 196 2 5),(vi 0)],.tip 10,qcn,.tip 392]
def qph:Ob := .cells [(.msl 17 0 60 60 1),qas,(vi 196)]
def qpi:D:=(.sl (ds [4,-1,-1,0,5,-1,-1,0]) 2 false)
def qpj:List D:=[(di 0),(di 0),(di 4),qpi,(.lit (.slice none 0 0))]
def qpk:Ob := .cells [(.ptr 31 0),(vi 12),(.gsl (ds [0,0,1,49,2,98,3,147]) 4 2 32)]
def qk0:Ob := .map [((.int .i64 4),qdG),((.int .i64 5),qdG)]
def qpl:Ob := .cells [(.msl 34 0 60 60 1),(.gsl qm8 196 2 35),(vi 0)]
def qg9:Ob := .vec (vs [4,-1,-1,0,5,-1,-1,0])
def qbH:Ob := .cells (vs [5,0,0,0,0,0,0,0,0,0,0,0,0,1,0,0,0,0,0,0,0,0,0,0,0,0,0,0,0,0,0,0,0,0,0,0,0,0,0,0,0,0,0,0,0,0,0,0,-1,-1,0,0,-11400,-9000,-1200,0,0,0,0,0])
def qk1:Ob := .cells [(.ptr 19 0),(.ptr 20 0),(.ptr 21 0),(vi 4),(vi 6),(.own 22 2 4),(vi (-1)),(vi (-1)),(vi 0),(.dat (.sl [] 0 false)),qas,qas,qas]
def qm9:Ob := .cells [(vi 1),(vi 0),(vi 12),(.ptr 24 0),(.ptr 25 0),(.mp 26),(.gsl qkZ 4 1 27),(vi 4),(.vw 28 1 1 0 1),(.own 29 4 1),(vi 0),(.ptr 30 0)]
def qk2:Ob := .cells [(.ptr 32 0),(vi 12),(.gsl (ds [0,0,1,49,2,98,3,147]) 4 2 33)]
def qk3:Ob := .cells [(.msl 35 0 60 60 1),(.gsl qm8 196 2 36),(vi 0)]
def qha:Ob := .cells [(vi 1),(vi 0),(.mp 10),(.gsl [(di 0),(di 0),(di 0),(di 0),(di 0),(di 0),(di 0),(di 0),(di 0),(di 0),(di 0),(di 0),(di 0),(di 0),(di 0),(di 0),(di 0),(di 0),(di 0),(di 0),(di 0),(di 0),(di 0),(di 0),(.lit (.bool true)),(.lit (.bool false)),(.lit (.bool false)),(.lit (.bool false)),(.lit (.bool false)),(.lit (.bool false)),(.lit (.bool false)),(.lit (.bool false)),(di (-1)),(di (-1)),(di 0),(di 0),(di 0),(di 0),(di 0),(di 0),(di 0),(di 0),(di 0),(di 0),(di 0),(di 0),(di 0),(di 0),(di 0),(di 0),(di 0),(di 0),(di 0),(di 0),(di 0),(di 0),(.lit (.bool false)),(.lit (.bool false)),(.lit (.bool false)),(.lit (.bool false)),(.lit (.bool false)),(.lit (.bool false)),(.lit (.bool false)),(.lit (.bool false)),(di (-1)),(di (-1)),(di 0),(di 0),(di 0),(di 0),(di 0),(di 0),(di 0),(di 0),(di 0),(di 0),(di 0),(di 0),(di 0),(di 0),(di 0),(di 0),(di 0),(di 0),(di 0),(di 0),(di 0),(di 0),(.lit (.bool false)),(.lit (.bool false)),(.lit (.bool false)),(.lit (.bool false)),(.lit (.bool false)),(.lit (.bool false)),(.lit (.bool false)),(.lit (.bool false)),(di (-1)),(di (-1)),(di 0),(di 0),(di 0),(di 0),(di 0),(di 0),(di 0),(di 0),(di 0),(di 0),(di 0),(di 0),(di 0),(di 0),(di 0),(di 0),(di 0),(di 0),(di 0),(di 0),(di 0),(di 0),(.lit (.bool false)),(.lit (.bool false)),(.lit (.bool false)),(.lit (.bool false)),(.lit (.bool false)),(.lit (.bool false)),(.lit (.bool false)),(.lit (.bool false)),(di (-1)),(di (-1)),(di 0),(di 0),(di 0),(di 0),(di 0),(di 0),(di 0),(di 0),(di 0),(di 0),(di 0),(di 0),(di 0),(di 0),(di 0),(di 0),(di 0),(di 0),(di 0),(di 0),(di 0),(di 0),(.lit (.bool false)),(.lit (.bool false)),(.lit (.bool false)),(.lit (.bool false)),(.lit (.bool false)),(.lit (.bool false)),(.lit (.bool false)),(.lit (.bool false))] 5 32 11)]
def qhb:Ob := .cells [(.gsl [(.lit (.int .u8 1)),(.lit (.int .u8 117)),(.lit (.int .u8 59)),(.lit (.int .u8 159)),(.lit (.int .u8 26)),(.lit (.int .u8 114)),(.lit (.int .u8 127)),(.lit (.int .u8 31)),(.lit (.int .u8 224)),(.lit (.int .u8 4)),(.lit (.int .u8 1)),(.lit (.int .u8 33)),(.lit (.int .u8 40)),(.lit (.int .u8 69)),(.lit (.int .u8 226)),(.lit (.int .u8 171)),(.lit (.int .u8 244)),(.lit (.int .u8 192)),(.lit (.int .u8 13)),(.lit (.int .u8 0)),(.lit (.int .u8 1)),(.lit (.int .u8 33)),(.lit (.int .u8 40)),(.lit (.int .u8 69)),(.lit (.int .u8 226)),(.lit (.int .u8 171)),(.lit (.int .u8 244)),(.lit (.int .u8 192)),(.lit (.int .u8 13)),(.lit (.int .u8 0)),(.lit (.int .u8 1)),(.lit (.int .u8 33)),(.lit (.int .u8 40)),(.lit (.int .u8 69)),(.lit (.int .u8 226)),(.lit (.int .u8 171)),(.lit (.int .u8 244)),(.lit (.int .u8 192)),(.lit (.int .u8 13)),(.lit (.int .u8 0)),(.lit (.int .u8 1)),(.lit (.int .u8 33)),(.lit (.int .u8 40)),(.lit (.int .u8 69)),(.lit (.int .u8 226)),(.lit (.int .u8 171)),(.lit (.int .u8 244)),(.lit (.int .u8 192)),(.lit (.int .u8 13)),(.lit (.int .u8 0))] 50 1 13),(.gsl (ds [9,10,19,20,29,30,39,40,49,50]) 5 2 14)]
def qpm:Ob := .map [((.int .i64 5),(.agg [(.gsl [(di 0),(di 0),(di 4),qpi,(.lit (.slice none 0 0)),(di 0),(di 1),(di 3),(.lit (.slice none 0 0)),(.sl [qaN,qaN] 2 false)] 2 5 17),qas]))]
def qk4:Ob := .cells [(.msl 18 0 60 60 1),qas,(vi 246)]
def qna:Ob := .cells [(vi 5),(vi 5),(.fn 430 [] [(.ptr 23 0)])]
def qhc:Ob := .cells [(vi 1),(.dat qdV),(vi (-12000)),(vi (-9000)),(vi 12000),(vi 9000),(.dat (.sl qdW 3 false)),(.dat (.sl [] 0 true)),(vi 4000),(vi 0),(vi 0),(vi 0),(vi 0),(vi 0),(vi 1),(vi 20),(.dat qmT),qgG,(.dat qmU),(.dat qlR),(.dat qmV),qas,(vi 0),(.ptr 1 0),(vi 5),(.ptr 2 0),(.ptr 3 0),(.ptr 4 0),(.msl 5 0 1 1 1),(.own 6 1 1),qas,(.own 7 1 1),(.mp 8)]
def qk5:Ob := .map [((.int .i64 5),qm1)]
def qhd:List D:=[(.sl (ds [0,0,0]) 1 false),qaN,qaN,qaN,qaN]
def qfi:Ob := .cells (vs [1,1,1,1,1,0,0,0,0,0,0,0,0,0,0,0,5,5])
def qpn:Ob := .map [((.int .i64 5),qdG)]
def qjk:List D:=(ds [13,0,11,0,48,0,49,0,50,0,1,0,2,0,3,0,2,0,1,1,2,1,3,0,1,2,2,0,3,0,58,0,54,-1200,55,-1200,1,3,2,0,3,0,4,0,1,4,2,0,3,1,5,0,3,0,52,-5400,53,-4000,1,5,2,0,3,1,5,1024,2,0,1,6,2,1,3,0,59,0,0,0,1,7,2,0,3,0,4,0,5,0,6,0,7,0,8,0,9,0,10,0,13,0,11,0,48,0,49,0,50,0,1,0,2,0,3,0,2,0,1,1,2,1,3,0,1,2,2,0,3,0,58,0,54,-1200,55,-1200,1,3,2,0,3,0,4,0,1,4,2,0,3,1,5,0,3,0,52,-6600,53,-5200,1,5,2,0,3,1,5,1024,2,0,1,6,2,1,3,0,59,0,0,1,1,7,2,0,3,0,4,0,5,0,6,0,7,0,8,0,9,0,10,0,13,1,11,0,48,-1,49,-1,50,0,1,0,2,0,3,0,2,0,1,1,2,1,3,0,1,2,2,0,3,0,58,0,54,-1200,55,-1200,1,3,2,0,3,0,4,0,1,4,2,0,3,1,5,0,3,0,52,-7800,53,-6400,1,5,2,0,3,1,5,1024,2,0,1,6,2,1,3,0,59,0,0,2,1,7,2,0,3,0,4,0,5,0,6,0,7,0,8,0,9,0,10,0,13,1,11,0,48,-1,49,-1,50,0,1,0,2,0,3,0,2,0,1,1,2,1,3,0,1,2,2,0,3,0,58,0,54,-1200,55,-1200,1,3,2,0,3,0,4,0,1,4,2,0,3,1,5,0,3,0,52,-9000,53,-7600,1,5,2,0,3,1,5,1024,2,0,1,6,2,1,3,0,59,0,0,3,1,7,2,0,3,0,4,0,5,0,6,0,7,0,8,0,9,0,10,0,13,1,11,0,48,-1,49,-1,50,0,1,0,2,0,3,0,2,0,1,1,2,1,3,0,1,2,2,0,3,0,58,0,54,-1200,55,-1200,1,3,2,0,3,0,4,0,1,4,2,0,3,1,5,0,3,0,52,-10200,53,-8800,55,-1200,1,5,2,0,3,1,5,1024,2,0,1,6,2,1,3,0,59,0,0,4,1,7,2,0,3,0,4,0,5,0,6,0,7,0,8,0,9,0,10,0])
def qpo:Ob := .cells [(.msl 17 0 60 60 1),qas,(vi 246)]
def qpp:D:=(.sl (ds [5,-1,-1,0,6,-1,-1,0]) 2 false)
def qpq:List D:=[(di 0),(di 0),(di 5),qpp,(.lit (.slice none 0 0))]
def qk6:List D:=(ds [0,0,1,49,2,98,3,147,4,196])
def qfj:Ob := .map [((.int .i64 5),qdG),((.int .i64 6),qdG)]
def qfk:Ob := .vec [qas,qas,qas,qas,qas]
def qhe:Ob := .vec (vs [5,-1,-1,0,6,-1,-1,0])
def qjl:Ob := .cells (vs [6,0,0,0,0,0,0,0,0,0,0,0,0,1,0,0,0,0,0,0,0,0,0,0,0,0,0,0,0,0,0,0,0,0,0,0,0,0,0,0,0,0,0,0,0,0,0,0,-1,-1,0,0,-12000,-9000,0,0,0,0,0,1])
def qk7:Ob := .cells [(.ptr 19 0),(.ptr 20 0),(.ptr 21 0),(vi 5),(vi 7),(.own 22 2 4),(vi (-1)),(vi (-1)),(vi 0),(.dat (.sl [] 0 false)),qas,qas,qas]
def qk8:Ob := .cells [(vi 1),(vi 0),(vi 12),(.ptr 24 0),(.ptr 25 0),(.mp 26),(.gsl qhd 5 1 27),(vi 5),(.vw 28 1 1 0 1),(.own 29 5 1),(vi 0),(.ptr 30 0)]
def qk9:Ob := .cells [(.ptr 32 0),(vi 12),(.gsl qk6 5 2 33)]
def qla:Ob := .cells [(.msl 35 0 60 60 1),(.gsl qjk 246 2 36),(vi 0)]
def qpr:List D:=[(di 0),(di 0),(di 0),(di 0),(di 0),(di 0),(di 0),(di 0),(di 0),(di 0),(di 0),(di 0),(di 0),(di 0),(di 0),(di 0),(di 0),(di 0),(di 0),(di 0),(di 0),(di 0),(di 0),(di 0),(.lit (.bool true)),(.lit (.bool false)),(.lit (.bool false)),(.lit (.bool false)),(.lit (.bool false)),(.lit (.bool false)),(.lit (.bool false)),(.lit (.bool false)),(di (-1)),(di (-1)),(di 0),(di 0),(di 0),(di 0),(di 0),(di 0),(di 0),(di 0),(di 0),(di 0),(di 0),(di 0),(di 0),(di 0),(di 0),(di 0),(di 0),(di 0),(di 0),(di 0),(di 0),(di 0),(.lit (.bool false)),(.lit (.bool false)),(.lit (.bool false)),(.lit (.bool false)),(.lit (.bool false)),(.lit (.bool false)),(.lit (.bool false)),(.lit (.bool false)),(di (-1)),(di (-1)),(di 0),(di 0),(di 0),(di 0),(di 0),(di 0),(di 0),(di 0),(di 0),(di 0),(di 0),(di 0),(di 0),(di 0),(di 0),(di 0),(di 0),(di 0),(di 0),(di 0),(di 0),(di 0),(.lit (.bool false)),(.lit (.bool false)),(.lit (.bool false)),(.lit (.bool false)),(.lit (.bool false)),(.lit (.bool false)),(.lit (.bool false)),(.lit (.bool false)),(di (-1)),(di (-1)),(di 0),(di 0),(di 0),(di 0),(di 0),(di 0),(di 0),(di 0),(di 0),(di 0),(di 0),(di 0),(di 0),(di 0),(di 0),(di 0),(di 0),(di 0),(di 0),(di 0),(di 0),(di 0),(.lit (.bool false)),(.lit (.bool false)),(.lit (.bool false)),(.lit (.bool false)),(.lit (.bool false)),(.lit (.bool false)),(.lit (.bool false)),(.lit (.bool false)),(di (-1)),(di (-1)),(di 0),(di 0),(di 0),(di 0),(di 0),(di 0),(di 0),(di 0),(di 0),(di 0),(di 0),(di 0),(di 0),(di 0),(di 0),(di 0),(di 0),(di 0),(di 0),(di 0),(di 0),(di 0),(.lit (.bool false)),(.lit (.bool false)),(.lit (.bool false)),(.lit (.bool false)),(.lit (.bool false)),(.lit (.bool false)),(.lit (.bool false)),(.lit (.bool false)),(di (-1)),(di (-1)),(di 0),(di 0),(di 0),(di 0),(di 0),(di 0),(di 0),(di 0),(di 0),(di 0),(di 0),(di 0),(di 0),(di 0),(di 0),(di 0),(di 0),(di 0),(di 0),(di 0),(di 0),(di 0),(.lit (.bool false)),(.lit (.bool false)),(.lit (.bool false)),(.lit (.bool false)),(.lit (.bool false)),(.lit (.bool false)),(.lit (.bool false)),(.lit (.bool false))]
def qnb:Ob := .cells [(vi 1),(vi 0),(.mp 10),(.gsl qpr 6 32 11)]
def qps:List D:=[(.lit (.int .u8 1)),(.lit (.int .u8 117)),(.lit (.int .u8 59)),(.lit (.int .u8 159)),(.lit (.int .u8 26)),(.lit (.int .u8 114)),(.lit (.int .u8 127)),(.lit (.int .u8 31)),(.lit (.int .u8 224)),(.lit (.int .u8 4)),(.lit (.int .u8 1)),(.lit (.int .u8 33)),(.lit (.int .u8 40)),(.lit (.int .u8 69)),(.lit (.int .u8 226)),(.lit (.int .u8 171)),(.lit (.int .u8 244)),(.lit (.int .u8 192)),(.lit (.int .u8 13)),(.lit (.int .u8 0)),(.lit (.int .u8 1)),(.lit (.int .u8 33)),(.lit (.int .u8 40)),(.lit (.int .u8 69)),(.lit (.int .u8 226)),(.lit (.int .u8 171)),(.lit (.int .u8 244)),(.lit (.int .u8 192)),(.lit (.int .u8 13)),(.lit (.int .u8 0)),(.lit (.int .u8 1)),(.lit (.int .u8 33)),(.lit (.int .u8 40)),(.lit (.int .u8 69)),(.lit (.int .u8 226)),(.lit (.int .u8 171)),(.lit (.int .u8 244)),(.lit (.int .u8 192)),(.lit (.int .u8 13)),(.lit (.int .u8 0)),(.lit (.int .u8 1)),(.lit (.int .u8 33)),(.lit (.int .u8 40)),(.lit (.int .u8 69)),(.lit (.int .u8 226)),(.lit (.int .u8 171)),(.lit (.int .u8 244)),(.lit (.int .u8 192)),(.lit (.int .u8 13)),(.lit (.int .u8 0)),(.lit (.int .u8 1)),(.lit (.int .u8 33)),(.lit (.int .u8 40)),(.lit (.int .u8 69)),(.lit (.int .u8 226)),(.lit (.int .u8 171)),(.lit (.int .u8 244)),(.lit (.int .u8 192)),(.lit (.int .u8 13)),(.lit (.int .u8 0))]
def qpt:List D:=(ds [9,10,19,20,29,30,39,40,49,50,59,60])
def qnc:Ob := .cells [(.gsl qps 60 1 13),(.gsl qpt 6 2 14)]
def qpu:List D:=[(di 0),(di 0),(di 5),qpp,(.lit (.slice none 0 0)),(di 0),(di 1),(di 4),(.lit (.slice none 0 0)),(.sl [qaN,qaN] 2 false)]
def qnd:Ob := .map [((.int .i64 6),(.agg [(.gsl qpu 2 5 17),qas]))]
def qne:Ob := .cells [(.msl 18 0 60 60 1),qas,(vi 296)]
def qnf:Ob := .cells [(vi 6),(vi 6),(.fn 430 [] [(.ptr 23 0)])]
def qpv:Ob := .cells [(vi 1),(.dat qdV),(vi (-12000)),(vi (-9000)),(vi 12000),(vi 9000),(.dat (.sl qdW 3 false)),(.dat (.sl [] 0 true)),(vi 4000),(vi 0),(vi 0),(vi 0),(vi 0),(vi 0),(vi 1),(vi 20),(.dat qmT),qgG,(.dat qmU),(.dat qlR),(.dat qmV),qas,(vi 0),(.ptr 1 0),(vi 6),(.ptr 2 0),(.ptr 3 0),(.ptr 4 0),(.msl 5 0 1 1 1),(.own 6 1 1),qas,(.own 7 1 1),(.mp 8)]
def qfl:S:=[qpv,.cells [(.gsl qbG 2 5 9)],qnb,qbu,qnc,.cells [(vi 4)],.vec [(.ptr 15 0)],.vec [(.ptr 16 0)],qnd,.tip 10,.map [],.tip 192,qne,.tip 60,.tip 12,qk7,qnf,.tip 10,qjl,qk8,qfi,.cells [(.mp 31),(vi 5)],qhe,.cells (vs [0,0,0,0]),qcW,qk9,qfj,.tip 5,.vec [(.dat qaN)],qfk,qcX,.map [],qla,.tip 10,qc9,qbH,.tip 492,qbI]
def qpw:V:=(.dat (.sl [(di 5)] 1 false))
def qng:V:=(.dat (.sl [(.sl (ds [0,0,0]) 1 false),qaN,qaN,qaN,qaN,qaN] 6 false))
def qpx:Ob := .cells [(vi 1),(vi 0),(vi 12),(.ptr 1 0),(.ptr 2 0),(.mp 3),(.gsl qhd 5 1 4),(vi 5),(.vw 5 1 1 0 1),(.own 6 5 1),(vi 0),(.ptr 7 0)]
def qpy:Ob := .cells [(vi 1),(.dat qdV),(vi (-12000)),(vi (-9000)),(vi 12000),(vi 9000),(.dat (.sl qdW 3 false)),(.dat (.sl [] 0 true)),(vi 4000),(vi 0),(vi 0),(vi 0),(vi 0),(vi 0),(vi 1),(vi 20),(.ptr 8 0),(.ptr 9 0)]
def qpz:Ob := .cells [(.ptr 9 0),(vi 12),(.gsl qk6 5 2 10)]
def qpA:Ob := .cells [(vi 1),(.dat qdV),(vi (-12000)),(vi (-9000)),(vi 12000),(vi 9000),(.dat (.sl qdW 3 false)),(.dat (.sl [] 0 true)),(vi 4000),(vi 0),(vi 0),(vi 0),(vi 0),(vi 0),(vi 1),(vi 20),(.ptr 8 0),(.ptr 11 0)]
def qpB:Ob := .cells [(.msl 13 0 60 60 1),(.gsl qjk 246 2 14),(vi 0)]
def qeN:S:=[qpv,.cells [(.gsl qbG 2 5 9)],qnb,qbu,qnc,.cells [(vi 4)],.vec [(.ptr 15 0)],.vec [(.ptr 16 0)],qnd,.tip 10,.map [],.tip 192,qne,.tip 60,.tip 12,qk7,qnf,.tip 10,qjl,qk8,qfi,.cells [(.mp 31),(vi 5)],qhe,.cells (vs [0,0,0,0]),qcW,qk9,qfj,.tip 5,.vec [(.dat qaN)],qfk,qcX,.map [],qla,.tip 10,.cells [(.msl 37 0 60 60 1),qas,(vi 246)],qbH,.tip 492,qbH]
def xc0:Kn:=⟨362,[qas],[],qvM,[]⟩
def xc1:Kn:=⟨379,[(.dat (.agg [(di 1),qdV,(di (-12000)),(di (-9000)),(di 12000),(di 9000),(.sl qdW 3 false),(.sl [] 0 true),(di 4000),(di 0),(di 0),(di 0),(di 0),(di 0),(di 1),(di 20)])),(.ptr 0 0),(vi 0),(vi 12)],[.cells [(.gsl qbG 2 5 1)],.tip 10],(.tup [(.ptr 2 0),(vi 0)]),[.cells [(.gsl qbG 2 5 1)],.tip 10,.cells [(vi 1),(vi 0),(vi 12),(.ptr 3 0),(.ptr 4 0),(.mp 5),qas,(vi 0),qas,qas,(vi 0),(.ptr 6 0)],.cells [(vi 1),(.dat qdV),(vi (-12000)),(vi (-9000)),(vi 12000),(vi 9000),(.dat (.sl qdW 3 false)),(.dat (.sl [] 0 true)),(vi 4000),(vi 0),(vi 0),(vi 0),(vi 0),(vi 0),(vi 1),(vi 20),(.ptr 0 0),(.ptr 7 0)],.cells [(.ptr 7 0),(vi 12),qas],.map [],.cells [(vi 1),(.dat qdV),(vi (-12000)),(vi (-9000)),(vi 12000),(vi 9000),(.dat (.sl qdW 3 false)),(.dat (.sl [] 0 true)),(vi 4000),(vi 0),(vi 0),(vi 0),(vi 0),(vi 0),(vi 1),(vi 20),(.ptr 0 0),(.ptr 8 0)],.cells [(.msl 9 0 60 60 1),qas,(vi 0)],.cells [(.msl 10 0 60 60 1),qas,(vi 0)],qbI,qbI]⟩
def xc2:Kn:=⟨363,[qvM],[],(.tup [(.ptr 0 0),(vi 0)]),qqF⟩
def xc3:Kn:=⟨378,[(.ptr 0 0),(.ptr 1 0)],[.cells [(vi 1),(.dat qdV),(vi (-12000)),(vi (-9000)),(vi 12000),(vi 9000),(.dat (.sl qdW 3 false)),(.dat (.sl [] 0 true)),(vi 4000),(vi 0),(vi 0),(vi 0),(vi 0),(vi 0),(vi 1),(vi 20),(.dat qmT),qgG,(.dat qmU),(.dat qlR),(.dat qmV),qas,(vi 0),(.ptr 2 0),(vi 0),(.ptr 3 0),(.ptr 4 0),(.ptr 5 0),(.msl 6 0 1 1 1),(.own 7 1 1),qas,(.own 8 1 1),(.mp 9)],.cells [qas,qas],.cells [(.gsl qbG 2 5 10)],que,quf,.cells [qas,qas],.cells [(vi 0)],.vec [(.ptr 13 0)],.vec [(.ptr 14 0)],.map [],.tip 10,.map [],qon,qug,quh,qbI,qui,qj8,.cells [(.mp 24),(vi 0)],.cells (vs [0,0,0,0]),quj,quk,.map [],qul,.map [],qmX,qoo,qbI,qbI],(vi 0),[.cells [(vi 1),(.dat qdV),(vi (-12000)),(vi (-9000)),(vi 12000),(vi 9000),(.dat (.sl qdW 3 false)),(.dat (.sl [] 0 true)),(vi 4000),(vi 0),(vi 0),(vi 0),(vi 0),(vi 0),(vi 1),(vi 20),(.dat qmT),qgG,(.dat qmU),(.dat qlR),(.dat qmV),qas,(vi 0),(.ptr 2 0),(vi 0),(.ptr 29 0),(.ptr 30 0),(.ptr 1 0),(.msl 31 0 1 1 1),(.own 7 1 1),qas,(.own 8 1 1),(.mp 9)],.cells [qas,qas],.cells [(.gsl qbG 2 5 10)],que,quf,.cells [qas,qas],.cells [(vi 0)],.vec [(.ptr 13 0)],.vec [(.ptr 14 0)],.map [],.tip 10,.map [],qon,qug,quh,qbI,qui,qj8,.cells [(.mp 24),(vi 0)],.cells (vs [0,0,0,0]),quj,quk,.map [],qul,.map [],qmX,qoo,qbI,qbI,.cells [(vi 1),(vi 0),(.mp 32),qas],.cells [(vi 1),(.dat qdV),(vi (-12000)),(vi (-9000)),(vi 12000),(vi 9000),(.dat (.sl qdW 3 false)),(.dat (.sl [] 0 true)),(vi 4000),(vi 0),(vi 0),(vi 0),(vi 0),(vi 0),(vi 1),(vi 20),(.ptr 2 0),(.ptr 33 0)],.cells [(vi 0)],.map [],.cells [(.msl 34 0 60 60 1),qas,(vi 0)],qbI]⟩
def xc4:Kn:=⟨437,[(.ptr 0 0),(vi 0)],qqF,(.tup []),[qol,.cells [(.gsl qbG 2 5 9)],qom,qmW,.cells [qas,qas],.cells [(vi 0)],.vec [(.ptr 12 0)],.vec [(.ptr 13 0)],.map [((.int .i64 1),(.agg [(.gsl qun 1 5 28),qas]))],.tip 10,.map [],qqC,.cells [(.ptr 15 0),(.ptr 16 0),(.ptr 17 0),(vi 0),(vi 2),(.own 29 2 4),(vi (-1)),(vi (-1)),(vi 0),(.dat (.sl [] 0 false)),qas,qas,qas],.cells [(vi 1),(vi 0),(.fn 430 [] [(.ptr 18 0)])],qbI,qub,qj8,.cells [(.mp 23),(vi 0)],.cells (vs [0,0,0,0]),qqD,quc,qop,qqE,.map [],qud,qmX,qbI,qbI,.tip 5,qlS]⟩
def xc5:Kn:=⟨469,[(.ptr 0 0),qj9],[qd1,.cells [(.gsl qbG 2 5 3)],.cells [(.msl 4 0 60 60 1),qas,(vi 0)],.tip 10,qbI],qgH,qup⟩
def xc6:Kn:=⟨438,[(.ptr 0 0)],[qol,.cells [(.gsl qbG 2 5 9)],qom,qmW,.cells [qas,qas],.cells [(vi 0)],.vec [(.ptr 12 0)],.vec [(.ptr 13 0)],.map [((.int .i64 1),(.agg [(.gsl qun 1 5 14),qas]))],.tip 10,.map [],qon,quq,.cells [(vi 1),(vi 0),(.fn 430 [] [(.ptr 20 0)])],.tip 5,qbI,qur,qj8,.cells [(.mp 25),(vi 0)],qlS,.cells (vs [0,0,0,0]),qus,qut,qop,quu,.map [],qoo,quv,qbI,qbI],(.tup []),[qol,.cells [(.gsl qbG 2 5 9)],.cells [(vi 1),(vi 0),(.mp 10),(.gsl quw 1 32 30)],qmW,.cells [(.gsl qux 10 1 31),(.gsl [(di 9),(di 10)] 1 2 32)],.cells [(vi 0)],.vec [(.ptr 12 0)],.vec [(.ptr 13 0)],.map [((.int .i64 1),(.agg [(.gsl quy 2 5 14),qas]))],.tip 10,.map [],.cells [(.msl 15 0 60 60 1),qas,(vi 49)],quq,.cells [(vi 1),(vi 1),(.fn 430 [] [(.ptr 20 0)])],.tip 10,qeM,qur,qj8,.cells [(.mp 25),(vi 0)],qlS,.cells (vs [0,0,0,0]),qus,qut,qop,quu,.map [],qoo,quv,qbI,qbI,.tip 32,.tip 10,.tip 2]⟩
def xc7:Kn:=⟨436,[(.ptr 0 0)],[qlT,.cells [(.gsl qbG 2 5 9)],qmZ,qbu,qm0,.cells [(vi 0)],.vec [(.ptr 15 0)],.vec [(.ptr 16 0)],.map [((.int .i64 1),(.agg [(.gsl quy 2 5 17),qas]))],.tip 10,.map [],.tip 32,qqG,.tip 10,.tip 2,quz,quA,.tip 10,qeM,.cells [(vi 1),(vi 0),(vi 12),(.ptr 24 0),(.ptr 25 0),(.mp 26),qas,(vi 0),qas,qas,(vi 0),(.ptr 27 0)],qj8,.cells [(.mp 28),(vi 0)],qlS,.cells (vs [0,0,0,0]),qor,qqH,qop,qos,.map [],qqI,qot,qbI,qbI],(.tup []),[qlT,.cells [(.gsl qbG 2 5 9)],qmZ,qbu,qm0,.cells [(vi 0)],.vec [(.ptr 15 0)],.vec [(.ptr 16 0)],.map [],.tip 10,qou,.tip 32,qqG,.tip 10,.tip 2,quz,quA,.tip 10,qeM,.cells [(vi 1),(vi 0),(vi 12),(.ptr 24 0),(.ptr 25 0),(.mp 26),(.gsl qmY 1 1 33),(vi 0),qas,qas,(vi 0),(.ptr 27 0)],qlU,.cells [(.mp 28),(vi 0)],qlS,.cells (vs [0,0,0,0]),qor,qqH,quB,qos,.map [],qqI,qot,qbI,qbI,.tip 1]⟩
def xc8:Kn:=⟨437,[(.ptr 0 0),(vi 0)],[qlT,.cells [(.gsl qbG 2 5 9)],qmZ,qbu,qm0,.cells [(vi 0)],.vec [(.ptr 15 0)],.vec [(.ptr 16 0)],.map [],.tip 10,qou,.tip 32,quC,.tip 10,.tip 2,.cells [(.ptr 18 0),(.ptr 19 0),(.ptr 20 0),(vi 0),(vi 2),(.own 21 2 4),(vi (-1)),(vi (-1)),(vi 0),(.dat (.sl [] 0 false)),qas,qas,qas],.cells [(vi 1),(vi 1),(.fn 430 [] [(.ptr 22 0)])],qeM,.cells [(vi 1),(vi 0),(vi 12),(.ptr 23 0),(.ptr 24 0),(.mp 25),(.gsl qmY 1 1 26),(vi 0),qas,qas,(vi 0),(.ptr 27 0)],qlU,.cells [(.mp 28),(vi 0)],qlS,.cells (vs [0,0,0,0]),qor,qqH,quB,.tip 1,qos,.map [],qqI,qot,qbI,qbI],(.tup []),[qlT,.cells [(.gsl qbG 2 5 9)],qmZ,qbu,qm0,.cells [(vi 0)],.vec [(.ptr 15 0)],.vec [(.ptr 16 0)],.map [((.int .i64 2),(.agg [(.gsl quE 1 5 33),qas]))],.tip 10,qou,.tip 32,quC,.tip 10,.tip 2,.cells [(.ptr 18 0),(.ptr 19 0),(.ptr 20 0),(vi 1),(vi 3),(.own 34 2 4),(vi (-1)),(vi (-1)),(vi 0),(.dat (.sl [] 0 false)),qas,qas,qas],.cells [(vi 2),(vi 1),(.fn 430 [] [(.ptr 22 0)])],qeM,.cells [(vi 1),(vi 0),(vi 12),(.ptr 23 0),(.ptr 24 0),(.mp 25),(.gsl qmY 1 1 26),(vi 1),(.vw 35 1 1 0 1),(.own 36 1 1),(vi 0),(.ptr 27 0)],qlU,.cells [(.mp 28),(vi 1)],.dead,.cells (vs [0,0,0,0]),qor,.cells [(.ptr 29 0),(vi 12),(.gsl [(di 0),(di 0)] 1 2 37)],qov,.tip 1,qos,.map [],.cells [(.msl 31 0 60 60 1),(.gsl qoq 49 2 38),(vi 0)],qot,qeM,qbI,.tip 5,qlV,.vec [qj9],.vec [qas],.tip 2,.tip 98]⟩
def xc9:Kn:=⟨469,[(.ptr 0 0),(.dat qaN)],[qd1,.cells [(.gsl qbG 2 5 3)],.cells [(.msl 4 0 60 60 1),qas,(vi 49)],.tip 10,qeM],qgH,[qd1,.cells [(.gsl qbG 2 5 3)],.cells [(.msl 4 0 60 60 1),(.gsl (ds [13,0,11,0,48,0,49,0,50,0,1,0,2,0,3,0,2,0,1,1,2,1,3,0,1,2,2,0,3,0,58,0,54,-1200,55,-1200,1,3,2,0,3,0,4,0,1,4,2,0,3,1,5,0,3,0,52,-6600,53,-5200,1,5,2,0,3,1,5,1024,2,0,1,6,2,1,3,0,59,0,0,1,1,7,2,0,3,0,4,0,5,0,6,0,7,0,8,0,9,0,10,0]) 49 2 5),(vi 49)],.tip 10,qed,.tip 98]⟩
def xc10:Kn:=⟨438,[(.ptr 0 0)],[qlT,.cells [(.gsl qbG 2 5 9)],qmZ,qbu,qm0,.cells [(vi 0)],.vec [(.ptr 15 0)],.vec [(.ptr 16 0)],.map [((.int .i64 2),(.agg [(.gsl quE 1 5 17),qas]))],.tip 10,qou,.tip 32,qqG,.tip 10,.tip 2,qow,.cells [(vi 2),(vi 1),(.fn 430 [] [(.ptr 23 0)])],.tip 5,qeM,qqJ,qlU,.cells [(.mp 31),(vi 1)],qlV,.cells (vs [0,0,0,0]),qcW,qox,qov,.tip 1,.vec [qj9],.vec [qas],qcX,.map [],qoy,.tip 2,qc9,qeM,.tip 98,qbI],(.tup []),[qlT,.cells [(.gsl qbG 2 5 9)],qlW,qbu,qlX,.cells [(vi 0)],.vec [(.ptr 15 0)],.vec [(.ptr 16 0)],quF,.tip 10,.map [],.tip 64,qoz,.tip 20,.tip 4,qow,qqK,.tip 10,qed,qqJ,qlU,.cells [(.mp 31),(vi 1)],qlV,.cells (vs [0,0,0,0]),qcW,qox,qov,.tip 1,.vec [qj9],.vec [qas],qcX,.map [],qoy,.tip 2,qc9,qeM,.tip 98,qbI]⟩
def xc11:Kn:=⟨436,[(.ptr 0 0)],[qlY,.cells [(.gsl qbG 2 5 9)],qlW,qbu,qlX,.cells [(vi 0)],.vec [(.ptr 15 0)],.vec [(.ptr 16 0)],quF,.tip 10,.map [],.tip 64,qoz,.tip 20,.tip 4,qow,qqK,.tip 10,qed,qqJ,qlU,.cells [(.mp 31),(vi 1)],qlV,.cells (vs [0,0,0,0]),qcW,qox,qov,.tip 1,.vec [qj9],.vec [qas],qcX,.map [],qoy,.tip 2,qc9,qeM,.tip 98,qbI],(.tup []),[qlY,.cells [(.gsl qbG 2 5 9)],qlW,qbu,qlX,.cells [(vi 1)],.vec [(.ptr 15 0)],.vec [(.ptr 16 0)],.map [],.tip 10,qoA,.tip 64,qoz,.tip 20,.tip 4,qow,qqK,.tip 10,qed,.cells [(vi 1),(vi 0),(vi 12),(.ptr 24 0),(.ptr 25 0),(.mp 26),(.gsl qm2 2 1 27),(vi 1),(.vw 28 1 1 0 1),(.own 29 1 1),(vi 0),(.ptr 30 0)],qlZ,.cells [(.mp 31),(vi 1)],qlV,.cells (vs [0,0,0,0]),qcW,qox,quG,.tip 2,.vec [qj9],.vec [qas],qcX,.map [],qoy,.tip 2,qc9,qeM,.tip 98,qbI]⟩
def xc12:Kn:=⟨469,[(.ptr 0 0),(.dat qaN)],qup,qgH,quH⟩
def xc13:Kn:=⟨437,[(.ptr 0 0),(vi 0)],[qlY,.cells [(.gsl qbG 2 5 9)],qlW,qbu,qlX,.cells [(vi 1)],.vec [(.ptr 15 0)],.vec [(.ptr 16 0)],.map [],.tip 10,qoA,.tip 64,quI,.tip 20,.tip 4,.cells [(.ptr 18 0),(.ptr 19 0),(.ptr 20 0),(vi 1),(vi 3),(.own 21 2 4),(vi (-1)),(vi (-1)),(vi 0),(.dat (.sl [] 0 false)),qas,qas,qas],.cells [(vi 2),(vi 2),(.fn 430 [] [(.ptr 22 0)])],qed,.cells [(vi 1),(vi 0),(vi 12),(.ptr 23 0),(.ptr 24 0),(.mp 25),(.gsl qm2 2 1 26),(vi 1),(.vw 27 1 1 0 1),(.own 28 1 1),(vi 0),(.ptr 29 0)],qlZ,.cells [(.mp 30),(vi 1)],qlV,.cells (vs [0,0,0,0]),qjh,.cells [(.ptr 31 0),(vi 12),(.gsl [(di 0),(di 0)] 1 2 32)],quG,.tip 2,.vec [qj9],.vec [qas],qji,.map [],.cells [(.msl 34 0 60 60 1),(.gsl qoq 49 2 35),(vi 0)],.tip 2,qjj,qeM,.tip 98,qbI],(.tup []),[qlY,.cells [(.gsl qbG 2 5 9)],qlW,qbu,qlX,.cells [(vi 1)],.vec [(.ptr 15 0)],.vec [(.ptr 16 0)],.map [((.int .i64 3),(.agg [(.gsl qo3 1 5 37),qas]))],.tip 10,qoA,.tip 64,quI,.tip 20,.tip 4,.cells [(.ptr 18 0),(.ptr 19 0),(.ptr 20 0),(vi 2),(vi 4),(.own 38 2 4),(vi (-1)),(vi (-1)),(vi 0),(.dat (.sl [] 0 false)),qas,qas,qas],.cells [(vi 3),(vi 2),(.fn 430 [] [(.ptr 22 0)])],qed,.cells [(vi 1),(vi 0),(vi 12),(.ptr 23 0),(.ptr 24 0),(.mp 25),(.gsl qm2 2 1 26),(vi 2),(.vw 39 1 1 0 1),(.own 28 2 1),(vi 0),(.ptr 29 0)],qlZ,.cells [(.mp 30),(vi 2)],.dead,.cells (vs [0,0,0,0]),qjh,qo4,qkM,.tip 2,.dead,.vec [qas,qas],qji,.map [],qo5,.tip 4,qjj,qed,.tip 196,qbI,.tip 5,qgZ,.vec [(.dat qaN)]]⟩
def xc14:Kn:=⟨469,[(.ptr 0 0),(.dat qaN)],[qd1,.cells [(.gsl qbG 2 5 3)],.cells [(.msl 4 0 60 60 1),qas,(vi 98)],.tip 10,qed],qgH,[qd1,.cells [(.gsl qbG 2 5 3)],.cells [(.msl 4 0 60 60 1),(.gsl (ds [13,1,11,0,48,-1,49,-1,50,0,1,0,2,0,3,0,2,0,1,1,2,1,3,0,1,2,2,0,3,0,58,0,54,-1200,55,-1200,1,3,2,0,3,0,4,0,1,4,2,0,3,1,5,0,3,0,52,-7800,53,-6400,1,5,2,0,3,1,5,1024,2,0,1,6,2,1,3,0,59,0,0,2,1,7,2,0,3,0,4,0,5,0,6,0,7,0,8,0,9,0,10,0]) 49 2 5),(vi 98)],.tip 10,qcm,.tip 98]⟩
def xc15:Kn:=⟨438,[(.ptr 0 0)],[qlY,.cells [(.gsl qbG 2 5 9)],qlW,qbu,qlX,.cells [(vi 1)],.vec [(.ptr 15 0)],.vec [(.ptr 16 0)],.map [((.int .i64 3),(.agg [(.gsl qo3 1 5 17),qas]))],.tip 10,qoA,.tip 64,qoz,.tip 20,.tip 4,qkN,.cells [(vi 3),(vi 2),(.fn 430 [] [(.ptr 23 0)])],.tip 5,qed,qm3,qlZ,.cells [(.mp 31),(vi 2)],qgZ,.cells (vs [0,0,0,0]),qcW,qkO,qkM,.tip 2,.vec [(.dat qaN)],.vec [qas,qas],qcX,.map [],qkP,.tip 4,qc9,qed,.tip 196,qbI],(.tup []),[qlY,.cells [(.gsl qbG 2 5 9)],qg0,qbu,qg1,.cells [(vi 1)],.vec [(.ptr 15 0)],.vec [(.ptr 16 0)],qo6,.tip 10,.map [],.tip 96,qkQ,.tip 30,.tip 6,qkN,qm4,.tip 10,qcm,qm3,qlZ,.cells [(.mp 31),(vi 2)],qgZ,.cells (vs [0,0,0,0]),qcW,qkO,qkM,.tip 2,.vec [(.dat qaN)],.vec [qas,qas],qcX,.map [],qkP,.tip 4,qc9,qed,.tip 196,qbI]⟩
def xc16:Kn:=⟨436,[(.ptr 0 0)],[qg2,.cells [(.gsl qbG 2 5 9)],qg0,qbu,qg1,.cells [(vi 1)],.vec [(.ptr 15 0)],.vec [(.ptr 16 0)],qo6,.tip 10,.map [],.tip 96,qkQ,.tip 30,.tip 6,qkN,qm4,.tip 10,qcm,qm3,qlZ,.cells [(.mp 31),(vi 2)],qgZ,.cells (vs [0,0,0,0]),qcW,qkO,qkM,.tip 2,.vec [(.dat qaN)],.vec [qas,qas],qcX,.map [],qkP,.tip 4,qc9,qed,.tip 196,qbI],(.tup []),[qg2,.cells [(.gsl qbG 2 5 9)],qg0,qbu,qg1,.cells [(vi 2)],.vec [(.ptr 15 0)],.vec [(.ptr 16 0)],.map [],.tip 10,qkR,.tip 96,qkQ,.tip 30,.tip 6,qkN,qm4,.tip 10,qcm,.cells [(vi 1),(vi 0),(vi 12),(.ptr 24 0),(.ptr 25 0),(.mp 26),(.gsl qkS 3 1 27),(vi 2),(.vw 28 1 1 0 1),(.own 29 2 1),(vi 0),(.ptr 30 0)],qg3,.cells [(.mp 31),(vi 2)],qgZ,.cells (vs [0,0,0,0]),qcW,qkO,qo7,.tip 3,.vec [(.dat qaN)],.vec [qas,qas],qcX,.map [],qkP,.tip 4,qc9,qed,.tip 196,qbI]⟩
def xc17:Kn:=⟨469,[(.ptr 0 0),(.dat qaN)],quH,qgH,qo8⟩
def xc18:Kn:=⟨437,[(.ptr 0 0),(vi 0)],[qg2,.cells [(.gsl qbG 2 5 9)],qg0,qbu,qg1,.cells [(vi 2)],.vec [(.ptr 15 0)],.vec [(.ptr 16 0)],.map [],.tip 10,qkR,.tip 96,qo9,.tip 30,.tip 6,.cells [(.ptr 18 0),(.ptr 19 0),(.ptr 20 0),(vi 2),(vi 4),(.own 21 2 4),(vi (-1)),(vi (-1)),(vi 0),(.dat (.sl [] 0 false)),qas,qas,qas],.cells [(vi 3),(vi 3),(.fn 430 [] [(.ptr 22 0)])],qcm,.cells [(vi 1),(vi 0),(vi 12),(.ptr 23 0),(.ptr 24 0),(.mp 25),(.gsl qkS 3 1 26),(vi 2),(.vw 27 1 1 0 1),(.own 28 2 1),(vi 0),(.ptr 29 0)],qg3,.cells [(.mp 30),(vi 2)],qgZ,.cells (vs [0,0,0,0]),qjh,qo4,qo7,.tip 3,.vec [(.dat qaN)],.vec [qas,qas],qji,.map [],qo5,.tip 4,qjj,qed,.tip 196,qbI],(.tup []),[qg2,.cells [(.gsl qbG 2 5 9)],qg0,qbu,qg1,.cells [(vi 2)],.vec [(.ptr 15 0)],.vec [(.ptr 16 0)],.map [((.int .i64 4),(.agg [(.gsl qpb 1 5 37),qas]))],.tip 10,qkR,.tip 96,qo9,.tip 30,.tip 6,.cells [(.ptr 18 0),(.ptr 19 0),(.ptr 20 0),(vi 3),(vi 5),(.own 38 2 4),(vi (-1)),(vi (-1)),(vi 0),(.dat (.sl [] 0 false)),qas,qas,qas],.cells [(vi 4),(vi 3),(.fn 430 [] [(.ptr 22 0)])],qcm,.cells [(vi 1),(vi 0),(vi 12),(.ptr 23 0),(.ptr 24 0),(.mp 25),(.gsl qkS 3 1 26),(vi 3),(.vw 39 1 1 0 1),(.own 28 3 1),(vi 0),(.ptr 29 0)],qg3,.cells [(.mp 30),(vi 3)],.dead,.cells (vs [0,0,0,0]),qjh,qpc,qkT,.tip 3,.dead,.vec [qas,qas,qas],qji,.map [],qpd,.tip 6,qjj,qcm,.tip 294,qbI,.tip 5,qg4,.vec [(.dat qaN)]]⟩
def xc19:Kn:=⟨469,[(.ptr 0 0),(.dat qaN)],[qd1,.cells [(.gsl qbG 2 5 3)],.cells [(.msl 4 0 60 60 1),qas,(vi 147)],.tip 10,qcm],qgH,[qd1,.cells [(.gsl qbG 2 5 3)],.cells [(.msl 4 0 60 60 1),(.gsl (ds [13,1,11,0,48,-1,49,-1,50,0,1,0,2,0,3,0,2,0,1,1,2,1,3,0,1,2,2,0,3,0,58,0,54,-1200,55,-1200,1,3,2,0,3,0,4,0,1,4,2,0,3,1,5,0,3,0,52,-9000,53,-7600,1,5,2,0,3,1,5,1024,2,0,1,6,2,1,3,0,59,0,0,3,1,7,2,0,3,0,4,0,5,0,6,0,7,0,8,0,9,0,10,0]) 49 2 5),(vi 147)],.tip 10,qcn,.tip 98]⟩
def xc20:Kn:=⟨438,[(.ptr 0 0)],[qg2,.cells [(.gsl qbG 2 5 9)],qg0,qbu,qg1,.cells [(vi 2)],.vec [(.ptr 15 0)],.vec [(.ptr 16 0)],.map [((.int .i64 4),(.agg [(.gsl qpb 1 5 17),qas]))],.tip 10,qkR,.tip 96,qkQ,.tip 30,.tip 6,qkU,.cells [(vi 4),(vi 3),(.fn 430 [] [(.ptr 23 0)])],.tip 5,qcm,qm6,qg3,.cells [(.mp 31),(vi 3)],qg4,.cells (vs [0,0,0,0]),qcW,qkV,qkT,.tip 3,.vec [(.dat qaN)],.vec [qas,qas,qas],qcX,.map [],qkW,.tip 6,qc9,qcm,.tip 294,qbI],(.tup []),[qg2,.cells [(.gsl qbG 2 5 9)],qg5,qbu,qg6,.cells [(vi 2)],.vec [(.ptr 15 0)],.vec [(.ptr 16 0)],qpe,.tip 10,.map [],.tip 128,qkX,.tip 40,.tip 8,qkU,qm7,.tip 10,qcn,qm6,qg3,.cells [(.mp 31),(vi 3)],qg4,.cells (vs [0,0,0,0]),qcW,qkV,qkT,.tip 3,.vec [(.dat qaN)],.vec [qas,qas,qas],qcX,.map [],qkW,.tip 6,qc9,qcm,.tip 294,qbI]⟩
def xc21:Kn:=⟨436,[(.ptr 0 0)],[qg7,.cells [(.gsl qbG 2 5 9)],qg5,qbu,qg6,.cells [(vi 2)],.vec [(.ptr 15 0)],.vec [(.ptr 16 0)],qpe,.tip 10,.map [],.tip 128,qkX,.tip 40,.tip 8,qkU,qm7,.tip 10,qcn,qm6,qg3,.cells [(.mp 31),(vi 3)],qg4,.cells (vs [0,0,0,0]),qcW,qkV,qkT,.tip 3,.vec [(.dat qaN)],.vec [qas,qas,qas],qcX,.map [],qkW,.tip 6,qc9,qcm,.tip 294,qbI],(.tup []),[qg7,.cells [(.gsl qbG 2 5 9)],qg5,qbu,qg6,.cells [(vi 3)],.vec [(.ptr 15 0)],.vec [(.ptr 16 0)],.map [],.tip 10,qkY,.tip 128,qkX,.tip 40,.tip 8,qkU,qm7,.tip 10,qcn,.cells [(vi 1),(vi 0),(vi 12),(.ptr 24 0),(.ptr 25 0),(.mp 26),(.gsl qkZ 4 1 27),(vi 3),(.vw 28 1 1 0 1),(.own 29 3 1),(vi 0),(.ptr 30 0)],qg8,.cells [(.mp 31),(vi 3)],qg4,.cells (vs [0,0,0,0]),qcW,qkV,qpf,.tip 4,.vec [(.dat qaN)],.vec [qas,qas,qas],qcX,.map [],qkW,.tip 6,qc9,qcm,.tip 294,qbI]⟩
def xc22:Kn:=⟨469,[(.ptr 0 0),(.dat qaN)],qo8,qgH,qpg⟩
def xc23:Kn:=⟨437,[(.ptr 0 0),(vi 0)],[qg7,.cells [(.gsl qbG 2 5 9)],qg5,qbu,qg6,.cells [(vi 3)],.vec [(.ptr 15 0)],.vec [(.ptr 16 0)],.map [],.tip 10,qkY,.tip 128,qph,.tip 40,.tip 8,.cells [(.ptr 18 0),(.ptr 19 0),(.ptr 20 0),(vi 3),(vi 5),(.own 21 2 4),(vi (-1)),(vi (-1)),(vi 0),(.dat (.sl [] 0 false)),qas,qas,qas],.cells [(vi 4),(vi 4),(.fn 430 [] [(.ptr 22 0)])],qcn,.cells [(vi 1),(vi 0),(vi 12),(.ptr 23 0),(.ptr 24 0),(.mp 25),(.gsl qkZ 4 1 26),(vi 3),(.vw 27 1 1 0 1),(.own 28 3 1),(vi 0),(.ptr 29 0)],qg8,.cells [(.mp 30),(vi 3)],qg4,.cells (vs [0,0,0,0]),qjh,qpc,qpf,.tip 4,.vec [(.dat qaN)],.vec [qas,qas,qas],qji,.map [],qpd,.tip 6,qjj,qcm,.tip 294,qbI],(.tup []),[qg7,.cells [(.gsl qbG 2 5 9)],qg5,qbu,qg6,.cells [(vi 3)],.vec [(.ptr 15 0)],.vec [(.ptr 16 0)],.map [((.int .i64 5),(.agg [(.gsl qpj 1 5 37),qas]))],.tip 10,qkY,.tip 128,qph,.tip 40,.tip 8,.cells [(.ptr 18 0),(.ptr 19 0),(.ptr 20 0),(vi 4),(vi 6),(.own 38 2 4),(vi (-1)),(vi (-1)),(vi 0),(.dat (.sl [] 0 false)),qas,qas,qas],.cells [(vi 5),(vi 4),(.fn 430 [] [(.ptr 22 0)])],qcn,.cells [(vi 1),(vi 0),(vi 12),(.ptr 23 0),(.ptr 24 0),(.mp 25),(.gsl qkZ 4 1 26),(vi 4),(.vw 39 1 1 0 1),(.own 28 4 1),(vi 0),(.ptr 29 0)],qg8,.cells [(.mp 30),(vi 4)],.dead,.cells (vs [0,0,0,0]),qjh,qpk,qk0,.tip 4,.dead,.vec [qas,qas,qas,qas],qji,.map [],qpl,.tip 8,qjj,qcn,.tip 392,qbI,.tip 5,qg9,.vec [(.dat qaN)]]⟩
def xc24:Kn:=⟨469,[(.ptr 0 0),(.dat qaN)],[qd1,.cells [(.gsl qbG 2 5 3)],.cells [(.msl 4 0 60 60 1),qas,(vi 196)],.tip 10,qcn],qgH,[qd1,.cells [(.gsl qbG 2 5 3)],.cells [(.msl 4 0 60 60 1),(.gsl (ds [13,1,11,0,48,-1,49,-1,50,0,1,0,2,0,3,0,2,0,1,1,2,1,3,0,1,2,2,0,3,0,58,0,54,-1200,55,-1200,1,3,2,0,3,0,4,0,1,4,2,0,3,1,5,0,3,0,52,-10200,53,-8800,55,-1200,1,5,2,0,3,1,5,1024,2,0,1,6,2,1,3,0,59,0,0,4,1,7,2,0,3,0,4,0,5,0,6,0,7,0,8,0,9,0,10,0]) 50 2 5),(vi 196)],.tip 10,qbH,.tip 100]⟩
def xc25:Kn:=⟨438,[(.ptr 0 0)],[qg7,.cells [(.gsl qbG 2 5 9)],qg5,qbu,qg6,.cells [(vi 3)],.vec [(.ptr 15 0)],.vec [(.ptr 16 0)],.map [((.int .i64 5),(.agg [(.gsl qpj 1 5 17),qas]))],.tip 10,qkY,.tip 128,qkX,.tip 40,.tip 8,qk1,.cells [(vi 5),(vi 4),(.fn 430 [] [(.ptr 23 0)])],.tip 5,qcn,qm9,qg8,.cells [(.mp 31),(vi 4)],qg9,.cells (vs [0,0,0,0]),qcW,qk2,qk0,.tip 4,.vec [(.dat qaN)],.vec [qas,qas,qas,qas],qcX,.map [],qk3,.tip 8,qc9,qcn,.tip 392,qbI],(.tup []),[qg7,.cells [(.gsl qbG 2 5 9)],qha,qbu,qhb,.cells [(vi 3)],.vec [(.ptr 15 0)],.vec [(.ptr 16 0)],qpm,.tip 10,.map [],.tip 160,qk4,.tip 50,.tip 10,qk1,qna,.tip 10,qbH,qm9,qg8,.cells [(.mp 31),(vi 4)],qg9,.cells (vs [0,0,0,0]),qcW,qk2,qk0,.tip 4,.vec [(.dat qaN)],.vec [qas,qas,qas,qas],qcX,.map [],qk3,.tip 8,qc9,qcn,.tip 392,qbI]⟩
def xc26:Kn:=⟨436,[(.ptr 0 0)],[qhc,.cells [(.gsl qbG 2 5 9)],qha,qbu,qhb,.cells [(vi 3)],.vec [(.ptr 15 0)],.vec [(.ptr 16 0)],qpm,.tip 10,.map [],.tip 160,qk4,.tip 50,.tip 10,qk1,qna,.tip 10,qbH,qm9,qg8,.cells [(.mp 31),(vi 4)],qg9,.cells (vs [0,0,0,0]),qcW,qk2,qk0,.tip 4,.vec [(.dat qaN)],.vec [qas,qas,qas,qas],qcX,.map [],qk3,.tip 8,qc9,qcn,.tip 392,qbI],(.tup []),[qhc,.cells [(.gsl qbG 2 5 9)],qha,qbu,qhb,.cells [(vi 4)],.vec [(.ptr 15 0)],.vec [(.ptr 16 0)],.map [],.tip 10,qk5,.tip 160,qk4,.tip 50,.tip 10,qk1,qna,.tip 10,qbH,.cells [(vi 1),(vi 0),(vi 12),(.ptr 24 0),(.ptr 25 0),(.mp 26),(.gsl qhd 5 1 27),(vi 4),(.vw 28 1 1 0 1),(.own 29 4 1),(vi 0),(.ptr 30 0)],qfi,.cells [(.mp 31),(vi 4)],qg9,.cells (vs [0,0,0,0]),qcW,qk2,qpn,.tip 5,.vec [(.dat qaN)],.vec [qas,qas,qas,qas],qcX,.map [],qk3,.tip 8,qc9,qcn,.tip 392,qbI]⟩
def xc27:Kn:=⟨469,[(.ptr 0 0),(.dat qaN)],qpg,qgH,[qd1,.cells [(.gsl qbG 2 5 3)],.cells [(.msl 4 0 60 60 1),(.gsl qjk 246 2 5),(vi 0)],.tip 10,qbH,.tip 492]⟩
def xc28:Kn:=⟨437,[(.ptr 0 0),(vi 0)],[qhc,.cells [(.gsl qbG 2 5 9)],qha,qbu,qhb,.cells [(vi 4)],.vec [(.ptr 15 0)],.vec [(.ptr 16 0)],.map [],.tip 10,qk5,.tip 160,qpo,.tip 50,.tip 10,.cells [(.ptr 18 0),(.ptr 19 0),(.ptr 20 0),(vi 4),(vi 6),(.own 21 2 4),(vi (-1)),(vi (-1)),(vi 0),(.dat (.sl [] 0 false)),qas,qas,qas],.cells [(vi 5),(vi 5),(.fn 430 [] [(.ptr 22 0)])],qbH,.cells [(vi 1),(vi 0),(vi 12),(.ptr 23 0),(.ptr 24 0),(.mp 25),(.gsl qhd 5 1 26),(vi 4),(.vw 27 1 1 0 1),(.own 28 4 1),(vi 0),(.ptr 29 0)],qfi,.cells [(.mp 30),(vi 4)],qg9,.cells (vs [0,0,0,0]),qjh,qpk,qpn,.tip 5,.vec [(.dat qaN)],.vec [qas,qas,qas,qas],qji,.map [],qpl,.tip 8,qjj,qcn,.tip 392,qbI],(.tup []),[qhc,.cells [(.gsl qbG 2 5 9)],qha,qbu,qhb,.cells [(vi 4)],.vec [(.ptr 15 0)],.vec [(.ptr 16 0)],.map [((.int .i64 6),(.agg [(.gsl qpq 1 5 37),qas]))],.tip 10,qk5,.tip 160,qpo,.tip 50,.tip 10,.cells [(.ptr 18 0),(.ptr 19 0),(.ptr 20 0),(vi 5),(vi 7),(.own 38 2 4),(vi (-1)),(vi (-1)),(vi 0),(.dat (.sl [] 0 false)),qas,qas,qas],.cells [(vi 6),(vi 5),(.fn 430 [] [(.ptr 22 0)])],qbH,.cells [(vi 1),(vi 0),(vi 12),(.ptr 23 0),(.ptr 24 0),(.mp 25),(.gsl qhd 5 1 26),(vi 5),(.vw 39 1 1 0 1),(.own 28 5 1),(vi 0),(.ptr 29 0)],qfi,.cells [(.mp 30),(vi 5)],.dead,.cells (vs [0,0,0,0]),qjh,.cells [(.ptr 31 0),(vi 12),(.gsl qk6 5 2 32)],qfj,.tip 5,.dead,qfk,qji,.map [],.cells [(.msl 34 0 60 60 1),(.gsl qjk 246 2 35),(vi 0)],.tip 10,qjj,qbH,.tip 492,qbI,.tip 5,qhe,.vec [(.dat qaN)]]⟩
def xc29:Kn:=⟨469,[(.ptr 0 0),(.dat qaN)],[qd1,.cells [(.gsl qbG 2 5 3)],.cells [(.msl 4 0 60 60 1),qas,(vi 246)],.tip 10,qbH],qgH,[qd1,.cells [(.gsl qbG 2 5 3)],.cells [(.msl 4 0 60 60 1),(.gsl (ds [13,1,11,0,48,-1,49,-1,50,0,1,0,2,0,3,0,2,0,1,1,2,1,3,0,1,2,2,0,3,0,58,0,54,-1200,55,0,1,3,2,0,3,0,4,0,1,4,2,0,3,1,5,0,3,0,52,-11400,54,-1200,53,-9000,1,5,2,0,3,1,5,1024,2,0,1,6,2,1,3,0,59,0,0,5,1,7,2,0,3,0,4,0,5,0,6,0,7,0,8,0,9,0,10,0]) 50 2 5),(vi 246)],.tip 10,qjl,.tip 100]⟩
def xc30:Kn:=⟨438,[(.ptr 0 0)],[qhc,.cells [(.gsl qbG 2 5 9)],qha,qbu,qhb,.cells [(vi 4)],.vec [(.ptr 15 0)],.vec [(.ptr 16 0)],.map [((.int .i64 6),(.agg [(.gsl qpq 1 5 17),qas]))],.tip 10,qk5,.tip 160,qk4,.tip 50,.tip 10,qk7,.cells [(vi 6),(vi 5),(.fn 430 [] [(.ptr 23 0)])],.tip 5,qbH,qk8,qfi,.cells [(.mp 31),(vi 5)],qhe,.cells (vs [0,0,0,0]),qcW,qk9,qfj,.tip 5,.vec [(.dat qaN)],qfk,qcX,.map [],qla,.tip 10,qc9,qbH,.tip 492,qbI],(.tup []),[qhc,.cells [(.gsl qbG 2 5 9)],qnb,qbu,qnc,.cells [(vi 4)],.vec [(.ptr 15 0)],.vec [(.ptr 16 0)],qnd,.tip 10,.map [],.tip 192,qne,.tip 60,.tip 12,qk7,qnf,.tip 10,qjl,qk8,qfi,.cells [(.mp 31),(vi 5)],qhe,.cells (vs [0,0,0,0]),qcW,qk9,qfj,.tip 5,.vec [(.dat qaN)],qfk,qcX,.map [],qla,.tip 10,qc9,qbH,.tip 492,qbI]⟩
def xc31:Kn:=⟨443,[(.ptr 0 0),(vi 6)],qqF,(.tup []),[.cells [(vi 1),(.dat qdV),(vi (-12000)),(vi (-9000)),(vi 12000),(vi 9000),(.dat (.sl qdW 3 false)),(.dat (.sl [] 0 true)),(vi 4000),(vi 0),(vi 0),(vi 0),(vi 0),(vi 0),(vi 1),(vi 20),(.dat qmT),qgG,(.dat qmU),(.dat qlR),(.dat qmV),qas,(vi 0),(.ptr 1 0),(vi 6),(.ptr 28 0),(.ptr 29 0),(.ptr 30 0),(.msl 31 0 1 1 1),(.own 6 1 1),qas,(.own 7 1 1),(.mp 8)],.cells [(.gsl qbG 2 5 9)],qom,qmW,.cells [qas,qas],.cells [(vi 0)],.vec [(.ptr 12 0)],.vec [(.ptr 13 0)],.map [((.int .i64 6),(.agg [(.gsl qpu 2 5 32),qas]))],.tip 10,.map [],qqC,.cells [(.ptr 15 0),(.ptr 16 0),(.ptr 17 0),(vi 5),(vi 7),(.own 33 2 4),(vi (-1)),(vi (-1)),(vi 0),(.dat (.sl [] 0 false)),qas,qas,qas],.cells [(vi 6),(vi 6),(.fn 430 [] [(.ptr 18 0)])],qbI,.cells [(vi 1),(vi 0),(vi 12),(.ptr 19 0),(.ptr 20 0),(.mp 21),(.gsl qhd 5 1 34),(vi 5),(.vw 35 1 1 0 1),(.own 36 5 1),(vi 0),(.ptr 22 0)],qfi,.cells [(.mp 23),(vi 5)],.cells (vs [0,0,0,0]),qqD,.cells [(.ptr 24 0),(vi 12),(.gsl qk6 5 2 37)],qfj,qqE,.map [],.cells [(.msl 26 0 60 60 1),(.gsl qjk 246 2 38),(vi 0)],qmX,qbH,qbI,.cells [(vi 1),(vi 0),(.mp 39),(.gsl qpr 6 32 40)],.cells [(vi 1),(.dat qdV),(vi (-12000)),(vi (-9000)),(vi 12000),(vi 9000),(.dat (.sl qdW 3 false)),(.dat (.sl [] 0 true)),(vi 4000),(vi 0),(vi 0),(vi 0),(vi 0),(vi 0),(vi 1),(vi 20),(.ptr 1 0),(.ptr 41 0)],.cells [(.gsl qps 60 1 42),(.gsl qpt 6 2 43)],.cells [(vi 4)],.tip 10,qhe,.tip 5,.vec [(.dat qaN)],qfk,.tip 10,.tip 492,.map [],.tip 192,.cells [(.msl 44 0 60 60 1),qas,(vi 296)],.tip 60,.tip 12,qjl]⟩
def xc32:Kn:=⟨395,[qvM,(vi 6)],[],(.ptr 0 0),qfl⟩
def xc33:Kn:=⟨368,[(vi 1),(vi 1)],[],(vi 12),[]⟩
def xc34:Kn:=⟨368,[(vi 6000),(vi 1000)],[],(vi 58),[]⟩
def xc35:Kn:=⟨444,[(.ptr 0 0)],qfl,qpw,qfl⟩
def xc36:Kn:=⟨445,[(.ptr 0 0)],qfl,(.tup [(.dat (.sl (ds [6,0,0,0,0,0,0,0,0,0,0,0,0,1,0,0,0,0,0,0,0,0,0,0,0,0,0,0,0,0,0,0,0,0,0,0,0,0,0,0,0,0,0,0,0,0,0,0,-1,-1,0,0,-12000,-9000,0,0,0,0,0,1]) 60 false)),(vi 6)]),qfl⟩
def xc37:Kn:=⟨439,[(.ptr 0 0),(vi 0),(vi 6)],qfl,qng,qfl⟩
def xc38:Kn:=⟨449,[(.ptr 0 0)],[qpx,qpy,qpz,qfj,.tip 5,.vec [(.dat qaN)],qfk,qpA,.cells [(.gsl qbG 2 5 12)],qpB,.tip 10,qon,.tip 10,qbH,.tip 492,qbI],(.dat (.sl (ds [5,0,0,0,0,0,0,0,0,0,0,0,0,1,0,0,0,0,0,0,0,0,0,0,0,0,0,0,0,0,0,0,0,0,0,0,0,0,0,0,0,0,0,0,0,0,0,0,-1,-1,0,0,-11400,-9000,-1200,0,0,0,0,0]) 60 false)),[qpx,qpy,qpz,qfj,.tip 5,.vec [(.dat qaN)],qfk,qpA,.cells [(.gsl qbG 2 5 12)],qpB,.tip 10,.cells [(.msl 15 0 60 60 1),qas,(vi 246)],.tip 10,qbH,.tip 492,qbH]⟩
def xc39:Kn:=⟨396,[(.ptr 0 0)],qfl,(.dat (.lit (.bool true))),qeN⟩
def xc40:Kn:=⟨439,[(.ptr 0 0),(vi 0),(vi 6)],qeN,qng,qeN⟩
def xc41:Kn:=⟨444,[(.ptr 0 0)],qeN,qpw,qeN⟩
def xc42:Kn:=⟨397,[(.ptr 0 0)],qeN,(.dat (.lit (.bool true))),qeN⟩
def xc43:Kn:=⟨390,[(.ptr 0 0)],qeN,qng,qeN⟩
def xc44:Kn:=⟨370,[],[],(.dat (.lit (.bool true))),[]⟩
theorem qaC : ∀ k∈([]:List Kn),k.ok prX:=fun k h=>by cases h
theorem qaq{k:Kn}{L:List Kn}(h:k.ok prX)(hL : ∀ k∈L,k.ok prX) : ∀ j∈k::L,j.ok prX:=List.forall_mem_cons.2 ⟨h,hL⟩
end Go.Pm
end
section
set_option maxRecDepth 100000
namespace Go.Pm
open F
theorem qu2:xc0.ok prX:=qaD qaC 2000 (by kernel_rfl)
theorem qu3:xc1.ok prX:=qaD qaC 2000 (by kernel_rfl)
theorem qu4:xc2.ok prX:=qaD (qaq qu3 qaC) 2000 (by kernel_rfl)
end Go.Pm
end
section
set_option maxRecDepth 100000
namespace Go.Pm
open F
theorem qt9:xc3.ok prX:=qaD qaC 2000 (by kernel_rfl)
theorem qua:xc4.ok prX:=qaD qaC 2000 (by kernel_rfl)
theorem qjg:xc5.ok prX:=qaD qaC 2000 (by kernel_rfl)
end Go.Pm
end
section
set_option maxRecDepth 100000
namespace Go.Pm
open F
theorem quZ:xc6.ok prX:=qaD (qaq qjg qaC) 2000 (by kernel_rfl)
end Go.Pm
end
section
set_option maxRecDepth 100000
namespace Go.Pm
open F
theorem qt3:xc7.ok prX:=qaD qaC 2000 (by kernel_rfl)
theorem qt4:xc8.ok prX:=qaD (qaq qjg qaC) 2000 (by kernel_rfl)
theorem qkJ:xc9.ok prX:=qaD qaC 2000 (by kernel_rfl)
end Go.Pm
end
section
set_option maxRecDepth 100000
namespace Go.Pm
open F
theorem qq3:xc10.ok prX:=qaD (qaq qkJ qaC) 2000 (by kernel_rfl)
end Go.Pm
end
section
set_option maxRecDepth 100000
namespace Go.Pm
open F
theorem qpT:xc11.ok prX:=qaD qaC 2000 (by kernel_rfl)
theorem qpU:xc12.ok prX:=qaD qaC 2000 (by kernel_rfl)
end Go.Pm
end
section
set_option maxRecDepth 100000
namespace Go.Pm
open F
theorem qqV:xc13.ok prX:=qaD (qaq qpU qaC) 2000 (by kernel_rfl)
theorem qh9:xc14.ok prX:=qaD qaC 2000 (by kernel_rfl)
end Go.Pm
end
section
set_option maxRecDepth 100000
namespace Go.Pm
open F
theorem qrk:xc15.ok prX:=qaD (qaq qh9 qaC) 2000 (by kernel_rfl)
end Go.Pm
end
section
set_option maxRecDepth 100000
namespace Go.Pm
open F
theorem qqZ:xc16.ok prX:=qaD qaC 2000 (by kernel_rfl)
theorem qq0:xc17.ok prX:=qaD qaC 2000 (by kernel_rfl)
end Go.Pm
end
section
set_option maxRecDepth 100000
namespace Go.Pm
open F
theorem qq5:xc18.ok prX:=qaD (qaq qq0 qaC) 2000 (by kernel_rfl)
theorem qid:xc19.ok prX:=qaD qaC 2000 (by kernel_rfl)
end Go.Pm
end
section
set_option maxRecDepth 100000
namespace Go.Pm
open F
theorem qra:xc20.ok prX:=qaD (qaq qid qaC) 2000 (by kernel_rfl)
end Go.Pm
end
section
set_option maxRecDepth 100000
namespace Go.Pm
open F
theorem qqT:xc21.ok prX:=qaD qaC 2000 (by kernel_rfl)
theorem qqU:xc22.ok prX:=qaD qaC 2000 (by kernel_rfl)
end Go.Pm
end
section
set_option maxRecDepth 100000
namespace Go.Pm
open F
theorem qqv:xc23.ok prX:=qaD (qaq qqU qaC) 2000 (by kernel_rfl)
theorem qhY:xc24.ok prX:=qaD qaC 2000 (by kernel_rfl)
end Go.Pm
end
section
set_option maxRecDepth 100000
namespace Go.Pm
open F
theorem qqq:xc25.ok prX:=qaD (qaq qhY qaC) 2000 (by kernel_rfl)
end Go.Pm
end
section
set_option maxRecDepth 100000
namespace Go.Pm
open F
theorem qqX:xc26.ok prX:=qaD qaC 2000 (by kernel_rfl)
theorem qqY:xc27.ok prX:=qaD qaC 2000 (by kernel_rfl)
end Go.Pm
end
section
set_option maxRecDepth 100000
namespace Go.Pm
open F
theorem qqz:xc28.ok prX:=qaD (qaq qqY qaC) 2000 (by kernel_rfl)
theorem qj7:xc29.ok prX:=qaD qaC 2000 (by kernel_rfl)
end Go.Pm
end
section
set_option maxRecDepth 100000
namespace Go.Pm
open F
theorem qqW:xc30.ok prX:=qaD (qaq qj7 qaC) 2000 (by kernel_rfl)
end Go.Pm
end
section
set_option maxRecDepth 100000
namespace Go.Pm
open F
theorem qqA:xc31.ok prX:=qaD (qaq qt9 (qaq qua (qaq quZ (qaq qt3 (qaq qt4 (qaq qq3 (qaq qpT (qaq qqV (qaq qrk (qaq qqZ (qaq qq5 (qaq qra (qaq qqT (qaq qqv (qaq qqq (qaq qqX (qaq qqz (qaq qqW qaC)))))))))))))))))) 2000 (by kernel_rfl)
end Go.Pm
end
section
set_option maxRecDepth 100000
namespace Go.Pm
open F
theorem qre:xc32.ok prX:=qaD (qaq qu4 (qaq qqA qaC)) 2000 (by kernel_rfl)
theorem qrf:xc33.ok prX:=qaD qaC 2000 (by kernel_rfl)
theorem qrg:xc34.ok prX:=qaD qaC 2000 (by kernel_rfl)
theorem qrh:xc35.ok prX:=qaD qaC 2000 (by kernel_rfl)
theorem qri:xc36.ok prX:=qaD qaC 2000 (by kernel_rfl)
theorem qrj:xc37.ok prX:=qaD qaC 2000 (by kernel_rfl)
end Go.Pm
end
section
set_option maxRecDepth 100000
namespace Go.Pm
open F
theorem qqi:xc38.ok prX:=qaD (qaq qjg (qaq qkJ (qaq qh9 (qaq qid (qaq qhY qaC))))) 2000 (by kernel_rfl)
end Go.Pm
end
section
set_option maxRecDepth 100000
namespace Go.Pm
open F
theorem qrl:xc39.ok prX:=qaD (qaq qrh (qaq qri (qaq qrj (qaq qjg (qaq qkJ (qaq qh9 (qaq qid (qaq qhY (qaq qqi (qaq qj7 qaC)))))))))) 2000 (by kernel_rfl)
end Go.Pm
end
section
set_option maxRecDepth 100000
namespace Go.Pm
open F
theorem qms:xc40.ok prX:=qaD qaC 2000 (by kernel_rfl)
theorem qp0:xc41.ok prX:=qaD qaC 2000 (by kernel_rfl)
theorem qp1:xc42.ok prX:=qaD (qaq qms (qaq qjg (qaq qkJ (qaq qh9 (qaq qid (qaq qhY (qaq qj7 (qaq qp0 qaC)))))))) 2000 (by kernel_rfl)
end Go.Pm
end
section
set_option maxRecDepth 100000
namespace Go.Pm
open F
theorem qqj:xc43.ok prX:=qaD (qaq qms qaC) 2000 (by kernel_rfl)
theorem qqk:xc44.ok prX:=qaD (qaq qu2 (qaq qre (qaq qrf (qaq qrg (qaq qrl (qaq qp1 (qaq qqj qaC))))))) 2000 (by kernel_rfl)
end Go.Pm
end
namespace Go.Pm
section
open F
theorem boundX_Z{x y:Int}(h1:I64 x)(h2:I64 y):Z progST.get (.call 361 [.int x,.int y] [])=some (.ret (.bool true) []):=
 ql5 (prog:=progST.get) rfl rfl rfl rfl rfl rfl rfl qqk h1 h2
end
section
open Go
theorem qjs{P:Program}(h:P.funcs.toList.any Func.goes=false)(f:FuncId):P.goes f=false:=by
 have h1 : ∀ g:Nat,(P.funcs[g]?).any Func.goes=false:=fun g=>by
  cases hg:P.funcs[g]? with
  |none=>rfl
  |some fn=>
   have hm:fn∈P.funcs.toList:=by
    rw[Array.getElem?_eq_some_iff] at hg
    obtain⟨hl,rfl⟩:=hg
    simp
   have:=List.any_eq_false.1 h fn hm
   simpa using this
 have h2:P.funcs.any Func.goes=false:=by rw[<- Array.any_toList]; exact h
 unfold Program.goes
 rw[h2,Bool.and_false,Bool.or_false]
 exact List.any_eq_false.2 fun g _=>by rw[h1 g]; simp
theorem goesBy_none{P:Program}(h:P.funcs.toList.any Func.goes=false)(c:OpenClaim):c.goesBy P=false:=by
 have hf : ∀ s,P.goesFrom s=false:=fun s=>by
  unfold Program.goesFrom
  cases P.funcNamed s with
  |none=>rfl
  |some f=>exact qjs h f
 unfold OpenClaim.goesBy Program.goesAt
 rw[hf,Bool.false_or]
 split
 ·rfl
 ·exact List.any_eq_false.2 fun g _=>by rw[qjs h]; simp
end
section
def RowV(v:D)(xs:List Int):Prop:=
 (∃ o,v = .lit (.slice o 0 0)/\xs=[])\/v = .sl (qjL xs) xs.length false
theorem RowV.one{v:D}{xs:List Int}(h:RowV v xs):V.one (.dat v)=true:=by rcases h with ⟨o,rfl,rfl⟩|rfl<;>rfl
theorem RowV.cells{v:D}{xs:List Int}(h:RowV v xs):V.cells (.dat v)=[.dat v]:=by rcases h with ⟨o,rfl,rfl⟩|rfl<;>rfl
theorem qjo(F:Nat->Nat)(w:World) : ∀ xs:List Int,RepDs F w (qjL xs) (xs.map (.int .i64))
 |[]=>rfl
 |x::xs=>⟨_,_,rfl,⟨rfl,rfl⟩,qjo F w xs⟩
theorem qvO (fid:Fid) {w:World} {a:Option Addr} {len cap:Nat} {zs:List Int}
  (h:(a=none/\len=0/\cap=0/\zs=[]) \/ ∃ x,a=some x/\len<=cap/\cap<=maxLen/\zs.length=cap/\(∀ i,i<zs.length->w.cell? (x.add i)=some (.int .i64 (zs.getD i 0))) /\ ∀ n∈zs,(Lit.int .i64 n).wf=true) :
  ∃ d,RowV d (zs.take len)/\(∀ x∈zs.take len,I64 x)/\Rep fid (qeU w) (.dat d) (.slice a len cap):=by
 rcases h with ⟨rfl,rfl,rfl,rfl⟩|⟨x,rfl,h1,h2,h3,h4,h5⟩
 ·exact⟨.lit (.slice none 0 0),.inl ⟨_,rfl,rfl⟩,by simp,rfl,rfl⟩
 by_cases hc:cap=0
 ·subst hc
  have:len=0:=by omega
  subst this
  exact⟨.lit (.slice (some x) 0 0),.inl ⟨_,rfl,by simp⟩,by simp,rfl,rfl⟩
 have hl:(zs.take len).length=len:=by rw[List.length_take]; omega
 have hs:x.spot=none:=World.cell?_spot (v := .int .i64 (zs.getD 0 0)) (by simpa [Addr.add] using h4 0 (by omega))
 obtain⟨b,o,sp⟩:=x
 simp only at hs
 subst hs
 have hcell : ∀ i,i<zs.length->w.cell? ⟨b,o+i,none⟩=some (.int .i64 (zs.getD i 0)):=fun i hi=>by
  have:=h4 i hi
  by_cases h0:i=0
  ·subst h0; simpa [Addr.add] using this
  ·simpa [Addr.add,h0] using this
 refine⟨.sl (qjL (zs.take len)) len false,.inr (by rw[hl]),fun n hn=>?_,b,o,cap,(zs.take len).map (.int .i64),rfl,h1,by simp,qjo _ _ _,?_,?_,?_⟩
 ·have:=h5 n (List.mem_of_mem_take hn)
  simp only[Lit.wf,Bool.and_eq_true,decide_eq_true_eq] at this
  have e1:IntKind.i64.min = -9223372036854775808:=by decide
  have e2:IntKind.i64.max=9223372036854775807:=by decide
  unfold I64
  omega
 ·intro i v hv
  rw[List.getElem?_map,List.getElem?_take] at hv
  split at hv
  ·rename_i hi
   rw[List.getElem?_eq_getElem (by omega)] at hv
   simp only[Option.map_some,Option.some.injEq] at hv
   subst hv
   rw[show (qeU w).w=w from rfl,hcell i (by omega)]
   simp[List.getD_eq_getElem?_getD,show i<zs.length by omega]
  ·simp at hv
 ·intro hp
  simp only[List.length_map,hl] at hp ⊢
  have:=hcell (len-1) (by omega)
  unfold World.cell? at this
  simp only[qeU,qmi]
  split at this
  ·rename_i c _ _ hb
   rw[hb]
   simp only[Option.isSome_none,Bool.false_eq_true,if_false] at this
   have hlt:o+(len-1)<c.size:=by
    rcases Nat.lt_or_ge (o+(len-1)) c.size with h'|h'
    ·exact h'
    ·rw[Array.getElem?_eq_none h'] at this; cases this
   simp only
   omega
  ·cases this
 ·intro v hv
  obtain⟨n,_,rfl⟩:=List.mem_map.1 hv
  rfl
theorem int_rep(fid:Fid)(w:World)(n:Int):Rep fid (qeU w) (.int n) (.int .i64 n):=⟨rfl,rfl⟩
theorem qwf{fid:Fid}{Γ : Ctx}{a:V}{x:Value}(h:Rep fid Γ a x):Reps fid Γ [a] [x]:=⟨_,_,rfl,h,rfl⟩
theorem reps_cons{fid:Fid}{Γ : Ctx}{a:V}{x:Value}{as:List V}{xs:List Value}(h:Rep fid Γ a x)(k:Reps fid Γ as xs):Reps fid Γ (a::as) (x::xs):=⟨_,_,rfl,h,k⟩
end
section
def fl(P:Program):Nat->TypeId->DataW Unit->Option (List Value)
 |0,_,_=>none
 |m+1,t,d=>match P.underlying t,d with
  |some (.int k),.lit (.int k' n)=>if k=k' then some [.int k n] else none
  |some (.array n e),.agg ds=>match ds.mapM (fl P m e) with
   |some vs=>if ds.length=n/\vs.all (fun v=>v.length==P.cellsOf e)/\P.cellsOf t=n*P.cellsOf e then some vs.flatten else none
   |none=>none
  |some (.struct fs),.agg ds=>match (fs.toList.zip ds).mapM (fun x=>fl P m x.1.type x.2) with
   |some vs=>if ds.length=fs.size/\((fs.toList.zip vs).all (fun x=>x.2.length==P.cellsOf x.1.type))/\(List.range fs.size).all (fun i=>(fs[i]?.map (·.offset)).getD 0==(vs.take i).flatten.length)/\P.cellsOf t=vs.flatten.length then some vs.flatten else none
   |none=>none
  |_,_=>none
theorem parts{α : Type} : ∀ (vs:List (List α)) (cs:List α) (o:Nat),(∀ (i:Nat) (v:List α),vs[i]?=some v->(cs.drop (o+(vs.take i).flatten.length)).take v.length=v)->cs.length=o+vs.flatten.length->cs.drop o=vs.flatten
 |[],cs,o,_,hl=>by simp at hl; simp[hl]
 |v::vs,cs,o,h,hl=>by
  have h0:=h 0 v rfl
  simp only[List.take_zero,List.flatten_nil,List.length_nil,Nat.add_zero] at h0
  have ih:=parts vs cs (o+v.length) (fun i u hu=>by
   have:=h (i+1) u hu
   simpa [Nat.add_assoc] using this) (by rw[List.flatten_cons,List.length_append] at hl; omega)
  rw[List.flatten_cons,<- ih]
  have e:=List.take_append_drop v.length (cs.drop o)
  rw[h0,List.drop_drop] at e
  exact e.symm
theorem qie{α β : Type}{f : α -> Option β} : ∀ {l:List α} {r:List β},l.mapM f=some r->r.length=l.length /\ ∀ (i:Nat) (a : α),l[i]?=some a -> ∃ b,r[i]?=some b/\f a=some b
 |[],r,h=>by simp at h; subst h; simp
 |a::l,r,h=>by
  simp only[List.mapM_cons,Option.pure_def,Option.bind_eq_bind,Option.bind_eq_some_iff,Option.some.injEq] at h
  obtain⟨b,hb,r',hr,rfl⟩:=h
  obtain⟨h1,h2⟩:=qie hr
  refine⟨by simp[h1],fun i x hx=>?_⟩
  cases i with
  |zero=>simp at hx; subst hx; exact⟨b,rfl,hb⟩
  |succ i=>simpa using h2 i x (by simpa using hx)
theorem qdL{α : Type}(m:Nat) : ∀ (vs:List (List α)) (i:Nat),(∀ v∈vs,v.length=m)->i<=vs.length->(vs.take i).flatten.length=i*m
 |_,0,_,_=>by simp
 |[],i+1,_,h=>by simp at h
 |v::vs,i+1,h,hi=>by
  simp only[List.take_succ_cons,List.flatten_cons,List.length_append]
  rw[qdL m vs i (fun u hu=>h u (List.mem_cons_of_mem _ hu)) (by simpa using hi),h v List.mem_cons_self,Nat.add_mul]
  omega
section
variable{enc:TypeId × Value->Unit}{P:Program}{w:World}{base:Nat}{spare:Nat->Bool}{held:Bool}
theorem qif : ∀ (m:Nat) (t:TypeId) (d:DataW Unit) (vs:List Value) (fuel:Nat) (cs:List Value) (p:List MemPlace),fl P m t d=some vs->DataW.trod enc P w base spare held fuel t cs=some (d,p)->cs=vs
 |0,t,d,vs,fuel,cs,p,h,_=>by simp[fl] at h
 |m+1,t,d,vs,fuel,cs,p,h,ht=>by
  unfold fl at h
  split at h
  ·rename_i k k' n hu
   split at h
   ·rename_i hk
    subst hk
    cases h
    obtain⟨n',rfl,e,_⟩:=DataW.trod_int hu ht
    simp only[Prod.mk.injEq,DataW.lit.injEq,Lit.int.injEq] at e
    rw[e.1.2]
   ·cases h
  ·rename_i n e ds hu
   split at h
   ·rename_i us hus
    split at h
    ·rename_i hc
     cases h
     obtain⟨h1,h2,h3⟩:=hc
     obtain⟨xs,q,rfl,hx,hl,hn,hel⟩:=DataW.trod_array hu ht
     simp only[Prod.mk.injEq,DataW.agg.injEq] at hx
     obtain⟨g1,g2⟩:=qie hus
     have hlen : ∀ v∈us,v.length=P.cellsOf e:=fun v hv=>by simpa using List.all_eq_true.1 h2 v hv
     have hp:=parts us cs 0 (fun i v hv=>by
      have hi:i<us.length:=(List.getElem?_eq_some_iff.1 hv).1
      have hfl:=qdL (P.cellsOf e) us i hlen (by omega)
      rw[Nat.zero_add,hfl,hlen v (List.mem_of_getElem? hv)]
      have:=hel i (by omega)
      obtain⟨x,hxi⟩ : ∃ x,xs[i]?=some x:=⟨xs[i]'(by omega),List.getElem?_eq_getElem (by omega)⟩
      rw[hxi] at this
      have hd:ds[i]?=some x.1:=by rw[hx.1]; simp[hxi]
      obtain⟨b,hb,hf⟩:=g2 i _ hd
      rw[hv] at hb
      cases hb
      exact qif m e x.1 v q _ x.2 hf this) (by
      have hfl:=qdL (P.cellsOf e) us us.length hlen (by omega)
      rw[List.take_length] at hfl
      rw[hl,h3,hfl,g1,h1]; simp)
     simpa using hp
    ·cases h
   ·cases h
  ·rename_i fs ds hu
   split at h
   ·rename_i us hus
    split at h
    ·rename_i hc
     cases h
     obtain⟨h1,h2,h3,h4⟩:=hc
     obtain⟨xs,q,rfl,hx,hl,hn,hel⟩:=DataW.trod_struct hu ht
     simp only[Prod.mk.injEq,DataW.agg.injEq] at hx
     obtain⟨g1,g2⟩:=qie hus
     have gl:us.length=fs.size:=by rw[g1]; simp[h1]
     have hp:=parts us cs 0 (fun i v hv=>by
      have hi:i<us.length:=(List.getElem?_eq_some_iff.1 hv).1
      obtain⟨f,hf⟩ : ∃ f,fs[i]?=some f:=⟨fs[i]'(by omega),Array.getElem?_eq_getElem (by omega)⟩
      have hfl:fs.toList[i]?=some f:=by simpa using hf
      have ho:=List.all_eq_true.1 h3 i (by simp; omega)
      simp only[hf,Option.map_some,Option.getD_some,beq_iff_eq] at ho
      have hz:(fs.toList.zip us)[i]?=some (f,v):=by simp[List.getElem?_zip_eq_some,hfl,hv]
      have hlv:=List.all_eq_true.1 h2 (f,v) (List.mem_of_getElem? hz)
      simp only[beq_iff_eq] at hlv
      rw[Nat.zero_add,<- ho,hlv]
      have:=hel i f hf
      obtain⟨x,hxi⟩ : ∃ x,xs[i]?=some x:=⟨xs[i]'(by omega),List.getElem?_eq_getElem (by omega)⟩
      rw[hxi] at this
      have hd:ds[i]?=some x.1:=by rw[hx.1]; simp[hxi]
      have hz2:(fs.toList.zip ds)[i]?=some (f,x.1):=by simp[List.getElem?_zip_eq_some,hfl,hd]
      obtain⟨b,hb,hf2⟩:=g2 i _ hz2
      rw[hv] at hb
      cases hb
      exact qif m f.type x.1 v q _ x.2 hf2 this) (by rw[hl,h4]; simp)
     simpa using hp
    ·cases h
   ·cases h
  ·cases h
end
theorem qe2{F:Nat->Nat}{w:World} : ∀ (vs:List Value),(vs.all fun v=>qa4 v)=true->RepDs F w (vs.map .lit) vs
 |[],_=>rfl
 |v::vs,h=>by
  simp only[List.all_cons,Bool.and_eq_true] at h
  exact⟨v,vs,rfl,⟨rfl,h.1⟩,qe2 vs h.2⟩
theorem qq9 {P:Program} {w:World} {n:String} {d:DataW Unit} {g:Nat} {t:TypeId} {vs:List Value} {m:Nat} (hg:P.globalNamed n=some g) (ht:(P.globals[g]?).map (·.type)=some t)
  (hf:fl P m t d=some vs) (hv:(vs.all fun v=>qa4 v&&v.oneCell')=true) (h:laidMet P [(n,d)] w):RepDs (qmi w) w (vs.map .lit) vs/\Row (qmi w) w g 0 vs:=by
 obtain⟨ps,⟨g0,t0,cs,fuel,p,q,hg0,ht0,hvar,hd,_,hps⟩,_,hcell⟩:=h
 obtain rfl:=Option.some.inj (hg.symm.trans hg0)
 obtain rfl:=Option.some.inj (ht.symm.trans ht0)
 have e:=qif m t d vs fuel cs.toList p hf hd
 have hc : ∀ i,w.cell? ⟨g,i,none⟩=vs[i]?:=fun i=>by rw[World.var?_cell hg hvar i,<- e]; simp
 refine⟨qe2 vs (by
  rw[List.all_eq_true] at hv ⊢
  intro v hvm
  have:=hv v hvm
  simp only[Bool.and_eq_true] at this
  exact this.1),fun i v hi=>by rw[Nat.zero_add,hc,hi],fun hl=>?_,fun v hvm=>?_⟩
 ·have h0:w.cell? ⟨g,vs.length-1,none⟩=some (vs[vs.length-1]'(by omega)):=by rw[hc,List.getElem?_eq_getElem]
  unfold World.cell? at h0
  unfold qmi
  split at h0
  ·rename_i c _ _ hb
   rw[hb]
   simp only[Option.isSome_none,Bool.false_eq_true,if_false] at h0
   have hlt:vs.length-1<c.size:=by
    rcases Nat.lt_or_ge (vs.length-1) c.size with h'|h'
    ·exact h'
    ·rw[Array.getElem?_eq_none h'] at h0; cases h0
   simp only
   omega
  ·cases h0
 ·have:=List.all_eq_true.1 hv v hvm
  simp only[Bool.and_eq_true] at this
  exact this.2
end
section
open Go
theorem qkF {P:Program} {w:World} {n:String} {d:DataW Unit} : ∀ (L:List (String × DataW Unit)) (ps:List MemPlace),DataW.LaidVars P w L ps->(n,d)∈L ->
  ∃ g t cs fuel p,P.globalNamed n=some g/\(P.globals[g]?).map (·.type)=some t/\w.var? P n=some cs/\DataW.trod (fun _=>()) P w 0 (fun _=>true) false fuel t cs.toList=some (d,p)
 |[],ps,_,hm=>by cases hm
 | (n',d')::r,ps,h,hm=>by
  obtain⟨g,t,cs,fuel,p,q,h1,h2,h3,h4,h5,_⟩:=h
  rcases List.mem_cons.1 hm with e|hm
  ·cases e; exact⟨g,t,cs,fuel,p,h1,h2,h3,h4⟩
  ·exact qkF r q h5 hm
theorem glb_of_laids {P:Program} {w:World} {n:String} {d:DataW Unit} {L:List (String × DataW Unit)} {g:Nat} {t:TypeId} {vs:List Value} {m:Nat} (hmem:(n,d)∈L) (hg:P.globalNamed n=some g) (ht:(P.globals[g]?).map (·.type)=some t)
  (hf:fl P m t d=some vs) (hv:(vs.all fun v=>qa4 v&&v.oneCell')=true) (h:laidMet P L w):RepDs (qmi w) w (vs.map .lit) vs/\Row (qmi w) w g 0 vs:=by
 obtain⟨ps,hL,_,hcell⟩:=h
 obtain⟨g0,t0,cs,fuel,p,hg0,ht0,hvar,hd⟩:=qkF L ps hL hmem
 obtain rfl:=Option.some.inj (hg.symm.trans hg0)
 obtain rfl:=Option.some.inj (ht.symm.trans ht0)
 have e:=qif m t d vs fuel cs.toList p hf hd
 have hc : ∀ i,w.cell? ⟨g,i,none⟩=vs[i]?:=fun i=>by rw[World.var?_cell hg hvar i,<- e]; simp
 refine⟨qe2 vs (by
  rw[List.all_eq_true] at hv ⊢
  intro v hvm
  have:=hv v hvm
  simp only[Bool.and_eq_true] at this
  exact this.1),fun i v hi=>by rw[Nat.zero_add,hc,hi],fun hl=>?_,fun v hvm=>?_⟩
 ·have h0:w.cell? ⟨g,vs.length-1,none⟩=some (vs[vs.length-1]'(by omega)):=by rw[hc,List.getElem?_eq_getElem]
  unfold World.cell? at h0
  unfold qmi
  split at h0
  ·rename_i c _ _ hb
   rw[hb]
   simp only[Option.isSome_none,Bool.false_eq_true,if_false] at h0
   have hlt:vs.length-1<c.size:=by
    rcases Nat.lt_or_ge (vs.length-1) c.size with h'|h'
    ·exact h'
    ·rw[Array.getElem?_eq_none h'] at h0; cases h0
   simp only
   omega
  ·cases h0
 ·have:=List.all_eq_true.1 hv v hvm
  simp only[Bool.and_eq_true] at this
  exact this.2
theorem wf_i64{n:Int}(h:(Lit.int .i64 n).wf=true):I64 n:=by
 simp only[Lit.wf,Bool.and_eq_true,decide_eq_true_eq] at h
 have e1:IntKind.i64.min = -9223372036854775808:=by decide
 have e2:IntKind.i64.max=9223372036854775807:=by decide
 unfold I64
 omega
theorem qvl(fid:Fid)(w:World)(b:Bool):Rep fid (qeU w) (.bool b) (.bool b):=⟨rfl,rfl⟩
end
section
def Tr.all(p:Nat->PFun->Prop):Tr->Prop
 |.nil=>True
 |.node l k f r=>l.all p/\p k f/\r.all p
theorem Tr.all_get{p:Nat->PFun->Prop} : ∀ {t:Tr},t.all p -> ∀ {n:Nat} {f:PFun},t.get n=some f->p n f
 |.nil,_,n,f,h=>by cases h
 |.node l k f r,⟨hl,hp,hr⟩,n,g,h=>by
  simp only[Tr.get] at h
  cases hb:Nat.beq n k with
  |true=>rw[hb] at h; cases h; rw[Nat.eq_of_beq_eq_true hb]; exact hp
  |false=>
   rw[hb] at h
   cases hc:Nat.ble n k with
   |true=>rw[hc] at h; exact Tr.all_get hl h
   |false=>rw[hc] at h; exact Tr.all_get hr h
end
end Go.Pm
