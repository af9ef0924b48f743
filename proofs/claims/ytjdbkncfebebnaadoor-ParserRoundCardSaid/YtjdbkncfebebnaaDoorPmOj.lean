/- Chapter 13's printer: Print, whole. The abstract machine's programs: tables of functions. Chapter 13's reference printer: strings joined. Decimal, of reference 01. -/
import Derived.Test.YtjdbkncfebebnaaDoorPmOg
import Derived.Test.YtjdbkncfebebnaaDoorPmUk
import Derived.Test.YtjdbkncfebebnaaDoorPmG5
import Derived.Test.YtjdbkncfebebnaaDoorPmFx
import Derived.Test.YtjdbkncfebebnaaDoorPmYh
set_option linter.unusedSimpArgs false
set_option linter.unusedVariables false
section SOj
namespace Go.Pm
open F
set_option maxHeartbeats 8000000
attribute [local simp] qgJ qi8
theorem qeC {w:List UInt8} (h:w≠[]) (hl:w.length<2 ^ 40):Z tQ (.call 245 [.ptr 0 0] (PW w))=some (.ret (.str (bs w)) [.cellsT 4 [.ptr 0 0,.own 1 w.length 1,.dat (.lit (.int .u8 (lastC w).toNat))],.dead]):=by
 have h0:0<w.length:=by cases w with | nil=>exact absurd rfl h | cons=>simp
 have hv:=qi7 w
 have hb:=qcn w
 have hle:w.length<=1099511627776:=by omega
 refine Z_call (pf:=F245) rfl rfl ?_
 simp[F245,h0,hv,hb,hle,bs,V.len,List.range_succ]
theorem qoW:Z tQ (.call 245 [.ptr 0 0] PE)=some (.ret (.str ⟨#[]⟩) PE):=by
 refine Z_call (pf:=F245) rfl rfl ?_
 simp[F245,V.len,List.range_succ]
theorem qfT {t u:ByteArray} {w':List UInt8} (hw:w'=pw [] [t,u]) (ht:t.size≠0) (hu:u.size≠0) (h:w'.length<2 ^ 40):Z tQ (.call 243 [.ptr 0 0,.dat (.sl [.lit (.string t),.lit (.string u)] 2 true)] PE)=some (.ret (.tup []) (PW w')):=by
 subst hw
 exact qvm true (t:=t) (ts:=[u]) ht (fun x hx=>by rw[List.mem_singleton.1 hx]; exact hu) (by simp) h
theorem qtn:Z tQ (.call 231 [.dat (.agg [.lit (.int .i64 0),.lit (.int .i64 0),.lit (.string ⟨#[]⟩),.lit (.slice none 0 0),.lit (.int .i64 0),.lit (.int .i64 0),.lit (.string ⟨#[]⟩),.lit (.slice none 0 0),.lit (.int .i64 0),.lit (.int .i64 0),.lit (.string ⟨#[]⟩),.lit (.slice none 0 0)])] [])=some (.ret (.str ⟨#[]⟩) []):=by
 have z1:=qoW
 simp only[PE] at z1
 refine Z_call (pf:=F231) rfl rfl ?_
 simp[F231,z1,qab,qad,qcF,List.range_succ,show IntKind.i64.wrap 1=1 from rfl,show IntKind.i64.wrap 2=2 from rfl,show IntKind.i64.wrap 3=3 from rfl]
theorem qto {f0:Bool} {b0:Ss} (h0:qko b0) {w:List UInt8} (hw:w=pw [] ([⟨#[111,110]⟩,⟨#[97,99,116]⟩]++((⟨#[123]⟩::(b0.tx++[⟨#[125]⟩]))))) (hsz:w.length<2 ^ 40):Z tQ (.call 231 [.dat (.agg [.lit (.int .i64 7),.lit (.int .i64 0),.lit (.string ⟨#[]⟩),kd f0 b0.fo.len b0.fo.cells,.lit (.int .i64 0),.lit (.int .i64 0),.lit (.string ⟨#[]⟩),.lit (.slice none 0 0),.lit (.int .i64 0),.lit (.int .i64 0),.lit (.string ⟨#[]⟩),.lit (.slice none 0 0)])] [])=some (.ret (.str (bs w)) []):=by
 obtain⟨w1,e1⟩ : ∃ v,v=pw [] [⟨#[111,110]⟩,⟨#[97,99,116]⟩]:=⟨_,rfl⟩
 have e2:w=pw w1 (⟨#[123]⟩::(b0.tx++[⟨#[125]⟩])):=by rw[hw,qao,<- e1]
 have s2:=hsz
 have s1:=qaj e2 s2
 have z1:=qfT e1 (by decide) (by decide) s1
 have z2:=h0 7 0 ⟨#[]⟩ f0 w1 w e2 s2
 have hne:w≠[]:=by
  rw[e2]
  apply qeX
  rw[e1,qd4]
  simp[qah]
 have zs:=qeC hne hsz
 simp only[PW,PW',PE] at z1 z2 zs
 clear e1 e2 s1 s2 hw hsz
 refine Z_call (pf:=F231) rfl rfl ?_
 simp[F231,z1,z2,zs,qab,qad,qcF,List.range_succ,show IntKind.i64.wrap 1=1 from rfl,show IntKind.i64.wrap 2=2 from rfl,show IntKind.i64.wrap 3=3 from rfl]
theorem qtp {f1:Bool} {b1:Ss} (h1:qko b1) {w:List UInt8} (hw:w=pw [] ([⟨#[111,110]⟩,⟨#[116,105,99,107]⟩]++((⟨#[123]⟩::(b1.tx++[⟨#[125]⟩]))))) (hsz:w.length<2 ^ 40):Z tQ (.call 231 [.dat (.agg [.lit (.int .i64 0),.lit (.int .i64 0),.lit (.string ⟨#[]⟩),.lit (.slice none 0 0),.lit (.int .i64 7),.lit (.int .i64 0),.lit (.string ⟨#[]⟩),kd f1 b1.fo.len b1.fo.cells,.lit (.int .i64 0),.lit (.int .i64 0),.lit (.string ⟨#[]⟩),.lit (.slice none 0 0)])] [])=some (.ret (.str (bs w)) []):=by
 obtain⟨w1,e1⟩ : ∃ v,v=pw [] [⟨#[111,110]⟩,⟨#[116,105,99,107]⟩]:=⟨_,rfl⟩
 have e2:w=pw w1 (⟨#[123]⟩::(b1.tx++[⟨#[125]⟩])):=by rw[hw,qao,<- e1]
 have s2:=hsz
 have s1:=qaj e2 s2
 have z1:=qfT e1 (by decide) (by decide) s1
 have z2:=h1 7 0 ⟨#[]⟩ f1 w1 w e2 s2
 have hne:w≠[]:=by
  rw[e2]
  apply qeX
  rw[e1,qd4]
  simp[qah]
 have zs:=qeC hne hsz
 simp only[PW,PW',PE] at z1 z2 zs
 clear e1 e2 s1 s2 hw hsz
 refine Z_call (pf:=F231) rfl rfl ?_
 simp[F231,z1,z2,zs,qab,qad,qcF,List.range_succ,show IntKind.i64.wrap 1=1 from rfl,show IntKind.i64.wrap 2=2 from rfl,show IntKind.i64.wrap 3=3 from rfl]
theorem qtq {f0:Bool} {b0:Ss} (h0:qko b0) {f1:Bool} {b1:Ss} (h1:qko b1) {w:List UInt8} (hw:w=pw [] ([⟨#[111,110]⟩,⟨#[97,99,116]⟩]++((⟨#[123]⟩::(b0.tx++[⟨#[125]⟩]))++([⟨#[111,110]⟩,⟨#[116,105,99,107]⟩]++((⟨#[123]⟩::(b1.tx++[⟨#[125]⟩]))))))) (hsz:w.length<2 ^ 40):Z tQ (.call 231 [.dat (.agg [.lit (.int .i64 7),.lit (.int .i64 0),.lit (.string ⟨#[]⟩),kd f0 b0.fo.len b0.fo.cells,.lit (.int .i64 7),.lit (.int .i64 0),.lit (.string ⟨#[]⟩),kd f1 b1.fo.len b1.fo.cells,.lit (.int .i64 0),.lit (.int .i64 0),.lit (.string ⟨#[]⟩),.lit (.slice none 0 0)])] [])=some (.ret (.str (bs w)) []):=by
 obtain⟨w1,e1⟩ : ∃ v,v=pw [] [⟨#[111,110]⟩,⟨#[97,99,116]⟩]:=⟨_,rfl⟩
 obtain⟨w2,e2⟩ : ∃ v,v=pw w1 (⟨#[123]⟩::(b0.tx++[⟨#[125]⟩])):=⟨_,rfl⟩
 obtain⟨w3,e3⟩ : ∃ v,v=pw w2 [⟨#[111,110]⟩,⟨#[116,105,99,107]⟩]:=⟨_,rfl⟩
 have e4:w=pw w3 (⟨#[123]⟩::(b1.tx++[⟨#[125]⟩])):=by rw[hw,qao,<- e1,qao,<- e2,qao,<- e3]
 have s4:=hsz
 have s3:=qaj e4 s4
 have s2:=qaj e3 s3
 have s1:=qaj e2 s2
 have z1:=qfT e1 (by decide) (by decide) s1
 have z2:=h0 7 0 ⟨#[]⟩ f0 w1 w2 e2 s2
 have z3:=qfC e3 (by decide) (by decide) s3
 have z4:=h1 7 0 ⟨#[]⟩ f1 w3 w e4 s4
 have hne:w≠[]:=by
  rw[e4]
  apply qeX
  rw[e3]
  apply qeX
  rw[e2]
  apply qeX
  rw[e1,qd4]
  simp[qah]
 have zs:=qeC hne hsz
 simp only[PW,PW',PE] at z1 z2 z3 z4 zs
 clear e1 e2 e3 e4 s1 s2 s3 s4 hw hsz
 refine Z_call (pf:=F231) rfl rfl ?_
 simp[F231,z1,z2,z3,z4,zs,qab,qad,qcF,List.range_succ,show IntKind.i64.wrap 1=1 from rfl,show IntKind.i64.wrap 2=2 from rfl,show IntKind.i64.wrap 3=3 from rfl]
theorem qtr {f2:Bool} {b2:Ss} (h2:qko b2) {w:List UInt8} (hw:w=pw [] ([⟨#[111,110]⟩,⟨#[104,105,116]⟩]++((⟨#[123]⟩::(b2.tx++[⟨#[125]⟩]))))) (hsz:w.length<2 ^ 40):Z tQ (.call 231 [.dat (.agg [.lit (.int .i64 0),.lit (.int .i64 0),.lit (.string ⟨#[]⟩),.lit (.slice none 0 0),.lit (.int .i64 0),.lit (.int .i64 0),.lit (.string ⟨#[]⟩),.lit (.slice none 0 0),.lit (.int .i64 7),.lit (.int .i64 0),.lit (.string ⟨#[]⟩),kd f2 b2.fo.len b2.fo.cells])] [])=some (.ret (.str (bs w)) []):=by
 obtain⟨w1,e1⟩ : ∃ v,v=pw [] [⟨#[111,110]⟩,⟨#[104,105,116]⟩]:=⟨_,rfl⟩
 have e2:w=pw w1 (⟨#[123]⟩::(b2.tx++[⟨#[125]⟩])):=by rw[hw,qao,<- e1]
 have s2:=hsz
 have s1:=qaj e2 s2
 have z1:=qfT e1 (by decide) (by decide) s1
 have z2:=h2 7 0 ⟨#[]⟩ f2 w1 w e2 s2
 have hne:w≠[]:=by
  rw[e2]
  apply qeX
  rw[e1,qd4]
  simp[qah]
 have zs:=qeC hne hsz
 simp only[PW,PW',PE] at z1 z2 zs
 clear e1 e2 s1 s2 hw hsz
 refine Z_call (pf:=F231) rfl rfl ?_
 simp[F231,z1,z2,zs,qab,qad,qcF,List.range_succ,show IntKind.i64.wrap 1=1 from rfl,show IntKind.i64.wrap 2=2 from rfl,show IntKind.i64.wrap 3=3 from rfl]
theorem qts {f0:Bool} {b0:Ss} (h0:qko b0) {f2:Bool} {b2:Ss} (h2:qko b2) {w:List UInt8} (hw:w=pw [] ([⟨#[111,110]⟩,⟨#[97,99,116]⟩]++((⟨#[123]⟩::(b0.tx++[⟨#[125]⟩]))++([⟨#[111,110]⟩,⟨#[104,105,116]⟩]++((⟨#[123]⟩::(b2.tx++[⟨#[125]⟩]))))))) (hsz:w.length<2 ^ 40):Z tQ (.call 231 [.dat (.agg [.lit (.int .i64 7),.lit (.int .i64 0),.lit (.string ⟨#[]⟩),kd f0 b0.fo.len b0.fo.cells,.lit (.int .i64 0),.lit (.int .i64 0),.lit (.string ⟨#[]⟩),.lit (.slice none 0 0),.lit (.int .i64 7),.lit (.int .i64 0),.lit (.string ⟨#[]⟩),kd f2 b2.fo.len b2.fo.cells])] [])=some (.ret (.str (bs w)) []):=by
 obtain⟨w1,e1⟩ : ∃ v,v=pw [] [⟨#[111,110]⟩,⟨#[97,99,116]⟩]:=⟨_,rfl⟩
 obtain⟨w2,e2⟩ : ∃ v,v=pw w1 (⟨#[123]⟩::(b0.tx++[⟨#[125]⟩])):=⟨_,rfl⟩
 obtain⟨w3,e3⟩ : ∃ v,v=pw w2 [⟨#[111,110]⟩,⟨#[104,105,116]⟩]:=⟨_,rfl⟩
 have e4:w=pw w3 (⟨#[123]⟩::(b2.tx++[⟨#[125]⟩])):=by rw[hw,qao,<- e1,qao,<- e2,qao,<- e3]
 have s4:=hsz
 have s3:=qaj e4 s4
 have s2:=qaj e3 s3
 have s1:=qaj e2 s2
 have z1:=qfT e1 (by decide) (by decide) s1
 have z2:=h0 7 0 ⟨#[]⟩ f0 w1 w2 e2 s2
 have z3:=qfC e3 (by decide) (by decide) s3
 have z4:=h2 7 0 ⟨#[]⟩ f2 w3 w e4 s4
 have hne:w≠[]:=by
  rw[e4]
  apply qeX
  rw[e3]
  apply qeX
  rw[e2]
  apply qeX
  rw[e1,qd4]
  simp[qah]
 have zs:=qeC hne hsz
 simp only[PW,PW',PE] at z1 z2 z3 z4 zs
 clear e1 e2 e3 e4 s1 s2 s3 s4 hw hsz
 refine Z_call (pf:=F231) rfl rfl ?_
 simp[F231,z1,z2,z3,z4,zs,qab,qad,qcF,List.range_succ,show IntKind.i64.wrap 1=1 from rfl,show IntKind.i64.wrap 2=2 from rfl,show IntKind.i64.wrap 3=3 from rfl]
theorem qtt {f1:Bool} {b1:Ss} (h1:qko b1) {f2:Bool} {b2:Ss} (h2:qko b2) {w:List UInt8} (hw:w=pw [] ([⟨#[111,110]⟩,⟨#[116,105,99,107]⟩]++((⟨#[123]⟩::(b1.tx++[⟨#[125]⟩]))++([⟨#[111,110]⟩,⟨#[104,105,116]⟩]++((⟨#[123]⟩::(b2.tx++[⟨#[125]⟩]))))))) (hsz:w.length<2 ^ 40):Z tQ (.call 231 [.dat (.agg [.lit (.int .i64 0),.lit (.int .i64 0),.lit (.string ⟨#[]⟩),.lit (.slice none 0 0),.lit (.int .i64 7),.lit (.int .i64 0),.lit (.string ⟨#[]⟩),kd f1 b1.fo.len b1.fo.cells,.lit (.int .i64 7),.lit (.int .i64 0),.lit (.string ⟨#[]⟩),kd f2 b2.fo.len b2.fo.cells])] [])=some (.ret (.str (bs w)) []):=by
 obtain⟨w1,e1⟩ : ∃ v,v=pw [] [⟨#[111,110]⟩,⟨#[116,105,99,107]⟩]:=⟨_,rfl⟩
 obtain⟨w2,e2⟩ : ∃ v,v=pw w1 (⟨#[123]⟩::(b1.tx++[⟨#[125]⟩])):=⟨_,rfl⟩
 obtain⟨w3,e3⟩ : ∃ v,v=pw w2 [⟨#[111,110]⟩,⟨#[104,105,116]⟩]:=⟨_,rfl⟩
 have e4:w=pw w3 (⟨#[123]⟩::(b2.tx++[⟨#[125]⟩])):=by rw[hw,qao,<- e1,qao,<- e2,qao,<- e3]
 have s4:=hsz
 have s3:=qaj e4 s4
 have s2:=qaj e3 s3
 have s1:=qaj e2 s2
 have z1:=qfT e1 (by decide) (by decide) s1
 have z2:=h1 7 0 ⟨#[]⟩ f1 w1 w2 e2 s2
 have z3:=qfC e3 (by decide) (by decide) s3
 have z4:=h2 7 0 ⟨#[]⟩ f2 w3 w e4 s4
 have hne:w≠[]:=by
  rw[e4]
  apply qeX
  rw[e3]
  apply qeX
  rw[e2]
  apply qeX
  rw[e1,qd4]
  simp[qah]
 have zs:=qeC hne hsz
 simp only[PW,PW',PE] at z1 z2 z3 z4 zs
 clear e1 e2 e3 e4 s1 s2 s3 s4 hw hsz
 refine Z_call (pf:=F231) rfl rfl ?_
 simp[F231,z1,z2,z3,z4,zs,qab,qad,qcF,List.range_succ,show IntKind.i64.wrap 1=1 from rfl,show IntKind.i64.wrap 2=2 from rfl,show IntKind.i64.wrap 3=3 from rfl]
theorem qtu {f0:Bool} {b0:Ss} (h0:qko b0) {f1:Bool} {b1:Ss} (h1:qko b1) {f2:Bool} {b2:Ss} (h2:qko b2) {w:List UInt8} (hw:w=pw [] ([⟨#[111,110]⟩,⟨#[97,99,116]⟩]++((⟨#[123]⟩::(b0.tx++[⟨#[125]⟩]))++([⟨#[111,110]⟩,⟨#[116,105,99,107]⟩]++((⟨#[123]⟩::(b1.tx++[⟨#[125]⟩]))++([⟨#[111,110]⟩,⟨#[104,105,116]⟩]++((⟨#[123]⟩::(b2.tx++[⟨#[125]⟩]))))))))) (hsz:w.length<2 ^ 40):Z tQ (.call 231 [.dat (.agg [.lit (.int .i64 7),.lit (.int .i64 0),.lit (.string ⟨#[]⟩),kd f0 b0.fo.len b0.fo.cells,.lit (.int .i64 7),.lit (.int .i64 0),.lit (.string ⟨#[]⟩),kd f1 b1.fo.len b1.fo.cells,.lit (.int .i64 7),.lit (.int .i64 0),.lit (.string ⟨#[]⟩),kd f2 b2.fo.len b2.fo.cells])] [])=some (.ret (.str (bs w)) []):=by
 obtain⟨w1,e1⟩ : ∃ v,v=pw [] [⟨#[111,110]⟩,⟨#[97,99,116]⟩]:=⟨_,rfl⟩
 obtain⟨w2,e2⟩ : ∃ v,v=pw w1 (⟨#[123]⟩::(b0.tx++[⟨#[125]⟩])):=⟨_,rfl⟩
 obtain⟨w3,e3⟩ : ∃ v,v=pw w2 [⟨#[111,110]⟩,⟨#[116,105,99,107]⟩]:=⟨_,rfl⟩
 obtain⟨w4,e4⟩ : ∃ v,v=pw w3 (⟨#[123]⟩::(b1.tx++[⟨#[125]⟩])):=⟨_,rfl⟩
 obtain⟨w5,e5⟩ : ∃ v,v=pw w4 [⟨#[111,110]⟩,⟨#[104,105,116]⟩]:=⟨_,rfl⟩
 have e6:w=pw w5 (⟨#[123]⟩::(b2.tx++[⟨#[125]⟩])):=by rw[hw,qao,<- e1,qao,<- e2,qao,<- e3,qao,<- e4,qao,<- e5]
 have s6:=hsz
 have s5:=qaj e6 s6
 have s4:=qaj e5 s5
 have s3:=qaj e4 s4
 have s2:=qaj e3 s3
 have s1:=qaj e2 s2
 have z1:=qfT e1 (by decide) (by decide) s1
 have z2:=h0 7 0 ⟨#[]⟩ f0 w1 w2 e2 s2
 have z3:=qfC e3 (by decide) (by decide) s3
 have z4:=h1 7 0 ⟨#[]⟩ f1 w3 w4 e4 s4
 have z5:=qfC e5 (by decide) (by decide) s5
 have z6:=h2 7 0 ⟨#[]⟩ f2 w5 w e6 s6
 have hne:w≠[]:=by
  rw[e6]
  apply qeX
  rw[e5]
  apply qeX
  rw[e4]
  apply qeX
  rw[e3]
  apply qeX
  rw[e2]
  apply qeX
  rw[e1,qd4]
  simp[qah]
 have zs:=qeC hne hsz
 simp only[PW,PW',PE] at z1 z2 z3 z4 z5 z6 zs
 clear e1 e2 e3 e4 e5 e6 s1 s2 s3 s4 s5 s6 hw hsz
 refine Z_call (pf:=F231) rfl rfl ?_
 simp[F231,z1,z2,z3,z4,z5,z6,zs,qab,qad,qcF,List.range_succ,show IntKind.i64.wrap 1=1 from rfl,show IntKind.i64.wrap 2=2 from rfl,show IntKind.i64.wrap 3=3 from rfl]
theorem qoX {a b c:Hd} (hg : ∀ k,qcV (Hd.opts a b c k)) (hsz:(qah false (qaJ (Hd.opts a b c))).length<2 ^ 40) :
  Z tQ (.call 231 [.dat (ru a.nd b.nd c.nd)] [])=some (.ret (.str (bs (qah false (qaJ (Hd.opts a b c))))) []):=by
 have hb : ∀ {s:Ss} (k:Nat),Hd.opts a b c k=some s->qko s:=fun k h=>qmn ((hg k) _ h).1 ((quG _).1 ((hg k) _ h).1)
 rw[<- qd4] at hsz ⊢
 cases a<;>cases b<;>cases c
 ·exact qtn
 ·refine qtr (hb 2 rfl) ?_ hsz
  simp only[qaJ,qeH,Hd.opts,Hd.opt,qbS,onS,qeZ,qhi,List.nil_append,List.append_nil,List.cons_append,List.append_assoc]
  rfl
 ·refine qtp (hb 1 rfl) ?_ hsz
  simp only[qaJ,qeH,Hd.opts,Hd.opt,qbS,onS,qeZ,qhi,List.nil_append,List.append_nil,List.cons_append,List.append_assoc]
  rfl
 ·refine qtt (hb 1 rfl) (hb 2 rfl) ?_ hsz
  simp only[qaJ,qeH,Hd.opts,Hd.opt,qbS,onS,qeZ,qhi,List.nil_append,List.append_nil,List.cons_append,List.append_assoc]
  rfl
 ·refine qto (hb 0 rfl) ?_ hsz
  simp only[qaJ,qeH,Hd.opts,Hd.opt,qbS,onS,qeZ,qhi,List.nil_append,List.append_nil,List.cons_append,List.append_assoc]
  rfl
 ·refine qts (hb 0 rfl) (hb 2 rfl) ?_ hsz
  simp only[qaJ,qeH,Hd.opts,Hd.opt,qbS,onS,qeZ,qhi,List.nil_append,List.append_nil,List.cons_append,List.append_assoc]
  rfl
 ·refine qtq (hb 0 rfl) (hb 1 rfl) ?_ hsz
  simp only[qaJ,qeH,Hd.opts,Hd.opt,qbS,onS,qeZ,qhi,List.nil_append,List.append_nil,List.cons_append,List.append_assoc]
  rfl
 ·refine qtu (hb 0 rfl) (hb 1 rfl) (hb 2 rfl) ?_ hsz
  simp only[qaJ,qeH,Hd.opts,Hd.opt,qbS,onS,qeZ,qhi,List.nil_append,List.append_nil,List.cons_append,List.append_assoc]
  rfl
end Go.Pm
end SOj
section STS
namespace Go.Pm.F
def tS:Nat->Option PFun
 | 20=>some F20
 | 152=>some F152
 | 192=>some F192
 | 193=>some F193
 | 234=>some F234
 | 236=>some F236
 | 246=>some F246
 | 247=>some F247
 | 248=>some F248
 | 261=>some F261
 | 262=>some F262
 | 263=>some F263
 | _=>none
end Go.Pm.F
end STS
section SSa
namespace Go.Pm
open F
set_option maxHeartbeats 4000000
theorem qlw (c:UInt8):Z tS (.call 192 [.dat (.lit (.int .u8 c.toNat))] [])=some (.ret (.bool (qaU c)) []):=by
 refine Z_call (pf:=F192) rfl rfl ?_
 by_cases h1:(97:Int)<=c.toNat
 ·have h1':97<=c.toNat:=by omega
  by_cases h2:(c.toNat:Int)<=122
  ·have h2':c.toNat<=122:=by omega
   simp[F192,qaU,h1,h1',h2,h2']
  ·have h2' : ¬ c.toNat<=122:=by omega
   simp[F192,qaU,h1,h1',h2,h2']
 ·have h1' : ¬ 97<=c.toNat:=by omega
  simp[F192,qaU,h1,h1']
theorem qm1 (c:UInt8):Z tS (.call 193 [.dat (.lit (.int .u8 c.toNat))] [])=some (.ret (.bool (qaq c)) []):=by
 refine Z_call (pf:=F193) rfl rfl ?_
 by_cases h1:(48:Int)<=c.toNat
 ·have h1':48<=c.toNat:=by omega
  by_cases h2:(c.toNat:Int)<=57
  ·have h2':c.toNat<=57:=by omega
   simp[F193,qaq,h1,h1',h2,h2']
  ·have h2' : ¬ c.toNat<=57:=by omega
   simp[F193,qaq,h1,h1',h2,h2']
 ·have h1' : ¬ 48<=c.toNat:=by omega
  simp[F193,qaq,h1,h1']
theorem qrT (a b:List UInt8):bs a++bs b=bs (a++b):=by
 apply qki
 simp[byl,bs,ByteArray.data_append]
theorem qcj (a b:ByteArray):a++b=bs (byl a++byl b):=by
 rw[<- qrT,qcW,qcW]
theorem qjs:qap qau ⟨#[]⟩=false:=by rw[qaK]; rfl
theorem qrU (a b:ByteArray) (h:a.size+b.size<2 ^ 40):Z tS (.call 262 [.str a,.str b] [])=some (.ret (.str (bs (pw (byl a) [b]))) []):=by
 have hab : ¬ (9223372036854775807:Int)<(a.size:Int)+(b.size:Int):=by omega
 have plain:gap (wl (byl a)) b=[]->bs (pw (byl a) [b])=a++b:=fun hg=>by
  rw[qcM,qdW,hg,List.nil_append,qcj]
 refine Z_call (pf:=F262) rfl rfl ?_
 by_cases ha:a=⟨#[]⟩
 ·rw[plain (by rw[ha]; rfl)]
  have e:eqS a ⟨#[]⟩=true:=by rw[qa0]; simp[ha]
  simp[F262,e,hab]
 ·have ea:eqS a ⟨#[]⟩=false:=by rw[qa0]; simp[ha]
  by_cases hb:b=⟨#[]⟩
  ·rw[plain (by rw[hb,gap,qjs]; simp)]
   have e:eqS b ⟨#[]⟩=true:=by rw[qa0]; simp[hb]
   simp[F262,ea,e,hab]
  ·have eb:eqS b ⟨#[]⟩=false:=by rw[qa0]; simp[hb]
   have nz : ∀ {t:ByteArray},t≠⟨#[]⟩->t.size≠0:=fun {t} h h0=>h (by
    apply qki
    have:(byl t).length=0:=by rw[qav,h0]
    rw[List.eq_nil_of_length_eq_zero this])
   have ha0:=nz ha
   obtain⟨y,hy,hs⟩:=qmI (nz hb)
   have hx:=qlT ha0
   have hwl:wl (byl a)=qau (lastC (byl a)):=rfl
   generalize lastC (byl a)=x at *
   have l1:=qlw x
   have l2:=qm1 x
   have l3:=qlw y
   have l4:=qm1 y
   have w2:=qai ((a.size:Int)-1) (by omega)
   have w3:((a.size:Int)-1).toNat=a.size-1:=by omega
   have w4:(0:Int)<=(a.size:Int)-1:=by omega
   have w5:(1:Int)<=a.size:=by omega
   by_cases hg:(qau x&&qau y)=true
   ·have hgap:gap (wl (byl a)) b=[32]:=by rw[gap,hwl,hs,if_pos hg]
    have e:bs (pw (byl a) [b])=a++⟨#[32]⟩++b:=by
     rw[qcM,qdW,hgap,qcj,qcj a,qa2]
     simp[byl]
    rw[e]
    have hab2 : ¬ (9223372036854775807:Int)<(a.size:Int)+1:=by omega
    have hab3 : ¬ (9223372036854775807:Int)<(a.size:Int)+1+(b.size:Int):=by omega
    have hsz:(a++⟨#[32]⟩:ByteArray).size=a.size+1:=by rw[ByteArray.size_append]; rfl
    have hsp:(⟨#[32]⟩:ByteArray).size=1:=rfl
    have hsp2:((⟨#[32]⟩:ByteArray).size:Int)=1:=rfl
    unfold qau at hg
    cases h1:qaU x<;>cases h2:qaq x<;>cases h3:qaU y<;>cases h4:qaq y<;>rw[h1,h2,h3,h4] at hg<;>simp at hg<;>rw[h1] at l1<;>rw[h2] at l2<;>rw[h3] at l3<;>rw[h4] at l4 <;>
     simp[F262,ea,eb,hx,hy,l1,l2,l3,l4,w2,w3,w4,w5,hab2,hab3,hsz,hsp,hsp2,V.len]
   ·have hgap:gap (wl (byl a)) b=[]:=by rw[gap,hwl,hs,if_neg hg]
    rw[plain hgap]
    unfold qau at hg
    cases h1:qaU x<;>cases h2:qaq x<;>cases h3:qaU y<;>cases h4:qaq y<;>rw[h1,h2,h3,h4] at hg<;>simp at hg<;>rw[h1] at l1<;>rw[h2] at l2<;>rw[h3] at l3<;>rw[h4] at l4 <;>
     simp[F262,ea,eb,hx,hy,l1,l2,l3,l4,w2,w3,w4,w5,hab,V.len]
theorem qm2 (fl:Bool) (ts:List ByteArray) (hn:ts.length<2 ^ 30) : ∀ (m i:Nat) (w:List UInt8),i+m=ts.length->(pw w (ts.drop i)).length<2 ^ 40 ->
  Z tS (.loop 0 F247l0 [(0,.dat (.sl (strC ts) ts.length fl)),(3,.str (bs w)),(4,.int i)] [])=some (.out (.exit 0) [(0,.dat (.sl (strC ts) ts.length fl)),(3,.str (bs (pw w (ts.drop i)))),(4,.int ts.length),(8,.bool false)] [])
 | 0,i,w,hi,hsz=>by
  have hi':i=ts.length:=by omega
  subst hi'
  rw[List.drop_length,qdW]
  rw[qab]
  simp[qad,qjm,V.len]
 | m+1,i,w,hi,hsz=>by
  have hlt:i<ts.length:=by omega
  have hd:ts.drop i=ts[i]::ts.drop (i+1):=List.drop_eq_getElem_cons hlt
  rw[hd,qcM] at hsz ⊢
  have hc:=qgt ts i hlt
  generalize ts[i]=t at *
  have hw0:(w++(gap (wl w) t++byl t)).length<2 ^ 40:=Nat.lt_of_le_of_lt (qja _ _) hsz
  have ih:=qm2 fl ts hn m (i+1) (w++(gap (wl w) t++byl t)) (by omega) hsz
  rw[<- ih]
  have z:=qrU (bs w) t (by rw[List.length_append,List.length_append,qav] at hw0; rw[qal]; omega)
  rw[qa2,qcM,qdW] at z
  have w1:=qai ((i:Int)+1) (by omega)
  have hlt':(i:Int)<ts.length:=by omega
  conv=>lhs; rw[qab]
  generalize bs (w++(gap (wl w) t++byl t))=R at *
  generalize bs w=R0 at *
  simp[qad,qjm,z,hc,w1,hlt',hlt,qaf,V.len]
theorem qxB (fl:Bool) {ts:List ByteArray} {R:ByteArray} (hR:R=bs (pw [] ts)) (hn:ts.length<2 ^ 30) (hsz:R.size<2 ^ 40):Z tS (.call 247 [.dat (.sl (strC ts) ts.length fl)] [])=some (.ret (.str R) []):=by
 subst hR
 have z:=qm2 fl ts hn ts.length 0 [] (by omega) (by rw[List.drop_zero]; exact hsz)
 rw[List.drop_zero] at z
 simp only[Int.cast_ofNat_Int] at z
 rw[show bs []=⟨#[]⟩ from rfl] at z
 refine Z_call (pf:=F247) rfl rfl ?_
 generalize bs (pw [] ts)=R at *
 simp[F247,z]
theorem qrV (w:List UInt8) {ts:List ByteArray} (h : ∀ t∈ts,t.size≠0):pw w [bs (qah false ts)]=pw w ts:=by
 cases ts with
 | nil=>
  rw[qcM,qdW,qdW,qah]
  have:=qjs
  simp[gap,bs,byl,this]
 | cons t ts=>
  have ht:=h t (List.mem_cons_self ..)
  cases hb:byl t with
  | nil=>exact absurd (by rw[<- qav,hb]; rfl) ht
  | cons c r=>
   have hs:qap qau (bs (qah false (t::ts)))=qap qau t:=by
    rw[qaK,qaK,qa2,qah,hb]
    rfl
   have hg:gap (wl w) (bs (qah false (t::ts)))=gap (wl w) t:=by rw[gap,gap,hs]
   have he:qbw (wl w) t=qbw false t:=by
    unfold qbw
    cases hl:(byl t).getLast? with
    | none=>rw[List.getLast?_eq_none_iff] at hl; rw[hl] at hb; cases hb
    | some c=>rfl
   rw[qcM,qdW,hg,qa2]
   show w++(gap (wl w) t++qah false (t::ts))=w++qah (wl w) (t::ts)
   rw[qah,qah,he]
   rfl
theorem qma (w:List UInt8) {ts:List ByteArray} (h : ∀ t∈ts,t.size≠0) (r:List ByteArray):pw w (bs (qah false ts)::r)=pw w (ts++r):=by
 rw[show bs (qah false ts)::r=[bs (qah false ts)]++r from rfl,qao,qrV w h,<- qao]
end Go.Pm
end SSa
section SJr
namespace Go.Pm
open F
set_option maxHeartbeats 2000000
def digS:ByteArray:=⟨#[48,49,50,51,52,53,54,55,56,57]⟩
theorem qsT : ∀ d,d<10->digS.extract d (d+1)=bs [(48+d).toUInt8]:=by decide
theorem qmz (n:Int) : ∀ (k m:Nat) (out:ByteArray),m<10 ^ k->k<=18->out.size+k<=100 ->
  Z tS (.loop 0 F20l0 [(0,.int n),(3,.str digS),(4,.str out),(5,.int m)] [])=some (.out (.exit 0) [(0,.int n),(3,.str digS),(4,.str (bs (if m=0 then [] else qit k m)++out)),(5,.int 0),(11,.bool false)] [])
 | k,0,out,_,_,_=>by
  rw[qab]
  have e:bs []++out=out:=by rw[show bs []=ByteArray.empty from rfl,ByteArray.empty_append]
  simp[qad,qln,digS,e]
 | 0,m+1,out,h,_,_=>by simp at h
 | k+1,m+1,out,h,hk,ho=>by
  have hp:(10:Nat) ^ (k+1)<=10 ^ 18:=Nat.pow_le_pow_right (by omega) hk
  have hd:((m+1:Nat):Int).tmod 10=(((m+1) % 10:Nat):Int):=rfl
  have hq:((m+1:Nat):Int).tdiv 10=(((m+1) / 10:Nat):Int):=rfl
  have hlt:(m+1) % 10<10:=Nat.mod_lt _ (by omega)
  have hx:=qsT _ hlt
  have w1:=qai (((m+1) % 10:Nat)+1:Int) (by omega)
  have w2:IntKind.i64.wrap (((m+1) / 10:Nat):Int)=((m+1) / 10:Nat):=qai _ (by omega)
  have hne : ¬ ((m+1:Nat):Int)=0:=by omega
  have hneg : ¬ (((m+1) % 10:Nat):Int)<0:=by omega
  have ih:=qmz n k ((m+1) / 10) (bs [(48+(m+1) % 10).toUInt8]++out) (by rw[Nat.pow_succ] at h; omega) (by omega) (by rw[ByteArray.size_append,qal]; simp; omega)
  have hres:bs (if (m+1) / 10=0 then [] else qit k ((m+1) / 10))++(bs [(48+(m+1) % 10).toUInt8]++out)=bs (qit (k+1) (m+1))++out:=by
   rw[<- ByteArray.append_assoc]
   congr 1
   simp only[qit]
   by_cases h10:m+1<10
   ·rw[if_pos h10,if_pos (by omega),Nat.mod_eq_of_lt h10]
    rfl
   ·rw[if_neg h10,if_neg (by omega)]
    rfl
  rw[hres] at ih
  rw[if_neg (by omega),<- ih]
  generalize hd2:(m+1) % 10=d at *
  generalize hq2:(m+1) / 10=q at *
  generalize hm:m+1=M at *
  have hM : ¬ M=0:=by omega
  have b1:(d:Int)<=digS.size:=by rw[show digS.size=10 from rfl]; omega
  have b2:(d:Int)+1<=digS.size:=by rw[show digS.size=10 from rfl]; omega
  have b3:(0:Int)<=(d:Int)+1:=by omega
  have b4:((d:Int)+1).toNat=d+1:=by omega
  have b5:(d:Int)<=(d:Int)+1:=by omega
  have hsz : ¬ (9223372036854775807:Int)<((bs [(48+d).toUInt8]).size:Int)+out.size:=by rw[qal]; simp; omega
  generalize digS=ds at *
  generalize bs [(48+d).toUInt8]=ch at *
  conv=>lhs; rw[qab]
  simp[qad,qln,qbC,bound,hd,hq,hne,hneg,w1,w2,b1,b2,b3,b4,b5,hx,hsz,hM]
theorem qow {n:Nat} (h:n<10 ^ 18):Z tS (.call 20 [.int n] [])=some (.ret (.str (bs (decB n))) []):=by
 refine Z_call (pf:=F20) rfl rfl ?_
 by_cases h0:n=0
 ·subst h0
  simp[F20,decB,qit,bs]
 ·have hne : ¬ (n:Int)=0:=by omega
  have hneg : ¬ (n:Int)<0:=by omega
  have z:=qmz n 18 n ⟨#[]⟩ h (by omega) (by decide)
  rw[if_neg h0] at z
  have e : ∀ (k j n:Nat),n<10 ^ k->1<=k->qit (k+j) n=qit k n:=fun k=>by
   induction k with
   | zero=>intro j n _ h; omega
   | succ k ih=>
    intro j n hn _
    rw[show k+1+j=(k+j)+1 by omega]
    simp only[qit]
    split
    ·rfl
    ·rename_i h10
     have hk:1<=k:=by
      rcases k with _ | k
      ·simp at hn; omega
      ·omega
     rw[ih j (n / 10) (by rw[Nat.pow_succ] at hn; omega) hk]
  have e2:bs (qit 18 n)++⟨#[]⟩=bs (decB n):=by
   rw[show decB n=qit (18+2) n from rfl,e 18 2 n h (by omega)]
   exact ByteArray.append_empty
  rw[e2] at z
  simp only[digS] at z
  simp[F20,h0,hne,hneg,z]
end Go.Pm
end SJr
