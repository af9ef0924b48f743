/- Chapter 13's printer: Print, whole. -/
import Derived.Test.YtoccgneneplciaaGreatDoorPmAL
import Derived.Test.YtoccgneneplciaaGreatDoorPmG5
import Derived.Test.YtoccgneneplciaaGreatDoorPmUc
import Derived.Test.YtoccgneneplciaaGreatDoorPmF3
import Derived.Test.YtoccgneneplciaaGreatDoorPmEt
import Derived.Test.YtoccgneneplciaaGreatDoorPmJc
import Derived.Test.YtoccgneneplciaaGreatDoorPmR1
set_option linter.unusedSimpArgs false
set_option linter.unusedVariables false
set_option maxHeartbeats 4000000
namespace Go.Pm
section
open F
attribute [local simp] qgc qi3
theorem qeL{w:List UInt8}(h:w≠[])(hl:w.length<2 ^ 40):Z tQ (.call 245 [.ptr 0 0] (PW w))=some (.ret (.str (bs w)) [.cellsT 4 [.ptr 0 0,.own 1 w.length 1,.dat (.lit (.int .u8 (lastC w).toNat))],.dead]):=by
 have h0:0<w.length:=by cases w with|nil=>exact absurd rfl h|cons=>simp
 have hv:=qj8 w
 have hb:=qj9 w
 have hle:w.length<=1099511627776:=by omega
 refine Z_call (pf:=F245) rfl rfl ?_
 simp[F245,h0,hv,hb,hle,bs,V.len,Wa]
theorem qqZ:Z tQ (.call 245 [.ptr 0 0] PE)=some (.ret (.str ⟨#[]⟩) PE):=by
 refine Z_call (pf:=F245) rfl rfl ?_
 simp[F245,V.len,Wa]
theorem qgg{t u:ByteArray}{w':List UInt8}(hw:w'=pw [] [t,u])(ht:t.size≠0)(hu:u.size≠0)(h:w'.length<2 ^ 40):Z tQ (.call 243 [.ptr 0 0,.dat (.sl [.lit (.string t),.lit (.string u)] 2 true)] PE)=some (.ret (.tup []) (PW w')):=by
 subst hw
 exact qxy true (t:=t) (ts:=[u]) ht (fun x hx=>by rw[Wk.1 hx]; exact hu) (by simp) h
theorem qvt:Z tQ (.call 231 [.dat (.agg [.lit (.int .i64 0),.lit (.int .i64 0),.lit (.string ⟨#[]⟩),.lit (.slice none 0 0),.lit (.int .i64 0),.lit (.int .i64 0),.lit (.string ⟨#[]⟩),.lit (.slice none 0 0),.lit (.int .i64 0),.lit (.int .i64 0),.lit (.string ⟨#[]⟩),.lit (.slice none 0 0)])] [])=some (.ret (.str ⟨#[]⟩) []):=by
 have z1:=qqZ
 simp only[PE] at z1
 refine Z_call (pf:=F231) rfl rfl ?_
 simp[F231,z1,qab,qaa,qcE,Wa,show IntKind.i64.wrap 1=1 from rfl,show IntKind.i64.wrap 2=2 from rfl,show IntKind.i64.wrap 3=3 from rfl]
theorem qvu{f0:Bool}{b0:Ss}(h0:qlB b0){w:List UInt8}(hw:w=pw [] ([⟨#[111,110]⟩,⟨#[97,99,116]⟩]++((⟨#[123]⟩::(b0.tx++[⟨#[125]⟩])))))(hsz:w.length<2 ^ 40):Z tQ (.call 231 [.dat (.agg [.lit (.int .i64 7),.lit (.int .i64 0),.lit (.string ⟨#[]⟩),kd f0 b0.fo.len b0.fo.cells,.lit (.int .i64 0),.lit (.int .i64 0),.lit (.string ⟨#[]⟩),.lit (.slice none 0 0),.lit (.int .i64 0),.lit (.int .i64 0),.lit (.string ⟨#[]⟩),.lit (.slice none 0 0)])] [])=some (.ret (.str (bs w)) []):=by
 obtain⟨w1,e1⟩ : ∃ v,v=pw [] [⟨#[111,110]⟩,⟨#[97,99,116]⟩]:=⟨_,rfl⟩
 have e2:w=pw w1 (⟨#[123]⟩::(b0.tx++[⟨#[125]⟩])):=by rw[hw,qay,<- e1]
 have s2:=hsz
 have s1:=qar e2 s2
 have z1:=qgg e1 (by decide) (by decide) s1
 have z2:=h0 7 0 ⟨#[]⟩ f0 w1 w e2 s2
 have hne:w≠[]:=by
  rw[e2]
  apply qfb
  rw[e1,qd7]
  simp[qao]
 have zs:=qeL hne hsz
 simp only[PW,PW',PE] at z1 z2 zs
 clear e1 e2 s1 s2 hw hsz
 refine Z_call (pf:=F231) rfl rfl ?_
 simp[F231,z1,z2,zs,qab,qaa,qcE,Wa,show IntKind.i64.wrap 1=1 from rfl,show IntKind.i64.wrap 2=2 from rfl,show IntKind.i64.wrap 3=3 from rfl]
theorem qvv{f1:Bool}{b1:Ss}(h1:qlB b1){w:List UInt8}(hw:w=pw [] ([⟨#[111,110]⟩,⟨#[116,105,99,107]⟩]++((⟨#[123]⟩::(b1.tx++[⟨#[125]⟩])))))(hsz:w.length<2 ^ 40):Z tQ (.call 231 [.dat (.agg [.lit (.int .i64 0),.lit (.int .i64 0),.lit (.string ⟨#[]⟩),.lit (.slice none 0 0),.lit (.int .i64 7),.lit (.int .i64 0),.lit (.string ⟨#[]⟩),kd f1 b1.fo.len b1.fo.cells,.lit (.int .i64 0),.lit (.int .i64 0),.lit (.string ⟨#[]⟩),.lit (.slice none 0 0)])] [])=some (.ret (.str (bs w)) []):=by
 obtain⟨w1,e1⟩ : ∃ v,v=pw [] [⟨#[111,110]⟩,⟨#[116,105,99,107]⟩]:=⟨_,rfl⟩
 have e2:w=pw w1 (⟨#[123]⟩::(b1.tx++[⟨#[125]⟩])):=by rw[hw,qay,<- e1]
 have s2:=hsz
 have s1:=qar e2 s2
 have z1:=qgg e1 (by decide) (by decide) s1
 have z2:=h1 7 0 ⟨#[]⟩ f1 w1 w e2 s2
 have hne:w≠[]:=by
  rw[e2]
  apply qfb
  rw[e1,qd7]
  simp[qao]
 have zs:=qeL hne hsz
 simp only[PW,PW',PE] at z1 z2 zs
 clear e1 e2 s1 s2 hw hsz
 refine Z_call (pf:=F231) rfl rfl ?_
 simp[F231,z1,z2,zs,qab,qaa,qcE,Wa,show IntKind.i64.wrap 1=1 from rfl,show IntKind.i64.wrap 2=2 from rfl,show IntKind.i64.wrap 3=3 from rfl]
theorem qvw{f0:Bool}{b0:Ss}(h0:qlB b0){f1:Bool}{b1:Ss}(h1:qlB b1){w:List UInt8}(hw:w=pw [] ([⟨#[111,110]⟩,⟨#[97,99,116]⟩]++((⟨#[123]⟩::(b0.tx++[⟨#[125]⟩]))++([⟨#[111,110]⟩,⟨#[116,105,99,107]⟩]++((⟨#[123]⟩::(b1.tx++[⟨#[125]⟩])))))))(hsz:w.length<2 ^ 40):Z tQ (.call 231 [.dat (.agg [.lit (.int .i64 7),.lit (.int .i64 0),.lit (.string ⟨#[]⟩),kd f0 b0.fo.len b0.fo.cells,.lit (.int .i64 7),.lit (.int .i64 0),.lit (.string ⟨#[]⟩),kd f1 b1.fo.len b1.fo.cells,.lit (.int .i64 0),.lit (.int .i64 0),.lit (.string ⟨#[]⟩),.lit (.slice none 0 0)])] [])=some (.ret (.str (bs w)) []):=by
 obtain⟨w1,e1⟩ : ∃ v,v=pw [] [⟨#[111,110]⟩,⟨#[97,99,116]⟩]:=⟨_,rfl⟩
 obtain⟨w2,e2⟩ : ∃ v,v=pw w1 (⟨#[123]⟩::(b0.tx++[⟨#[125]⟩])):=⟨_,rfl⟩
 obtain⟨w3,e3⟩ : ∃ v,v=pw w2 [⟨#[111,110]⟩,⟨#[116,105,99,107]⟩]:=⟨_,rfl⟩
 have e4:w=pw w3 (⟨#[123]⟩::(b1.tx++[⟨#[125]⟩])):=by rw[hw,qay,<- e1,qay,<- e2,qay,<- e3]
 have s4:=hsz
 have s3:=qar e4 s4
 have s2:=qar e3 s3
 have s1:=qar e2 s2
 have z1:=qgg e1 (by decide) (by decide) s1
 have z2:=h0 7 0 ⟨#[]⟩ f0 w1 w2 e2 s2
 have z3:=qf0 e3 (by decide) (by decide) s3
 have z4:=h1 7 0 ⟨#[]⟩ f1 w3 w e4 s4
 have hne:w≠[]:=by
  rw[e4]
  apply qfb
  rw[e3]
  apply qfb
  rw[e2]
  apply qfb
  rw[e1,qd7]
  simp[qao]
 have zs:=qeL hne hsz
 simp only[PW,PW',PE] at z1 z2 z3 z4 zs
 clear e1 e2 e3 e4 s1 s2 s3 s4 hw hsz
 refine Z_call (pf:=F231) rfl rfl ?_
 simp[F231,z1,z2,z3,z4,zs,qab,qaa,qcE,Wa,show IntKind.i64.wrap 1=1 from rfl,show IntKind.i64.wrap 2=2 from rfl,show IntKind.i64.wrap 3=3 from rfl]
theorem qvx{f2:Bool}{b2:Ss}(h2:qlB b2){w:List UInt8}(hw:w=pw [] ([⟨#[111,110]⟩,⟨#[104,105,116]⟩]++((⟨#[123]⟩::(b2.tx++[⟨#[125]⟩])))))(hsz:w.length<2 ^ 40):Z tQ (.call 231 [.dat (.agg [.lit (.int .i64 0),.lit (.int .i64 0),.lit (.string ⟨#[]⟩),.lit (.slice none 0 0),.lit (.int .i64 0),.lit (.int .i64 0),.lit (.string ⟨#[]⟩),.lit (.slice none 0 0),.lit (.int .i64 7),.lit (.int .i64 0),.lit (.string ⟨#[]⟩),kd f2 b2.fo.len b2.fo.cells])] [])=some (.ret (.str (bs w)) []):=by
 obtain⟨w1,e1⟩ : ∃ v,v=pw [] [⟨#[111,110]⟩,⟨#[104,105,116]⟩]:=⟨_,rfl⟩
 have e2:w=pw w1 (⟨#[123]⟩::(b2.tx++[⟨#[125]⟩])):=by rw[hw,qay,<- e1]
 have s2:=hsz
 have s1:=qar e2 s2
 have z1:=qgg e1 (by decide) (by decide) s1
 have z2:=h2 7 0 ⟨#[]⟩ f2 w1 w e2 s2
 have hne:w≠[]:=by
  rw[e2]
  apply qfb
  rw[e1,qd7]
  simp[qao]
 have zs:=qeL hne hsz
 simp only[PW,PW',PE] at z1 z2 zs
 clear e1 e2 s1 s2 hw hsz
 refine Z_call (pf:=F231) rfl rfl ?_
 simp[F231,z1,z2,zs,qab,qaa,qcE,Wa,show IntKind.i64.wrap 1=1 from rfl,show IntKind.i64.wrap 2=2 from rfl,show IntKind.i64.wrap 3=3 from rfl]
theorem qvy{f0:Bool}{b0:Ss}(h0:qlB b0){f2:Bool}{b2:Ss}(h2:qlB b2){w:List UInt8}(hw:w=pw [] ([⟨#[111,110]⟩,⟨#[97,99,116]⟩]++((⟨#[123]⟩::(b0.tx++[⟨#[125]⟩]))++([⟨#[111,110]⟩,⟨#[104,105,116]⟩]++((⟨#[123]⟩::(b2.tx++[⟨#[125]⟩])))))))(hsz:w.length<2 ^ 40):Z tQ (.call 231 [.dat (.agg [.lit (.int .i64 7),.lit (.int .i64 0),.lit (.string ⟨#[]⟩),kd f0 b0.fo.len b0.fo.cells,.lit (.int .i64 0),.lit (.int .i64 0),.lit (.string ⟨#[]⟩),.lit (.slice none 0 0),.lit (.int .i64 7),.lit (.int .i64 0),.lit (.string ⟨#[]⟩),kd f2 b2.fo.len b2.fo.cells])] [])=some (.ret (.str (bs w)) []):=by
 obtain⟨w1,e1⟩ : ∃ v,v=pw [] [⟨#[111,110]⟩,⟨#[97,99,116]⟩]:=⟨_,rfl⟩
 obtain⟨w2,e2⟩ : ∃ v,v=pw w1 (⟨#[123]⟩::(b0.tx++[⟨#[125]⟩])):=⟨_,rfl⟩
 obtain⟨w3,e3⟩ : ∃ v,v=pw w2 [⟨#[111,110]⟩,⟨#[104,105,116]⟩]:=⟨_,rfl⟩
 have e4:w=pw w3 (⟨#[123]⟩::(b2.tx++[⟨#[125]⟩])):=by rw[hw,qay,<- e1,qay,<- e2,qay,<- e3]
 have s4:=hsz
 have s3:=qar e4 s4
 have s2:=qar e3 s3
 have s1:=qar e2 s2
 have z1:=qgg e1 (by decide) (by decide) s1
 have z2:=h0 7 0 ⟨#[]⟩ f0 w1 w2 e2 s2
 have z3:=qf0 e3 (by decide) (by decide) s3
 have z4:=h2 7 0 ⟨#[]⟩ f2 w3 w e4 s4
 have hne:w≠[]:=by
  rw[e4]
  apply qfb
  rw[e3]
  apply qfb
  rw[e2]
  apply qfb
  rw[e1,qd7]
  simp[qao]
 have zs:=qeL hne hsz
 simp only[PW,PW',PE] at z1 z2 z3 z4 zs
 clear e1 e2 e3 e4 s1 s2 s3 s4 hw hsz
 refine Z_call (pf:=F231) rfl rfl ?_
 simp[F231,z1,z2,z3,z4,zs,qab,qaa,qcE,Wa,show IntKind.i64.wrap 1=1 from rfl,show IntKind.i64.wrap 2=2 from rfl,show IntKind.i64.wrap 3=3 from rfl]
theorem qvz{f1:Bool}{b1:Ss}(h1:qlB b1){f2:Bool}{b2:Ss}(h2:qlB b2){w:List UInt8}(hw:w=pw [] ([⟨#[111,110]⟩,⟨#[116,105,99,107]⟩]++((⟨#[123]⟩::(b1.tx++[⟨#[125]⟩]))++([⟨#[111,110]⟩,⟨#[104,105,116]⟩]++((⟨#[123]⟩::(b2.tx++[⟨#[125]⟩])))))))(hsz:w.length<2 ^ 40):Z tQ (.call 231 [.dat (.agg [.lit (.int .i64 0),.lit (.int .i64 0),.lit (.string ⟨#[]⟩),.lit (.slice none 0 0),.lit (.int .i64 7),.lit (.int .i64 0),.lit (.string ⟨#[]⟩),kd f1 b1.fo.len b1.fo.cells,.lit (.int .i64 7),.lit (.int .i64 0),.lit (.string ⟨#[]⟩),kd f2 b2.fo.len b2.fo.cells])] [])=some (.ret (.str (bs w)) []):=by
 obtain⟨w1,e1⟩ : ∃ v,v=pw [] [⟨#[111,110]⟩,⟨#[116,105,99,107]⟩]:=⟨_,rfl⟩
 obtain⟨w2,e2⟩ : ∃ v,v=pw w1 (⟨#[123]⟩::(b1.tx++[⟨#[125]⟩])):=⟨_,rfl⟩
 obtain⟨w3,e3⟩ : ∃ v,v=pw w2 [⟨#[111,110]⟩,⟨#[104,105,116]⟩]:=⟨_,rfl⟩
 have e4:w=pw w3 (⟨#[123]⟩::(b2.tx++[⟨#[125]⟩])):=by rw[hw,qay,<- e1,qay,<- e2,qay,<- e3]
 have s4:=hsz
 have s3:=qar e4 s4
 have s2:=qar e3 s3
 have s1:=qar e2 s2
 have z1:=qgg e1 (by decide) (by decide) s1
 have z2:=h1 7 0 ⟨#[]⟩ f1 w1 w2 e2 s2
 have z3:=qf0 e3 (by decide) (by decide) s3
 have z4:=h2 7 0 ⟨#[]⟩ f2 w3 w e4 s4
 have hne:w≠[]:=by
  rw[e4]
  apply qfb
  rw[e3]
  apply qfb
  rw[e2]
  apply qfb
  rw[e1,qd7]
  simp[qao]
 have zs:=qeL hne hsz
 simp only[PW,PW',PE] at z1 z2 z3 z4 zs
 clear e1 e2 e3 e4 s1 s2 s3 s4 hw hsz
 refine Z_call (pf:=F231) rfl rfl ?_
 simp[F231,z1,z2,z3,z4,zs,qab,qaa,qcE,Wa,show IntKind.i64.wrap 1=1 from rfl,show IntKind.i64.wrap 2=2 from rfl,show IntKind.i64.wrap 3=3 from rfl]
theorem qvA{f0:Bool}{b0:Ss}(h0:qlB b0){f1:Bool}{b1:Ss}(h1:qlB b1){f2:Bool}{b2:Ss}(h2:qlB b2){w:List UInt8}(hw:w=pw [] ([⟨#[111,110]⟩,⟨#[97,99,116]⟩]++((⟨#[123]⟩::(b0.tx++[⟨#[125]⟩]))++([⟨#[111,110]⟩,⟨#[116,105,99,107]⟩]++((⟨#[123]⟩::(b1.tx++[⟨#[125]⟩]))++([⟨#[111,110]⟩,⟨#[104,105,116]⟩]++((⟨#[123]⟩::(b2.tx++[⟨#[125]⟩])))))))))(hsz:w.length<2 ^ 40):Z tQ (.call 231 [.dat (.agg [.lit (.int .i64 7),.lit (.int .i64 0),.lit (.string ⟨#[]⟩),kd f0 b0.fo.len b0.fo.cells,.lit (.int .i64 7),.lit (.int .i64 0),.lit (.string ⟨#[]⟩),kd f1 b1.fo.len b1.fo.cells,.lit (.int .i64 7),.lit (.int .i64 0),.lit (.string ⟨#[]⟩),kd f2 b2.fo.len b2.fo.cells])] [])=some (.ret (.str (bs w)) []):=by
 obtain⟨w1,e1⟩ : ∃ v,v=pw [] [⟨#[111,110]⟩,⟨#[97,99,116]⟩]:=⟨_,rfl⟩
 obtain⟨w2,e2⟩ : ∃ v,v=pw w1 (⟨#[123]⟩::(b0.tx++[⟨#[125]⟩])):=⟨_,rfl⟩
 obtain⟨w3,e3⟩ : ∃ v,v=pw w2 [⟨#[111,110]⟩,⟨#[116,105,99,107]⟩]:=⟨_,rfl⟩
 obtain⟨w4,e4⟩ : ∃ v,v=pw w3 (⟨#[123]⟩::(b1.tx++[⟨#[125]⟩])):=⟨_,rfl⟩
 obtain⟨w5,e5⟩ : ∃ v,v=pw w4 [⟨#[111,110]⟩,⟨#[104,105,116]⟩]:=⟨_,rfl⟩
 have e6:w=pw w5 (⟨#[123]⟩::(b2.tx++[⟨#[125]⟩])):=by rw[hw,qay,<- e1,qay,<- e2,qay,<- e3,qay,<- e4,qay,<- e5]
 have s6:=hsz
 have s5:=qar e6 s6
 have s4:=qar e5 s5
 have s3:=qar e4 s4
 have s2:=qar e3 s3
 have s1:=qar e2 s2
 have z1:=qgg e1 (by decide) (by decide) s1
 have z2:=h0 7 0 ⟨#[]⟩ f0 w1 w2 e2 s2
 have z3:=qf0 e3 (by decide) (by decide) s3
 have z4:=h1 7 0 ⟨#[]⟩ f1 w3 w4 e4 s4
 have z5:=qf0 e5 (by decide) (by decide) s5
 have z6:=h2 7 0 ⟨#[]⟩ f2 w5 w e6 s6
 have hne:w≠[]:=by
  rw[e6]
  apply qfb
  rw[e5]
  apply qfb
  rw[e4]
  apply qfb
  rw[e3]
  apply qfb
  rw[e2]
  apply qfb
  rw[e1,qd7]
  simp[qao]
 have zs:=qeL hne hsz
 simp only[PW,PW',PE] at z1 z2 z3 z4 z5 z6 zs
 clear e1 e2 e3 e4 e5 e6 s1 s2 s3 s4 s5 s6 hw hsz
 refine Z_call (pf:=F231) rfl rfl ?_
 simp[F231,z1,z2,z3,z4,z5,z6,zs,qab,qaa,qcE,Wa,show IntKind.i64.wrap 1=1 from rfl,show IntKind.i64.wrap 2=2 from rfl,show IntKind.i64.wrap 3=3 from rfl]
theorem qq0 {a b c:Hd} (hg : ∀ k,qcI (Hd.opts a b c k)) (hsz:(qao false (qa0 (Hd.opts a b c))).length<2 ^ 40) :
  Z tQ (.call 231 [.dat (ru a.nd b.nd c.nd)] [])=some (.ret (.str (bs (qao false (qa0 (Hd.opts a b c))))) []):=by
 have hb : ∀ {s:Ss} (k:Nat),Hd.opts a b c k=some s->qlB s:=fun k h=>qnQ ((hg k) _ h).1 ((qwP _).1 ((hg k) _ h).1)
 rw[<- qd7] at hsz ⊢
 cases a<;>cases b<;>cases c
 ·exact qvt
 ·refine qvx (hb 2 rfl) ?_ hsz
  simp only[qa0,qdV,Hd.opts,Hd.opt,qcb,onS,qi4,qfM,Wc,Wp,Wf,Wg]
  rfl
 ·refine qvv (hb 1 rfl) ?_ hsz
  simp only[qa0,qdV,Hd.opts,Hd.opt,qcb,onS,qi4,qfM,Wc,Wp,Wf,Wg]
  rfl
 ·refine qvz (hb 1 rfl) (hb 2 rfl) ?_ hsz
  simp only[qa0,qdV,Hd.opts,Hd.opt,qcb,onS,qi4,qfM,Wc,Wp,Wf,Wg]
  rfl
 ·refine qvu (hb 0 rfl) ?_ hsz
  simp only[qa0,qdV,Hd.opts,Hd.opt,qcb,onS,qi4,qfM,Wc,Wp,Wf,Wg]
  rfl
 ·refine qvy (hb 0 rfl) (hb 2 rfl) ?_ hsz
  simp only[qa0,qdV,Hd.opts,Hd.opt,qcb,onS,qi4,qfM,Wc,Wp,Wf,Wg]
  rfl
 ·refine qvw (hb 0 rfl) (hb 1 rfl) ?_ hsz
  simp only[qa0,qdV,Hd.opts,Hd.opt,qcb,onS,qi4,qfM,Wc,Wp,Wf,Wg]
  rfl
 ·refine qvA (hb 0 rfl) (hb 1 rfl) (hb 2 rfl) ?_ hsz
  simp only[qa0,qdV,Hd.opts,Hd.opt,qcb,onS,qi4,qfM,Wc,Wp,Wf,Wg]
  rfl
end
end Go.Pm
section
namespace Go.Pm.F
def tS:Nat->Option PFun
 |20=>some F20
 |152=>some F152
 |192=>some F192
 |193=>some F193
 |234=>some F234
 |236=>some F236
 |246=>some F246
 |247=>some F247
 |248=>some F248
 |261=>some F261
 |262=>some F262
 |263=>some F263
 |_=>none
end Go.Pm.F
end
namespace Go.Pm
section
open F
theorem qmQ(c:UInt8):Z tS (.call 192 [.dat (.lit (.int .u8 c.toNat))] [])=some (.ret (.bool (qaG c)) []):=by
 refine Z_call (pf:=F192) rfl rfl ?_
 by_cases h1:(97:Int)<=c.toNat
 ·have h1':97<=c.toNat:=by omega
  by_cases h2:(c.toNat:Int)<=122
  ·have h2':c.toNat<=122:=by omega
   simp[F192,qaG,h1,h1',h2,h2']
  ·have h2' : ¬ c.toNat<=122:=by omega
   simp[F192,qaG,h1,h1',h2,h2']
 ·have h1' : ¬ 97<=c.toNat:=by omega
  simp[F192,qaG,h1,h1']
theorem qoN(c:UInt8):Z tS (.call 193 [.dat (.lit (.int .u8 c.toNat))] [])=some (.ret (.bool (qal c)) []):=by
 refine Z_call (pf:=F193) rfl rfl ?_
 by_cases h1:(48:Int)<=c.toNat
 ·have h1':48<=c.toNat:=by omega
  by_cases h2:(c.toNat:Int)<=57
  ·have h2':c.toNat<=57:=by omega
   simp[F193,qal,h1,h1',h2,h2']
  ·have h2' : ¬ c.toNat<=57:=by omega
   simp[F193,qal,h1,h1',h2,h2']
 ·have h1' : ¬ 48<=c.toNat:=by omega
  simp[F193,qal,h1,h1']
theorem qt4(a b:List UInt8):bs a++bs b=bs (a++b):=by
 apply qlw
 simp[byl,bs,ByteArray.data_append]
theorem qeS(a b:ByteArray):a++b=bs (byl a++byl b):=by
 rw[<- qt4,qcW,qcW]
theorem qky:qaj qaq ⟨#[]⟩=false:=by rw[qaS]; rfl
theorem qt5(a b:ByteArray)(h:a.size+b.size<2 ^ 40):Z tS (.call 262 [.str a,.str b] [])=some (.ret (.str (bs (pw (byl a) [b]))) []):=by
 have hab : ¬ (9223372036854775807:Int)<(a.size:Int)+(b.size:Int):=by omega
 have plain:gap (wl (byl a)) b=[]->bs (pw (byl a) [b])=a++b:=fun hg=>by
  rw[qcM,qdW,hg,Wc,qeS]
 refine Z_call (pf:=F262) rfl rfl ?_
 by_cases ha:a=⟨#[]⟩
 ·rw[plain (by rw[ha]; rfl)]
  have e:eqS a ⟨#[]⟩=true:=by rw[qah]; simp[ha]
  simp[F262,e,hab]
 ·have ea:eqS a ⟨#[]⟩=false:=by rw[qah]; simp[ha]
  by_cases hb:b=⟨#[]⟩
  ·rw[plain (by rw[hb,gap,qky]; simp)]
   have e:eqS b ⟨#[]⟩=true:=by rw[qah]; simp[hb]
   simp[F262,ea,e,hab]
  ·have eb:eqS b ⟨#[]⟩=false:=by rw[qah]; simp[hb]
   have nz : ∀ {t:ByteArray},t≠⟨#[]⟩->t.size≠0:=fun {t} h h0=>h (by
    apply qlw
    have:(byl t).length=0:=by rw[qat,h0]
    rw[WH this])
   have ha0:=nz ha
   obtain⟨y,hy,hs⟩:=qoj (nz hb)
   have hx:=qnk ha0
   have hwl:wl (byl a)=qaq (lastC (byl a)):=rfl
   generalize lastC (byl a)=x at *
   have l1:=qmQ x
   have l2:=qoN x
   have l3:=qmQ y
   have l4:=qoN y
   have w2:=qae ((a.size:Int)-1) (by omega)
   have w3:((a.size:Int)-1).toNat=a.size-1:=by omega
   have w4:(0:Int)<=(a.size:Int)-1:=by omega
   have w5:(1:Int)<=a.size:=by omega
   by_cases hg:(qaq x&&qaq y)=true
   ·have hgap:gap (wl (byl a)) b=[32]:=by rw[gap,hwl,hs,if_pos hg]
    have e:bs (pw (byl a) [b])=a++⟨#[32]⟩++b:=by
     rw[qcM,qdW,hgap,qeS,qeS a,qbi]
     simp[byl]
    rw[e]
    have hab2 : ¬ (9223372036854775807:Int)<(a.size:Int)+1:=by omega
    have hab3 : ¬ (9223372036854775807:Int)<(a.size:Int)+1+(b.size:Int):=by omega
    have hsz:(a++⟨#[32]⟩:ByteArray).size=a.size+1:=by rw[WZ]; rfl
    have hsp:(⟨#[32]⟩:ByteArray).size=1:=rfl
    have hsp2:((⟨#[32]⟩:ByteArray).size:Int)=1:=rfl
    unfold qaq at hg
    cases h1:qaG x<;>cases h2:qal x<;>cases h3:qaG y<;>cases h4:qal y<;>rw[h1,h2,h3,h4] at hg<;>simp at hg<;>rw[h1] at l1<;>rw[h2] at l2<;>rw[h3] at l3<;>rw[h4] at l4 <;>
     simp[F262,ea,eb,hx,hy,l1,l2,l3,l4,w2,w3,w4,w5,hab2,hab3,hsz,hsp,hsp2,V.len]
   ·have hgap:gap (wl (byl a)) b=[]:=by rw[gap,hwl,hs,if_neg hg]
    rw[plain hgap]
    unfold qaq at hg
    cases h1:qaG x<;>cases h2:qal x<;>cases h3:qaG y<;>cases h4:qal y<;>rw[h1,h2,h3,h4] at hg<;>simp at hg<;>rw[h1] at l1<;>rw[h2] at l2<;>rw[h3] at l3<;>rw[h4] at l4 <;>
     simp[F262,ea,eb,hx,hy,l1,l2,l3,l4,w2,w3,w4,w5,hab,V.len]
theorem qoO (fl:Bool) (ts:List ByteArray) (hn:ts.length<2 ^ 30) : ∀ (m i:Nat) (w:List UInt8),i+m=ts.length->(pw w (ts.drop i)).length<2 ^ 40 ->
  Z tS (.loop 0 F247l0 [(0,.dat (.sl (strC ts) ts.length fl)),(3,.str (bs w)),(4,.int i)] [])=some (.out (.exit 0) [(0,.dat (.sl (strC ts) ts.length fl)),(3,.str (bs (pw w (ts.drop i)))),(4,.int ts.length),(8,.bool false)] [])
 |0,i,w,hi,hsz=>by
  have hi':i=ts.length:=by omega
  subst hi'
  rw[List.drop_length,qdW]
  rw[qab]
  simp[qaa,qkq,V.len]
 |m+1,i,w,hi,hsz=>by
  have hlt:i<ts.length:=by omega
  have hd:ts.drop i=ts[i]::ts.drop (i+1):=WO hlt
  rw[hd,qcM] at hsz ⊢
  have hc:=qfN ts i hlt
  generalize ts[i]=t at *
  have hw0:(w++(gap (wl w) t++byl t)).length<2 ^ 40:=Wx (qkb _ _) hsz
  have ih:=qoO fl ts hn m (i+1) (w++(gap (wl w) t++byl t)) (by omega) hsz
  rw[<- ih]
  have z:=qt5 (bs w) t (by rw[Wr,Wr,qat] at hw0; rw[qav]; omega)
  rw[qbi,qcM,qdW] at z
  have w1:=qae ((i:Int)+1) (by omega)
  have hlt':(i:Int)<ts.length:=by omega
  conv=>lhs; rw[qab]
  generalize bs (w++(gap (wl w) t++byl t))=R at *
  generalize bs w=R0 at *
  simp[qaa,qkq,z,hc,w1,hlt',hlt,qag,V.len]
theorem qzZ(fl:Bool){ts:List ByteArray}{R:ByteArray}(hR:R=bs (pw [] ts))(hn:ts.length<2 ^ 30)(hsz:R.size<2 ^ 40):Z tS (.call 247 [.dat (.sl (strC ts) ts.length fl)] [])=some (.ret (.str R) []):=by
 subst hR
 have z:=qoO fl ts hn ts.length 0 [] (by omega) (by rw[WJ]; exact hsz)
 rw[WJ] at z
 simp only[Wd] at z
 rw[show bs []=⟨#[]⟩ from rfl] at z
 refine Z_call (pf:=F247) rfl rfl ?_
 generalize bs (pw [] ts)=R at *
 simp[F247,z]
theorem qt6(w:List UInt8){ts:List ByteArray}(h : ∀ t∈ts,t.size≠0):pw w [bs (qao false ts)]=pw w ts:=by
 cases ts with
 |nil=>
  rw[qcM,qdW,qdW,qao]
  have:=qky
  simp[gap,bs,byl,this]
 |cons t ts=>
  have ht:=h t (WQ ..)
  cases hb:byl t with
  |nil=>exact absurd (by rw[<- qat,hb]; rfl) ht
  |cons c r=>
   have hs:qaj qaq (bs (qao false (t::ts)))=qaj qaq t:=by
    rw[qaS,qaS,qbi,qao,hb]
    rfl
   have hg:gap (wl w) (bs (qao false (t::ts)))=gap (wl w) t:=by rw[gap,gap,hs]
   have he:qbx (wl w) t=qbx false t:=by
    unfold qbx
    cases hl:(byl t).getLast? with
    |none=>rw[Yg] at hl; rw[hl] at hb; cases hb
    |some c=>rfl
   rw[qcM,qdW,hg,qbi]
   show w++(gap (wl w) t++qao false (t::ts))=w++qao (wl w) (t::ts)
   rw[qao,qao,he]
   rfl
theorem qnF(w:List UInt8){ts:List ByteArray}(h : ∀ t∈ts,t.size≠0)(r:List ByteArray):pw w (bs (qao false ts)::r)=pw w (ts++r):=by
 rw[show bs (qao false ts)::r=[bs (qao false ts)]++r from rfl,qay,qt6 w h,<- qay]
end
section
open F
def digS:ByteArray:=⟨#[48,49,50,51,52,53,54,55,56,57]⟩
theorem quY : ∀ d,d<10->digS.extract d (d+1)=bs [(48+d).toUInt8]:=by decide
theorem qoa (n:Int) : ∀ (k m:Nat) (out:ByteArray),m<10 ^ k->k<=18->out.size+k<=100 ->
  Z tS (.loop 0 F20l0 [(0,.int n),(3,.str digS),(4,.str out),(5,.int m)] [])=some (.out (.exit 0) [(0,.int n),(3,.str digS),(4,.str (bs (if m=0 then [] else qjs k m)++out)),(5,.int 0),(11,.bool false)] [])
 |k,0,out,_,_,_=>by
  rw[qab]
  have e:bs []++out=out:=by rw[show bs []=ByteArray.empty from rfl,ByteArray.empty_append]
  simp[qaa,qmG,digS,e]
 |0,m+1,out,h,_,_=>by simp at h
 |k+1,m+1,out,h,hk,ho=>by
  have hp:(10:Nat) ^ (k+1)<=10 ^ 18:=YK (by omega) hk
  have hd:((m+1:Nat):Int).tmod 10=(((m+1) % 10:Nat):Int):=rfl
  have hq:((m+1:Nat):Int).tdiv 10=(((m+1) / 10:Nat):Int):=rfl
  have hlt:(m+1) % 10<10:=Nat.mod_lt _ (by omega)
  have hx:=quY _ hlt
  have w1:=qae (((m+1) % 10:Nat)+1:Int) (by omega)
  have w2:IntKind.i64.wrap (((m+1) / 10:Nat):Int)=((m+1) / 10:Nat):=qae _ (by omega)
  have hne : ¬ ((m+1:Nat):Int)=0:=by omega
  have hneg : ¬ (((m+1) % 10:Nat):Int)<0:=by omega
  have ih:=qoa n k ((m+1) / 10) (bs [(48+(m+1) % 10).toUInt8]++out) (by rw[YM] at h; omega) (by omega) (by rw[WZ,qav]; simp; omega)
  have hres:bs (if (m+1) / 10=0 then [] else qjs k ((m+1) / 10))++(bs [(48+(m+1) % 10).toUInt8]++out)=bs (qjs (k+1) (m+1))++out:=by
   rw[<- ByteArray.append_assoc]
   congr 1
   simp only[qjs]
   by_cases h10:m+1<10
   ·rw[if_pos h10,if_pos (by omega),Nat.mod_eq_of_lt h10]
    rfl
   ·rw[if_neg h10,if_neg (by omega)]
    rfl
  rw[hres] at ih
  rw[if_neg (by omega),<- ih]
  generalize hd2:(m+1) % 10=d at *
  generalize hq2:(m+1) / 10=q at *
  generalize hm:m+1=M at *
  have hM : ¬ M=0:=by omega
  have b1:(d:Int)<=digS.size:=by rw[show digS.size=10 from rfl]; omega
  have b2:(d:Int)+1<=digS.size:=by rw[show digS.size=10 from rfl]; omega
  have b3:(0:Int)<=(d:Int)+1:=by omega
  have b4:((d:Int)+1).toNat=d+1:=by omega
  have b5:(d:Int)<=(d:Int)+1:=by omega
  have hsz : ¬ (9223372036854775807:Int)<((bs [(48+d).toUInt8]).size:Int)+out.size:=by rw[qav]; simp; omega
  generalize digS=ds at *
  generalize bs [(48+d).toUInt8]=ch at *
  conv=>lhs; rw[qab]
  simp[qaa,qmG,qa1,bound,hd,hq,hne,hneg,w1,w2,b1,b2,b3,b4,b5,hx,hsz,hM]
theorem qqu{n:Nat}(h:n<10 ^ 18):Z tS (.call 20 [.int n] [])=some (.ret (.str (bs (decB n))) []):=by
 refine Z_call (pf:=F20) rfl rfl ?_
 by_cases h0:n=0
 ·subst h0
  simp[F20,decB,qjs,bs]
 ·have hne : ¬ (n:Int)=0:=by omega
  have hneg : ¬ (n:Int)<0:=by omega
  have z:=qoa n 18 n ⟨#[]⟩ h (by omega) (by decide)
  rw[if_neg h0] at z
  have e : ∀ (k j n:Nat),n<10 ^ k->1<=k->qjs (k+j) n=qjs k n:=fun k=>by
   induction k with
   |zero=>intro j n _ h; omega
   |succ k ih=>
    intro j n hn _
    rw[show k+1+j=(k+j)+1 by omega]
    simp only[qjs]
    split
    ·rfl
    ·rename_i h10
     have hk:1<=k:=by
      rcases k with _|k
      ·simp at hn; omega
      ·omega
     rw[ih j (n / 10) (by rw[YM] at hn; omega) hk]
  have e2:bs (qjs 18 n)++⟨#[]⟩=bs (decB n):=by
   rw[show decB n=qjs (18+2) n from rfl,e 18 2 n h (by omega)]
   exact ByteArray.append_empty
  rw[e2] at z
  simp only[digS] at z
  simp[F20,h0,hne,hneg,z]
end
section
open F
theorem qeV(e:E):Z tS (.call 261 [e.node] [])=some (.ret (.int e.lev) []):=by
 refine Z_call (pf:=F261) rfl rfl ?_
 cases e with
 |un f neg e=>cases neg<;>simp[F261,E.lev,qdc,ustr,qah]
 |bin f o a b=>cases o<;>simp[F261,E.lev,Bop.prec,Bop.str,qah]
 |_=>simp[F261,E.lev]
inductive Parts:List ByteArray->List ByteArray->Prop
 |nil:Parts [] []
 |tok {t:ByteArray} {l ts:List ByteArray} (h:Parts l ts):Parts (t::l) (t::ts)
 |sub {a l ts:List ByteArray} (ha : ∀ t∈a,t.size≠0) (h:Parts l ts):Parts (bs (qao false a)::l) (a++ts)
theorem qsq{l ts:List ByteArray}(h:Parts l ts) : ∀ w,pw w l=pw w ts:=by
 induction h with
 |nil=>intro w; rfl
 |tok h ih=>intro w; rw[qcM,qcM,ih]
 |sub ha h ih=>intro w; rw[qnF w ha,qay,qay,ih]
theorem qdM{l ts:List ByteArray}{R:ByteArray}(hp:Parts l ts)(hR:R=bs (qao false ts))(hn:l.length<2 ^ 30)(hsz:R.size<2 ^ 40):Z tS (.call 247 [.dat (.sl (strC l) l.length true)] [])=some (.ret (.str R) []):=
 qzZ true (by rw[hR,qsq hp,qd7]) hn hsz
theorem qgI(ts:List ByteArray)(p:Bool):(qao false ts).length<=(qao p ts).length:=by
 cases ts with
 |nil=>simp[qao]
 |cons t ts=>
  simp only[qao,Wr]
  have:(gap false t).length=0:=rfl
  cases hb:byl t with
  |nil=>
   have e : ∀ q,qbx q t=q:=fun q=>by unfold qbx; rw[hb]; rfl
   rw[e,e]
   have:=qgI ts p
   simp[gap]
   omega
  |cons c r=>
   have e:qbx p t=qbx false t:=by
    unfold qbx
    cases hl:(byl t).getLast? with
    |none=>rw[Yg] at hl; rw[hl] at hb; cases hb
    |some c=>rfl
   rw[e]
   omega
theorem qau(a b c:List ByteArray)(p:Bool):(qao false b).length<=(qao p (a++(b++c))).length:=by
 rw[qfC,qfC,Wr,Wr]
 have:=qgI b (qqF p a)
 omega
theorem qiQ(ts:List ByteArray):qao false (bs [40]::(ts++[bs [41]]))=40::(qao false ts++[41]):=by
 have e1:qbx false (bs [40])=false:=by decide
 have g1:gap false (bs [40])=[]:=rfl
 have g2 : ∀ q,gap q (bs [41])=[]:=fun q=>by cases q<;>decide
 rw[qao,e1,g1,qfC,qao,g2]
 simp[qao,qbi]
def qdz(e:E)(full:Bool)(p:Nat)(i:Int):Prop:=(qao false (e.tx full p)).length<2 ^ 40->Z tS (.call 246 [e.node,.int i,.bool full] [])=some (.ret (.str (bs (qao false (e.tx full p)))) [])
theorem qbS(full:Bool){e:E}(h:e.good)(p:Nat) : ∀ t∈e.tx full p,t.size≠0:=fun t ht=>qeN (qkl (qiS full e h p).ok t ht)
theorem qxe{full:Bool}{n:Int}(h0:0<=n)(h1:n<=2147483647){p:Nat}{i:Int}(hi:i=p)(hp:p<=8):qdz (E.int n) full p i:=by
 intro hsz
 have zl:Z tS (.call 261 [.dat (.agg [.lit (.int .i64 8),.lit (.int .i64 n),.lit (.string ⟨#[]⟩),.lit (.slice none 0 0)])] [])=some (.ret (.int 8) []):=qeV (.int n)
 have hc : ¬ (8:Int)<i:=by omega
 have hq : ¬ 8<p:=by omega
 have f0:Z tS (.call 20 [.int n] [])=some (.ret (.str (bs (decB n.toNat))) []):=by
  have:=qqu (n:=n.toNat) (by omega)
  rw[show ((n.toNat:Nat):Int)=n by omega] at this
  exact this
 have htx:(E.int n).tx full p=[bs (decB n.toNat)]:=by simp[E.tx,qbB,qdc,ustr,bs,qdX,qgP,Bop.left]
 have hfin:bs (qao false ((E.int n).tx full p))=(bs (decB n.toNat)):=by
  rw[htx,qao,qao,Wp]
  exact qcW (bs (decB n.toNat))
 rw[hfin]
 clear hfin htx hsz
 refine Z_call (pf:=F246) rfl rfl ?_
 cases full<;>simp[F246,qag,zl,hc,f0]
theorem qsr{full:Bool}{p:Nat}{i:Int}(hi:i=p)(hp:p<=8):qdz (E.bool 0) full p i:=by
 intro hsz
 have zl:Z tS (.call 261 [.dat (.agg [.lit (.int .i64 9),.lit (.int .i64 0),.lit (.string ⟨#[]⟩),.lit (.slice none 0 0)])] [])=some (.ret (.int 8) []):=qeV (.bool 0)
 have hc : ¬ (8:Int)<i:=by omega
 have hq : ¬ 8<p:=by omega
 have htx:(E.bool 0).tx full p=[⟨#[102,97,108,115,101]⟩]:=by simp[E.tx,qbB,qdc,ustr,bs,qdX,qgP,Bop.left]
 have hfin:bs (qao false ((E.bool 0).tx full p))=(⟨#[102,97,108,115,101]⟩):=by
  rw[htx,qao,qao,Wp]
  exact qcW (⟨#[102,97,108,115,101]⟩)
 rw[hfin]
 clear hfin htx hsz
 refine Z_call (pf:=F246) rfl rfl ?_
 cases full<;>simp[F246,qag,zl,hc]
theorem qss{full:Bool}{p:Nat}{i:Int}(hi:i=p)(hp:p<=8):qdz (E.bool 1) full p i:=by
 intro hsz
 have zl:Z tS (.call 261 [.dat (.agg [.lit (.int .i64 9),.lit (.int .i64 1),.lit (.string ⟨#[]⟩),.lit (.slice none 0 0)])] [])=some (.ret (.int 8) []):=qeV (.bool 1)
 have hc : ¬ (8:Int)<i:=by omega
 have hq : ¬ 8<p:=by omega
 have htx:(E.bool 1).tx full p=[⟨#[116,114,117,101]⟩]:=by simp[E.tx,qbB,qdc,ustr,bs,qdX,qgP,Bop.left]
 have hfin:bs (qao false ((E.bool 1).tx full p))=(⟨#[116,114,117,101]⟩):=by
  rw[htx,qao,qao,Wp]
  exact qcW (⟨#[116,114,117,101]⟩)
 rw[hfin]
 clear hfin htx hsz
 refine Z_call (pf:=F246) rfl rfl ?_
 cases full<;>simp[F246,qag,zl,hc]
theorem qxf{full:Bool}{s:ByteArray}{p:Nat}{i:Int}(hi:i=p)(hp:p<=8):qdz (E.var s) full p i:=by
 intro hsz
 have zl:Z tS (.call 261 [.dat (.agg [.lit (.int .i64 10),.lit (.int .i64 0),.lit (.string s),.lit (.slice none 0 0)])] [])=some (.ret (.int 8) []):=qeV (.var s)
 have hc : ¬ (8:Int)<i:=by omega
 have hq : ¬ 8<p:=by omega
 have htx:(E.var s).tx full p=[s]:=by simp[E.tx,qbB,qdc,ustr,bs,qdX,qgP,Bop.left]
 have hfin:bs (qao false ((E.var s).tx full p))=(s):=by
  rw[htx,qao,qao,Wp]
  exact qcW (s)
 rw[hfin]
 clear hfin htx hsz
 refine Z_call (pf:=F246) rfl rfl ?_
 cases full<;>simp[F246,qag,zl,hc]
theorem quR{full:Bool}{s:ByteArray}{p:Nat}{i:Int}(hi:i=p)(hp:p<=8):qdz (E.name s) full p i:=by
 intro hsz
 have zl:Z tS (.call 261 [.dat (.agg [.lit (.int .i64 12),.lit (.int .i64 0),.lit (.string s),.lit (.slice none 0 0)])] [])=some (.ret (.int 8) []):=qeV (.name s)
 have hc : ¬ (8:Int)<i:=by omega
 have hq : ¬ 8<p:=by omega
 have htx:(E.name s).tx full p=[s]:=by simp[E.tx,qbB,qdc,ustr,bs,qdX,qgP,Bop.left]
 have hfin:bs (qao false ((E.name s).tx full p))=(s):=by
  rw[htx,qao,qao,Wp]
  exact qcW (s)
 rw[hfin]
 clear hfin htx hsz
 refine Z_call (pf:=F246) rfl rfl ?_
 cases full<;>simp[F246,qag,zl,hc]
theorem qst{full:Bool}{f:Bool}{s:ByteArray}{e:E}(ge:e.good)(he:qdz e full 1 1){p:Nat}{i:Int}(hi:i=p)(hp:p<=8):qdz (E.field f s e) full p i:=by
 intro hsz
 have zl:Z tS (.call 261 [.dat (.agg [.lit (.int .i64 11),.lit (.int .i64 0),.lit (.string s),.sl [.lit (.int .i64 e.kind),.lit (.int .i64 e.num),.lit (.string e.str),e.kids] 1 f])] [])=some (.ret (.int 8) []):=qeV (.field f s e)
 have hc : ¬ (8:Int)<i:=by omega
 have hq : ¬ 8<p:=by omega
 obtain⟨inn,hinn⟩ : ∃ v,v=[s]++([⟨#[91]⟩]++(e.tx full 1++([⟨#[93]⟩]++[]))):=⟨_,rfl⟩
 have htx:(E.field f s e).tx full p=inn:=by
  rw[hinn]
  simp[E.tx,qbB,qdc,ustr,bs,qdX,qgP,Bop.left,hq]
 rw[htx] at hsz ⊢
 have hin:=hsz
 have z2:=he (Wx (by
  have:=qau ([s]++([⟨#[91]⟩])) (e.tx full 1) ([⟨#[93]⟩]++[]) false
  try simp only[Wg,Wc] at this
  rw[hinn]
  exact this) hin)
 have hP:Parts [s,⟨#[91]⟩,bs (qao false (e.tx full 1)),⟨#[93]⟩] inn:=by rw[hinn]; exact (.tok (.tok (.sub (qbS full ge 1) (.tok .nil))))
 obtain⟨R,hR⟩ : ∃ v,v=bs (qao false inn):=⟨_,rfl⟩
 have hRs:R.size<2 ^ 40:=by rw[hR,qav]; exact hin
 have za:Z tS (.call 247 [.dat (.sl [.lit (.string s),.lit (.string ⟨#[91]⟩),.lit (.string (bs (qao false (e.tx full 1)))),.lit (.string ⟨#[93]⟩)] 4 true)] [])=some (.ret (.str R) []):=qdM hP hR (by simp) hRs
 generalize bs (qao false (e.tx full 1))=r2 at *
 rw[<- hR]
 clear hP hR hinn htx hsz hin
 refine Z_call (pf:=F246) rfl rfl ?_
 cases full<;>simp[F246,qag,zl,hc,z2,za]
theorem qze{f neg:Bool}{e:E}{L:Nat}(hL:L=qdc neg)(ge:e.good)(he:qdz e false L L){p:Nat}{i:Int}(hi:i=p)(hp:p<=L):qdz (E.un f neg e) false p i:=by
 intro hsz
 have zl:Z tS (.call 261 [.dat (.agg [.lit (.int .i64 13),.lit (.int .i64 0),.lit (.string (ustr neg)),.sl [.lit (.int .i64 e.kind),.lit (.int .i64 e.num),.lit (.string e.str),e.kids] 1 f])] [])=some (.ret (.int L) []):=by
  have:=qeV (.un f neg e)
  rw[show E.lev (.un f neg e)=L from hL.symm] at this
  exact this
 have hc : ¬ (L:Int)<i:=by omega
 have hq : ¬ L<p:=by omega
 have h8:(L:Int)<8:=by rw[hL]; cases neg<;>decide
 obtain⟨inn,hinn⟩ : ∃ v,v=[(ustr neg)]++(e.tx false L++[]):=⟨_,rfl⟩
 have htx:(E.un f neg e).tx false p=inn:=by
  rw[hinn]
  simp[E.tx,qbB,bs,hL.symm,hq]
 rw[htx] at hsz ⊢
 have hin:=hsz
 have z1:=he (Wx (by
  have:=qau ([(ustr neg)]) (e.tx false L) ([]) false
  try simp only[Wg,Wc] at this
  rw[hinn]
  exact this) hin)
 have hP:Parts [(ustr neg),bs (qao false (e.tx false L))] inn:=by rw[hinn]; exact (.tok (.sub (qbS false ge L) .nil))
 obtain⟨R,hR⟩ : ∃ v,v=bs (qao false inn):=⟨_,rfl⟩
 have hRs:R.size<2 ^ 40:=by rw[hR,qav]; exact hin
 have za:Z tS (.call 247 [.dat (.sl [.lit (.string (ustr neg)),.lit (.string (bs (qao false (e.tx false L))))] 2 true)] [])=some (.ret (.str R) []):=qdM hP hR (by simp) hRs
 generalize bs (qao false (e.tx false L))=r1 at *
 rw[<- hR]
 clear hP hR hinn htx hsz hin
 refine Z_call (pf:=F246) rfl rfl ?_
 simp[F246,qag,zl,hc,z1,za,h8]
theorem qxg{f neg:Bool}{e:E}{L:Nat}(hL:L=qdc neg)(ge:e.good)(he:qdz e false L L){p:Nat}{i:Int}(hi:i=p)(hp:L<p):qdz (E.un f neg e) false p i:=by
 intro hsz
 have zl:Z tS (.call 261 [.dat (.agg [.lit (.int .i64 13),.lit (.int .i64 0),.lit (.string (ustr neg)),.sl [.lit (.int .i64 e.kind),.lit (.int .i64 e.num),.lit (.string e.str),e.kids] 1 f])] [])=some (.ret (.int L) []):=by
  have:=qeV (.un f neg e)
  rw[show E.lev (.un f neg e)=L from hL.symm] at this
  exact this
 have hc:(L:Int)<i:=by omega
 have hq:L<p:=hp
 have h8:(L:Int)<8:=by rw[hL]; cases neg<;>decide
 obtain⟨inn,hinn⟩ : ∃ v,v=[(ustr neg)]++(e.tx false L++[]):=⟨_,rfl⟩
 have htx:(E.un f neg e).tx false p=bs [40]::(inn++[bs [41]]):=by
  rw[hinn]
  simp[E.tx,qbB,bs,hL.symm,hq]
 rw[htx] at hsz ⊢
 rw[qiQ] at hsz ⊢
 have hin:(qao false inn).length<2 ^ 40:=by simp at hsz; omega
 have hin2:(qao false inn).length+2<2 ^ 40:=by simp at hsz; omega
 have z1:=he (Wx (by
  have:=qau ([(ustr neg)]) (e.tx false L) ([]) false
  try simp only[Wg,Wc] at this
  rw[hinn]
  exact this) hin)
 have hP:Parts [(ustr neg),bs (qao false (e.tx false L))] inn:=by rw[hinn]; exact (.tok (.sub (qbS false ge L) .nil))
 obtain⟨R,hR⟩ : ∃ v,v=bs (qao false inn):=⟨_,rfl⟩
 have hRs:R.size<2 ^ 40:=by rw[hR,qav]; exact hin
 have za:Z tS (.call 247 [.dat (.sl [.lit (.string (ustr neg)),.lit (.string (bs (qao false (e.tx false L))))] 2 true)] [])=some (.ret (.str R) []):=qdM hP hR (by simp) hRs
 generalize bs (qao false (e.tx false L))=r1 at *
 have hfin:bs (40::(qao false inn++[41]))=⟨#[40]⟩++R++⟨#[41]⟩:=by
  rw[qeS,qeS ⟨#[40]⟩,qbi,hR,qbi]
  simp[byl]
 rw[hfin]
 have hRl:R.size+2<2 ^ 40:=by rw[hR,qav]; exact hin2
 have y1:((⟨#[40]⟩:ByteArray).size:Int)=1:=rfl
 have y2:((⟨#[41]⟩:ByteArray).size:Int)=1:=rfl
 have y3:(⟨#[40]⟩:ByteArray).size=1:=rfl
 have y4:(⟨#[41]⟩:ByteArray).size=1:=rfl
 have y5 : ¬ (9223372036854775807:Int)<1+(R.size:Int):=by omega
 have y6 : ¬ (9223372036854775807:Int)<1+(R.size:Int)+1:=by omega
 have y7:(⟨#[40]⟩++R:ByteArray).size=1+R.size:=by rw[WZ]; rfl
 clear hP hR hinn htx hsz hin hin2 hfin
 refine Z_call (pf:=F246) rfl rfl ?_
 simp[F246,qag,zl,hc,y1,y2,y3,y4,y5,y6,y7,z1,za,h8]
theorem qxh{f:Bool}{o:Bop}{a b:E}{L:Nat}(hl:o.prec=L)(h4:L≠4)(ga:a.good)(gb:b.good)(ha:qdz a false L L)(hb:qdz b false (L+1) ((L:Int)+1)){p:Nat}{i:Int}(hi:i=p)(hp:p<=L):qdz (E.bin f o a b) false p i:=by
 intro hsz
 have zl:Z tS (.call 261 [.dat (.agg [.lit (.int .i64 14),.lit (.int .i64 0),.lit (.string o.str),.sl [.lit (.int .i64 a.kind),.lit (.int .i64 a.num),.lit (.string a.str),a.kids,.lit (.int .i64 b.kind),.lit (.int .i64 b.num),.lit (.string b.str),b.kids] 2 f])] [])=some (.ret (.int L) []):=by
  have:=qeV (.bin f o a b)
  rw[show E.lev (.bin f o a b)=L from hl] at this
  exact this
 have hc : ¬ (L:Int)<i:=by omega
 have hq : ¬ L<p:=by omega
 have hlf:o.left=L:=by have:=qa8 o; omega
 have h4' : ¬ (L:Int)=4:=by omega
 have h8:(L:Int)<8:=by have:=qa8 o; omega
 have w1:=qae ((L:Int)+1) (by omega)
 obtain⟨inn,hinn⟩ : ∃ v,v=a.tx false L++([o.str]++(b.tx false (L+1)++[])):=⟨_,rfl⟩
 have htx:(E.bin f o a b).tx false p=inn:=by
  rw[hinn]
  simp[E.tx,qbB,bs,hl,hlf,hq]
 rw[htx] at hsz ⊢
 have hin:=hsz
 have z0:=ha (Wx (by
  have:=qau ([]) (a.tx false L) ([o.str]++(b.tx false (L+1)++[])) false
  try simp only[Wg,Wc] at this
  rw[hinn]
  exact this) hin)
 have z2:=hb (Wx (by
  have:=qau (a.tx false L++([o.str])) (b.tx false (L+1)) ([]) false
  try simp only[Wg,Wc] at this
  rw[hinn]
  exact this) hin)
 have hP:Parts [bs (qao false (a.tx false L)),o.str,bs (qao false (b.tx false (L+1)))] inn:=by rw[hinn]; exact (.sub (qbS false ga L) (.tok (.sub (qbS false gb (L+1)) .nil)))
 obtain⟨R,hR⟩ : ∃ v,v=bs (qao false inn):=⟨_,rfl⟩
 have hRs:R.size<2 ^ 40:=by rw[hR,qav]; exact hin
 have za:Z tS (.call 247 [.dat (.sl [.lit (.string (bs (qao false (a.tx false L)))),.lit (.string o.str),.lit (.string (bs (qao false (b.tx false (L+1)))))] 3 true)] [])=some (.ret (.str R) []):=qdM hP hR (by simp) hRs
 generalize bs (qao false (a.tx false L))=r0 at *
 generalize bs (qao false (b.tx false (L+1)))=r2 at *
 rw[<- hR]
 clear hP hR hinn htx hsz hin
 refine Z_call (pf:=F246) rfl rfl ?_
 simp[F246,qag,zl,hc,z0,z2,za,h4',h8,w1]
theorem quS{f:Bool}{o:Bop}{a b:E}{L:Nat}(hl:o.prec=L)(h4:L≠4)(ga:a.good)(gb:b.good)(ha:qdz a false L L)(hb:qdz b false (L+1) ((L:Int)+1)){p:Nat}{i:Int}(hi:i=p)(hp:L<p):qdz (E.bin f o a b) false p i:=by
 intro hsz
 have zl:Z tS (.call 261 [.dat (.agg [.lit (.int .i64 14),.lit (.int .i64 0),.lit (.string o.str),.sl [.lit (.int .i64 a.kind),.lit (.int .i64 a.num),.lit (.string a.str),a.kids,.lit (.int .i64 b.kind),.lit (.int .i64 b.num),.lit (.string b.str),b.kids] 2 f])] [])=some (.ret (.int L) []):=by
  have:=qeV (.bin f o a b)
  rw[show E.lev (.bin f o a b)=L from hl] at this
  exact this
 have hc:(L:Int)<i:=by omega
 have hq:L<p:=hp
 have hlf:o.left=L:=by have:=qa8 o; omega
 have h4' : ¬ (L:Int)=4:=by omega
 have h8:(L:Int)<8:=by have:=qa8 o; omega
 have w1:=qae ((L:Int)+1) (by omega)
 obtain⟨inn,hinn⟩ : ∃ v,v=a.tx false L++([o.str]++(b.tx false (L+1)++[])):=⟨_,rfl⟩
 have htx:(E.bin f o a b).tx false p=bs [40]::(inn++[bs [41]]):=by
  rw[hinn]
  simp[E.tx,qbB,bs,hl,hlf,hq]
 rw[htx] at hsz ⊢
 rw[qiQ] at hsz ⊢
 have hin:(qao false inn).length<2 ^ 40:=by simp at hsz; omega
 have hin2:(qao false inn).length+2<2 ^ 40:=by simp at hsz; omega
 have z0:=ha (Wx (by
  have:=qau ([]) (a.tx false L) ([o.str]++(b.tx false (L+1)++[])) false
  try simp only[Wg,Wc] at this
  rw[hinn]
  exact this) hin)
 have z2:=hb (Wx (by
  have:=qau (a.tx false L++([o.str])) (b.tx false (L+1)) ([]) false
  try simp only[Wg,Wc] at this
  rw[hinn]
  exact this) hin)
 have hP:Parts [bs (qao false (a.tx false L)),o.str,bs (qao false (b.tx false (L+1)))] inn:=by rw[hinn]; exact (.sub (qbS false ga L) (.tok (.sub (qbS false gb (L+1)) .nil)))
 obtain⟨R,hR⟩ : ∃ v,v=bs (qao false inn):=⟨_,rfl⟩
 have hRs:R.size<2 ^ 40:=by rw[hR,qav]; exact hin
 have za:Z tS (.call 247 [.dat (.sl [.lit (.string (bs (qao false (a.tx false L)))),.lit (.string o.str),.lit (.string (bs (qao false (b.tx false (L+1)))))] 3 true)] [])=some (.ret (.str R) []):=qdM hP hR (by simp) hRs
 generalize bs (qao false (a.tx false L))=r0 at *
 generalize bs (qao false (b.tx false (L+1)))=r2 at *
 have hfin:bs (40::(qao false inn++[41]))=⟨#[40]⟩++R++⟨#[41]⟩:=by
  rw[qeS,qeS ⟨#[40]⟩,qbi,hR,qbi]
  simp[byl]
 rw[hfin]
 have hRl:R.size+2<2 ^ 40:=by rw[hR,qav]; exact hin2
 have y1:((⟨#[40]⟩:ByteArray).size:Int)=1:=rfl
 have y2:((⟨#[41]⟩:ByteArray).size:Int)=1:=rfl
 have y3:(⟨#[40]⟩:ByteArray).size=1:=rfl
 have y4:(⟨#[41]⟩:ByteArray).size=1:=rfl
 have y5 : ¬ (9223372036854775807:Int)<1+(R.size:Int):=by omega
 have y6 : ¬ (9223372036854775807:Int)<1+(R.size:Int)+1:=by omega
 have y7:(⟨#[40]⟩++R:ByteArray).size=1+R.size:=by rw[WZ]; rfl
 clear hP hR hinn htx hsz hin hin2 hfin
 refine Z_call (pf:=F246) rfl rfl ?_
 simp[F246,qag,zl,hc,y1,y2,y3,y4,y5,y6,y7,z0,z2,za,h4',h8,w1]
theorem quT{f:Bool}{o:Bop}{a b:E}(hl:o.prec=4)(ga:a.good)(gb:b.good)(ha:qdz a false 5 5)(hb:qdz b false 5 5){p:Nat}{i:Int}(hi:i=p)(hp:p<=4):qdz (E.bin f o a b) false p i:=by
 intro hsz
 have zl:Z tS (.call 261 [.dat (.agg [.lit (.int .i64 14),.lit (.int .i64 0),.lit (.string o.str),.sl [.lit (.int .i64 a.kind),.lit (.int .i64 a.num),.lit (.string a.str),a.kids,.lit (.int .i64 b.kind),.lit (.int .i64 b.num),.lit (.string b.str),b.kids] 2 f])] [])=some (.ret (.int 4) []):=by
  have:=qeV (.bin f o a b)
  rw[show E.lev (.bin f o a b)=4 from hl] at this
  exact this
 have hc : ¬ (4:Int)<i:=by omega
 have hq : ¬ 4<p:=by omega
 have hlf:o.left=5:=by have:=qa8 o; omega
 obtain⟨inn,hinn⟩ : ∃ v,v=a.tx false 5++([o.str]++(b.tx false 5++[])):=⟨_,rfl⟩
 have htx:(E.bin f o a b).tx false p=inn:=by
  rw[hinn]
  simp[E.tx,qbB,bs,hl,hlf,hq]
 rw[htx] at hsz ⊢
 have hin:=hsz
 have z0:=ha (Wx (by
  have:=qau ([]) (a.tx false 5) ([o.str]++(b.tx false 5++[])) false
  try simp only[Wg,Wc] at this
  rw[hinn]
  exact this) hin)
 have z2:=hb (Wx (by
  have:=qau (a.tx false 5++([o.str])) (b.tx false 5) ([]) false
  try simp only[Wg,Wc] at this
  rw[hinn]
  exact this) hin)
 have hP:Parts [bs (qao false (a.tx false 5)),o.str,bs (qao false (b.tx false 5))] inn:=by rw[hinn]; exact (.sub (qbS false ga 5) (.tok (.sub (qbS false gb 5) .nil)))
 obtain⟨R,hR⟩ : ∃ v,v=bs (qao false inn):=⟨_,rfl⟩
 have hRs:R.size<2 ^ 40:=by rw[hR,qav]; exact hin
 have za:Z tS (.call 247 [.dat (.sl [.lit (.string (bs (qao false (a.tx false 5)))),.lit (.string o.str),.lit (.string (bs (qao false (b.tx false 5))))] 3 true)] [])=some (.ret (.str R) []):=qdM hP hR (by simp) hRs
 generalize bs (qao false (a.tx false 5))=r0 at *
 generalize bs (qao false (b.tx false 5))=r2 at *
 rw[<- hR]
 clear hP hR hinn htx hsz hin
 refine Z_call (pf:=F246) rfl rfl ?_
 simp[F246,qag,zl,hc,z0,z2,za,qae 5 (by omega)]
theorem qsu{f:Bool}{o:Bop}{a b:E}(hl:o.prec=4)(ga:a.good)(gb:b.good)(ha:qdz a false 5 5)(hb:qdz b false 5 5){p:Nat}{i:Int}(hi:i=p)(hp:4<p):qdz (E.bin f o a b) false p i:=by
 intro hsz
 have zl:Z tS (.call 261 [.dat (.agg [.lit (.int .i64 14),.lit (.int .i64 0),.lit (.string o.str),.sl [.lit (.int .i64 a.kind),.lit (.int .i64 a.num),.lit (.string a.str),a.kids,.lit (.int .i64 b.kind),.lit (.int .i64 b.num),.lit (.string b.str),b.kids] 2 f])] [])=some (.ret (.int 4) []):=by
  have:=qeV (.bin f o a b)
  rw[show E.lev (.bin f o a b)=4 from hl] at this
  exact this
 have hc:(4:Int)<i:=by omega
 have hq:4<p:=hp
 have hlf:o.left=5:=by have:=qa8 o; omega
 obtain⟨inn,hinn⟩ : ∃ v,v=a.tx false 5++([o.str]++(b.tx false 5++[])):=⟨_,rfl⟩
 have htx:(E.bin f o a b).tx false p=bs [40]::(inn++[bs [41]]):=by
  rw[hinn]
  simp[E.tx,qbB,bs,hl,hlf,hq]
 rw[htx] at hsz ⊢
 rw[qiQ] at hsz ⊢
 have hin:(qao false inn).length<2 ^ 40:=by simp at hsz; omega
 have hin2:(qao false inn).length+2<2 ^ 40:=by simp at hsz; omega
 have z0:=ha (Wx (by
  have:=qau ([]) (a.tx false 5) ([o.str]++(b.tx false 5++[])) false
  try simp only[Wg,Wc] at this
  rw[hinn]
  exact this) hin)
 have z2:=hb (Wx (by
  have:=qau (a.tx false 5++([o.str])) (b.tx false 5) ([]) false
  try simp only[Wg,Wc] at this
  rw[hinn]
  exact this) hin)
 have hP:Parts [bs (qao false (a.tx false 5)),o.str,bs (qao false (b.tx false 5))] inn:=by rw[hinn]; exact (.sub (qbS false ga 5) (.tok (.sub (qbS false gb 5) .nil)))
 obtain⟨R,hR⟩ : ∃ v,v=bs (qao false inn):=⟨_,rfl⟩
 have hRs:R.size<2 ^ 40:=by rw[hR,qav]; exact hin
 have za:Z tS (.call 247 [.dat (.sl [.lit (.string (bs (qao false (a.tx false 5)))),.lit (.string o.str),.lit (.string (bs (qao false (b.tx false 5))))] 3 true)] [])=some (.ret (.str R) []):=qdM hP hR (by simp) hRs
 generalize bs (qao false (a.tx false 5))=r0 at *
 generalize bs (qao false (b.tx false 5))=r2 at *
 have hfin:bs (40::(qao false inn++[41]))=⟨#[40]⟩++R++⟨#[41]⟩:=by
  rw[qeS,qeS ⟨#[40]⟩,qbi,hR,qbi]
  simp[byl]
 rw[hfin]
 have hRl:R.size+2<2 ^ 40:=by rw[hR,qav]; exact hin2
 have y1:((⟨#[40]⟩:ByteArray).size:Int)=1:=rfl
 have y2:((⟨#[41]⟩:ByteArray).size:Int)=1:=rfl
 have y3:(⟨#[40]⟩:ByteArray).size=1:=rfl
 have y4:(⟨#[41]⟩:ByteArray).size=1:=rfl
 have y5 : ¬ (9223372036854775807:Int)<1+(R.size:Int):=by omega
 have y6 : ¬ (9223372036854775807:Int)<1+(R.size:Int)+1:=by omega
 have y7:(⟨#[40]⟩++R:ByteArray).size=1+R.size:=by rw[WZ]; rfl
 clear hP hR hinn htx hsz hin hin2 hfin
 refine Z_call (pf:=F246) rfl rfl ?_
 simp[F246,qag,zl,hc,y1,y2,y3,y4,y5,y6,y7,z0,z2,za,qae 5 (by omega)]
theorem qmk : ∀ e:E,e.good -> ∀ p i,i=((p:Nat):Int)->p<=8->qdz e false p i
 |.int n,h,p,i,hi,hp=>qxe h.1 h.2 hi hp
 |.bool n,h,p,i,hi,hp=>by
  rcases h with rfl|rfl
  ·exact qsr hi hp
  ·exact qss hi hp
 |.var s,h,p,i,hi,hp=>qxf hi hp
 |.name s,h,p,i,hi,hp=>quR hi hp
 |.field f s e,h,p,i,hi,hp=>qst h.2 (qmk e h.2 1 1 rfl (by omega)) hi hp
 |.un f neg e,h,p,i,hi,hp=>by
  have hg:e.good:=h
  have A:=qmk e hg (qdc neg) (qdc neg) rfl (by cases neg<;>decide)
  by_cases hq:qdc neg<p
  ·exact qxg rfl hg A hi hq
  ·exact qze rfl hg A hi (by omega)
 |.bin f o a b,h,p,i,hi,hp=>by
  have hr:=qa8 o
  have A:=qmk a h.1 o.left o.left rfl (by omega)
  have B:=qmk b h.2 (o.prec+1) ((o.prec:Int)+1) (by omega) (by omega)
  by_cases h4:o.prec=4
  ·rw[show o.left=5 by omega] at A
   rw[h4] at B
   by_cases hq:4<p
   ·exact qsu h4 h.1 h.2 A B hi hq
   ·exact quT h4 h.1 h.2 A B hi (by omega)
  ·rw[show o.left=o.prec by omega] at A
   by_cases hq:o.prec<p
   ·exact quS rfl h4 h.1 h.2 A B hi hq
   ·exact qxh rfl h4 h.1 h.2 A B hi (by omega)
theorem qhW{e:E}(h:e.good)(hsz:(qao false (e.tx false 1)).length<2 ^ 40):Z tS (.call 234 [e.node] [])=some (.ret (.str (bs (qao false (e.tx false 1)))) []):=by
 have z:=qmk e h 1 1 rfl (by omega) hsz
 generalize bs (qao false (e.tx false 1))=R at *
 refine Z_call (pf:=F234) rfl rfl ?_
 simp[F234,z]
end
section
open F
def Ss.btx(b:Ss):List ByteArray:=⟨#[123]⟩::(b.tx++[⟨#[125]⟩])
def qjC(b:Ss):Prop:=(∀ t∈b.tx,t.size≠0) /\ ∀ (k n:Int) (s:ByteArray) (f:Bool),(qao false b.btx).length<2 ^ 40->Z tS (.call 248 [.dat (.agg [.lit (.int .i64 k),.lit (.int .i64 n),.lit (.string s),kd f b.fo.len b.fo.cells])] [])=some (.ret (.str (bs (qao false b.btx))) [])
theorem qeK{b:Ss}(h : ∀ t∈b.tx,t.size≠0) : ∀ t∈b.btx,t.size≠0:=by
 intro t ht
 rcases Ws.1 ht with rfl|ht
 ·decide
 ·rcases Wz.1 ht with ht|ht
  ·exact h t ht
  ·rw[Wk.1 ht]; decide
theorem qfH{a b:List ByteArray}(ha : ∀ t∈a,t.size≠0)(hb : ∀ t∈b,t.size≠0) : ∀ t∈a++b,t.size≠0:=fun t ht=>by
 rcases Wz.1 ht with h|h
 ·exact ha t h
 ·exact hb t h
theorem qlg{x:ByteArray}(h:x.size≠0) : ∀ t∈[x],t.size≠0:=fun t ht=>by rw[Wk.1 ht]; exact h
theorem qon : ∀ t∈([]:List ByteArray),t.size≠0:=fun t ht=>by cases ht
theorem qqP {f fb fc:Bool} {s:ByteArray} {e:E} (ge:e.good) {T:List ByteArray} (hT:T=[s]++([⟨#[61]⟩]++(e.tx false 1++([⟨#[59]⟩]++[])))) (hsz:(qao false T).length<2 ^ 40) :
  Z tS (.call 263 [.dat (.agg [.lit (.int .i64 1),.lit (.int .i64 0),.lit (.string s),.sl [.lit (.int .i64 e.kind),.lit (.int .i64 e.num),.lit (.string e.str),e.kids] 1 f])] [])=some (.ret (.str (bs (qao false T))) []):=by
 have q2:(qao false (e.tx false 1)).length<2 ^ 40:=Wx (by
  have:=qau ([s]++([⟨#[61]⟩]++[])) (e.tx false 1) ([⟨#[59]⟩]++[]) false
  simp only[Wg,Wc,Wp] at this
  rw[hT]
  simp only[Wg,Wc,Wp]
  exact this) hsz
 have z2:=qhW ge q2
 obtain⟨R,hR⟩ : ∃ v,v=bs (qao false T):=⟨_,rfl⟩
 have hRs:R.size<2 ^ 40:=by rw[hR,qav]; exact hsz
 have hP:Parts [s,⟨#[61]⟩,bs (qao false (e.tx false 1)),⟨#[59]⟩] T:=by rw[hT]; exact (.tok (.tok (.sub (qbS false ge 1) (.tok .nil))))
 have za:Z tS (.call 247 [.dat (.sl [.lit (.string s),.lit (.string ⟨#[61]⟩),.lit (.string (bs (qao false (e.tx false 1)))),.lit (.string ⟨#[59]⟩)] 4 true)] [])=some (.ret (.str R) []):=qdM hP hR (by simp) hRs
 generalize bs (qao false (e.tx false 1))=r2 at *
 rw[<- hR]
 refine Z_call (pf:=F263) rfl rfl ?_
 simp[F263,qag,z2,za]
theorem qsT {f fb fc:Bool} {s:ByteArray} {x y:E} (gx:x.good) (gy:y.good) {T:List ByteArray} (hT:T=[s]++([⟨#[91]⟩]++(x.tx false 1++([⟨#[93]⟩]++([⟨#[61]⟩]++(y.tx false 1++([⟨#[59]⟩]++[]))))))) (hsz:(qao false T).length<2 ^ 40) :
  Z tS (.call 263 [.dat (.agg [.lit (.int .i64 2),.lit (.int .i64 0),.lit (.string s),.sl [.lit (.int .i64 x.kind),.lit (.int .i64 x.num),.lit (.string x.str),x.kids,.lit (.int .i64 y.kind),.lit (.int .i64 y.num),.lit (.string y.str),y.kids] 2 f])] [])=some (.ret (.str (bs (qao false T))) []):=by
 have q2:(qao false (x.tx false 1)).length<2 ^ 40:=Wx (by
  have:=qau ([s]++([⟨#[91]⟩]++[])) (x.tx false 1) ([⟨#[93]⟩]++([⟨#[61]⟩]++(y.tx false 1++([⟨#[59]⟩]++[])))) false
  simp only[Wg,Wc,Wp] at this
  rw[hT]
  simp only[Wg,Wc,Wp]
  exact this) hsz
 have z2:=qhW gx q2
 have q5:(qao false (y.tx false 1)).length<2 ^ 40:=Wx (by
  have:=qau ([s]++([⟨#[91]⟩]++(x.tx false 1++([⟨#[93]⟩]++([⟨#[61]⟩]++[]))))) (y.tx false 1) ([⟨#[59]⟩]++[]) false
  simp only[Wg,Wc,Wp] at this
  rw[hT]
  simp only[Wg,Wc,Wp]
  exact this) hsz
 have z5:=qhW gy q5
 obtain⟨R,hR⟩ : ∃ v,v=bs (qao false T):=⟨_,rfl⟩
 have hRs:R.size<2 ^ 40:=by rw[hR,qav]; exact hsz
 have hP:Parts [s,⟨#[91]⟩,bs (qao false (x.tx false 1)),⟨#[93]⟩,⟨#[61]⟩,bs (qao false (y.tx false 1)),⟨#[59]⟩] T:=by rw[hT]; exact (.tok (.tok (.sub (qbS false gx 1) (.tok (.tok (.sub (qbS false gy 1) (.tok .nil)))))))
 have za:Z tS (.call 247 [.dat (.sl [.lit (.string s),.lit (.string ⟨#[91]⟩),.lit (.string (bs (qao false (x.tx false 1)))),.lit (.string ⟨#[93]⟩),.lit (.string ⟨#[61]⟩),.lit (.string (bs (qao false (y.tx false 1)))),.lit (.string ⟨#[59]⟩)] 7 true)] [])=some (.ret (.str R) []):=qdM hP hR (by simp) hRs
 generalize bs (qao false (x.tx false 1))=r2 at *
 generalize bs (qao false (y.tx false 1))=r5 at *
 rw[<- hR]
 refine Z_call (pf:=F263) rfl rfl ?_
 simp[F263,qag,z2,z5,za]
theorem qqQ {f fb fc:Bool} {x y:E} (gx:x.good) (gy:y.good) {T:List ByteArray} (hT:T=[⟨#[101,102,102,101,99,116]⟩]++(x.tx false 1++([⟨#[44]⟩]++(y.tx false 1++([⟨#[59]⟩]++[]))))) (hsz:(qao false T).length<2 ^ 40) :
  Z tS (.call 263 [.dat (.agg [.lit (.int .i64 5),.lit (.int .i64 0),.lit (.string ⟨#[]⟩),.sl [.lit (.int .i64 x.kind),.lit (.int .i64 x.num),.lit (.string x.str),x.kids,.lit (.int .i64 y.kind),.lit (.int .i64 y.num),.lit (.string y.str),y.kids] 2 f])] [])=some (.ret (.str (bs (qao false T))) []):=by
 have q1:(qao false (x.tx false 1)).length<2 ^ 40:=Wx (by
  have:=qau ([⟨#[101,102,102,101,99,116]⟩]++[]) (x.tx false 1) ([⟨#[44]⟩]++(y.tx false 1++([⟨#[59]⟩]++[]))) false
  simp only[Wg,Wc,Wp] at this
  rw[hT]
  simp only[Wg,Wc,Wp]
  exact this) hsz
 have z1:=qhW gx q1
 have q3:(qao false (y.tx false 1)).length<2 ^ 40:=Wx (by
  have:=qau ([⟨#[101,102,102,101,99,116]⟩]++(x.tx false 1++([⟨#[44]⟩]++[]))) (y.tx false 1) ([⟨#[59]⟩]++[]) false
  simp only[Wg,Wc,Wp] at this
  rw[hT]
  simp only[Wg,Wc,Wp]
  exact this) hsz
 have z3:=qhW gy q3
 obtain⟨R,hR⟩ : ∃ v,v=bs (qao false T):=⟨_,rfl⟩
 have hRs:R.size<2 ^ 40:=by rw[hR,qav]; exact hsz
 have hP:Parts [⟨#[101,102,102,101,99,116]⟩,bs (qao false (x.tx false 1)),⟨#[44]⟩,bs (qao false (y.tx false 1)),⟨#[59]⟩] T:=by rw[hT]; exact (.tok (.sub (qbS false gx 1) (.tok (.sub (qbS false gy 1) (.tok .nil)))))
 have za:Z tS (.call 247 [.dat (.sl [.lit (.string ⟨#[101,102,102,101,99,116]⟩),.lit (.string (bs (qao false (x.tx false 1)))),.lit (.string ⟨#[44]⟩),.lit (.string (bs (qao false (y.tx false 1)))),.lit (.string ⟨#[59]⟩)] 5 true)] [])=some (.ret (.str R) []):=qdM hP hR (by simp) hRs
 generalize bs (qao false (x.tx false 1))=r1 at *
 generalize bs (qao false (y.tx false 1))=r3 at *
 rw[<- hR]
 refine Z_call (pf:=F263) rfl rfl ?_
 simp[F263,qag,z1,z3,za]
theorem qsU {f fb fc:Bool} {c:E} {p:Ss} (gc:c.good) (hb:qjC p) {T:List ByteArray} (hT:T=[⟨#[119,104,105,108,101]⟩]++(c.tx false 1++(p.btx++[]))) (hsz:(qao false T).length<2 ^ 40) :
  Z tS (.call 263 [.dat (.agg [.lit (.int .i64 4),.lit (.int .i64 0),.lit (.string ⟨#[]⟩),.sl [.lit (.int .i64 c.kind),.lit (.int .i64 c.num),.lit (.string c.str),c.kids,.lit (.int .i64 7),.lit (.int .i64 0),.lit (.string ⟨#[]⟩),kd fb p.fo.len p.fo.cells] 2 f])] [])=some (.ret (.str (bs (qao false T))) []):=by
 have q1:(qao false (c.tx false 1)).length<2 ^ 40:=Wx (by
  have:=qau ([⟨#[119,104,105,108,101]⟩]++[]) (c.tx false 1) (p.btx++[]) false
  simp only[Wg,Wc,Wp] at this
  rw[hT]
  simp only[Wg,Wc,Wp]
  exact this) hsz
 have z1:=qhW gc q1
 have q2:(qao false (p.btx)).length<2 ^ 40:=Wx (by
  have:=qau ([⟨#[119,104,105,108,101]⟩]++(c.tx false 1++[])) (p.btx) ([]) false
  simp only[Wg,Wc,Wp] at this
  rw[hT]
  simp only[Wg,Wc,Wp]
  exact this) hsz
 have z2:=hb.2 7 0 ⟨#[]⟩ fb q2
 obtain⟨R,hR⟩ : ∃ v,v=bs (qao false T):=⟨_,rfl⟩
 have hRs:R.size<2 ^ 40:=by rw[hR,qav]; exact hsz
 have hP:Parts [⟨#[119,104,105,108,101]⟩,bs (qao false (c.tx false 1)),bs (qao false (p.btx))] T:=by rw[hT]; exact (.tok (.sub (qbS false gc 1) (.sub (qeK hb.1) .nil)))
 have za:Z tS (.call 247 [.dat (.sl [.lit (.string ⟨#[119,104,105,108,101]⟩),.lit (.string (bs (qao false (c.tx false 1)))),.lit (.string (bs (qao false (p.btx))))] 3 true)] [])=some (.ret (.str R) []):=qdM hP hR (by simp) hRs
 generalize bs (qao false (c.tx false 1))=r1 at *
 generalize bs (qao false (p.btx))=r2 at *
 rw[<- hR]
 refine Z_call (pf:=F263) rfl rfl ?_
 simp[F263,qag,z1,z2,za]
theorem qxC {f fb fc:Bool} {c:E} {p q:Ss} (gc:c.good) (hb:qjC p) (hq:q.fo.len=0) {T:List ByteArray} (hT:T=[⟨#[105,102]⟩]++(c.tx false 1++(p.btx++[]))) (hsz:(qao false T).length<2 ^ 40) :
  Z tS (.call 263 [.dat (.agg [.lit (.int .i64 3),.lit (.int .i64 0),.lit (.string ⟨#[]⟩),.sl [.lit (.int .i64 c.kind),.lit (.int .i64 c.num),.lit (.string c.str),c.kids,.lit (.int .i64 7),.lit (.int .i64 0),.lit (.string ⟨#[]⟩),kd fb p.fo.len p.fo.cells,.lit (.int .i64 7),.lit (.int .i64 0),.lit (.string ⟨#[]⟩),kd fc q.fo.len q.fo.cells] 3 f])] [])=some (.ret (.str (bs (qao false T))) []):=by
 have q1:(qao false (c.tx false 1)).length<2 ^ 40:=Wx (by
  have:=qau ([⟨#[105,102]⟩]++[]) (c.tx false 1) (p.btx++[]) false
  simp only[Wg,Wc,Wp] at this
  rw[hT]
  simp only[Wg,Wc,Wp]
  exact this) hsz
 have z1:=qhW gc q1
 have q2:(qao false (p.btx)).length<2 ^ 40:=Wx (by
  have:=qau ([⟨#[105,102]⟩]++(c.tx false 1++[])) (p.btx) ([]) false
  simp only[Wg,Wc,Wp] at this
  rw[hT]
  simp only[Wg,Wc,Wp]
  exact this) hsz
 have z2:=hb.2 7 0 ⟨#[]⟩ fb q2
 obtain⟨R,hR⟩ : ∃ v,v=bs (qao false T):=⟨_,rfl⟩
 have hRs:R.size<2 ^ 40:=by rw[hR,qav]; exact hsz
 have hP:Parts [⟨#[105,102]⟩,bs (qao false (c.tx false 1)),bs (qao false (p.btx))] T:=by rw[hT]; exact (.tok (.sub (qbS false gc 1) (.sub (qeK hb.1) .nil)))
 have za:Z tS (.call 247 [.dat (.sl [.lit (.string ⟨#[105,102]⟩),.lit (.string (bs (qao false (c.tx false 1)))),.lit (.string (bs (qao false (p.btx))))] 3 true)] [])=some (.ret (.str R) []):=qdM hP hR (by simp) hRs
 generalize bs (qao false (c.tx false 1))=r1 at *
 generalize bs (qao false (p.btx))=r2 at *
 rw[<- hR]
 have hq1 : ∀ cs,kd fc q.fo.len cs = .lit (.slice none 0 0):=fun cs=>by rw[hq]; rfl
 simp only[hq1]
 refine Z_call (pf:=F263) rfl rfl ?_
 simp[F263,qag,z1,z2,za,qi9]
theorem qxD {f fb fc:Bool} {c:E} {p q:Ss} (gc:c.good) (hb:qjC p) (hq:0<q.fo.len) (hd:qjC q) {T:List ByteArray} (hT:T=[⟨#[105,102]⟩]++(c.tx false 1++(p.btx++([⟨#[101,108,115,101]⟩]++(q.btx++[]))))) (hsz:(qao false T).length<2 ^ 40) :
  Z tS (.call 263 [.dat (.agg [.lit (.int .i64 3),.lit (.int .i64 0),.lit (.string ⟨#[]⟩),.sl [.lit (.int .i64 c.kind),.lit (.int .i64 c.num),.lit (.string c.str),c.kids,.lit (.int .i64 7),.lit (.int .i64 0),.lit (.string ⟨#[]⟩),kd fb p.fo.len p.fo.cells,.lit (.int .i64 7),.lit (.int .i64 0),.lit (.string ⟨#[]⟩),kd fc q.fo.len q.fo.cells] 3 f])] [])=some (.ret (.str (bs (qao false T))) []):=by
 have q1:(qao false (c.tx false 1)).length<2 ^ 40:=Wx (by
  have:=qau ([⟨#[105,102]⟩]++[]) (c.tx false 1) (p.btx++([⟨#[101,108,115,101]⟩]++(q.btx++[]))) false
  simp only[Wg,Wc,Wp] at this
  rw[hT]
  simp only[Wg,Wc,Wp]
  exact this) hsz
 have z1:=qhW gc q1
 have q2:(qao false (p.btx)).length<2 ^ 40:=Wx (by
  have:=qau ([⟨#[105,102]⟩]++(c.tx false 1++[])) (p.btx) ([⟨#[101,108,115,101]⟩]++(q.btx++[])) false
  simp only[Wg,Wc,Wp] at this
  rw[hT]
  simp only[Wg,Wc,Wp]
  exact this) hsz
 have z2:=hb.2 7 0 ⟨#[]⟩ fb q2
 have q4:(qao false (q.btx)).length<2 ^ 40:=Wx (by
  have:=qau ([⟨#[105,102]⟩]++(c.tx false 1++(p.btx++([⟨#[101,108,115,101]⟩]++[])))) (q.btx) ([]) false
  simp only[Wg,Wc,Wp] at this
  rw[hT]
  simp only[Wg,Wc,Wp]
  exact this) hsz
 have z4:=hd.2 7 0 ⟨#[]⟩ fc q4
 obtain⟨R,hR⟩ : ∃ v,v=bs (qao false T):=⟨_,rfl⟩
 have hRs:R.size<2 ^ 40:=by rw[hR,qav]; exact hsz
 obtain⟨T1,hT1⟩ : ∃ v,v=[⟨#[105,102]⟩]++(c.tx false 1++(p.btx++[])):=⟨_,rfl⟩
 have hT2:T=T1++([⟨#[101,108,115,101]⟩]++(q.btx++[])):=by rw[hT,hT1]; simp only[Wg,Wc,Wp]
 have s1:(qao false T1).length<2 ^ 40:=Wx (by
  have:=qau [] T1 ([⟨#[101,108,115,101]⟩]++(q.btx++[])) false
  rw[Wc] at this
  rw[hT2]
  exact this) hsz
 obtain⟨R1,hR1⟩ : ∃ v,v=bs (qao false T1):=⟨_,rfl⟩
 have hR1s:R1.size<2 ^ 40:=by rw[hR1,qav]; exact s1
 have n1 : ∀ t∈T1,t.size≠0:=by
  rw[hT1]
  exact qfH (qlg (by decide)) (qfH (qbS false gc 1) (qfH (qeK hb.1) qon))
 have hP1:Parts [⟨#[105,102]⟩,bs (qao false (c.tx false 1)),bs (qao false (p.btx))] T1:=by rw[hT1]; exact (.tok (.sub (qbS false gc 1) (.sub (qeK hb.1) .nil)))
 have za:Z tS (.call 247 [.dat (.sl [.lit (.string ⟨#[105,102]⟩),.lit (.string (bs (qao false (c.tx false 1)))),.lit (.string (bs (qao false (p.btx))))] 3 true)] [])=some (.ret (.str R1) []):=qdM hP1 hR1 (by simp) hR1s
 have hP2:Parts [R1,⟨#[101,108,115,101]⟩,bs (qao false (q.btx))] T:=by rw[hT2,hR1]; exact .sub n1 (.tok (.sub (qeK hd.1) .nil))
 have zb:Z tS (.call 247 [.dat (.sl [.lit (.string R1),.lit (.string ⟨#[101,108,115,101]⟩),.lit (.string (bs (qao false (q.btx))))] 3 true)] [])=some (.ret (.str R) []):=qdM hP2 hR (by simp) hRs
 generalize bs (qao false (c.tx false 1))=r1 at *
 generalize bs (qao false (p.btx))=r2 at *
 generalize bs (qao false (q.btx))=r4 at *
 rw[<- hR]
 have hq1:(0:Int)<q.fo.len:=by omega
 refine Z_call (pf:=F263) rfl rfl ?_
 simp[F263,qag,z1,z2,z4,za,zb,hq1,hq]
theorem qvj {d:D} (hd:V.one (.dat d)=true) (hcl:V.cells (.dat d)=[.dat d]) :
  Z tS (.call 263 [.dat (.agg [.lit (.int .i64 6),.lit (.int .i64 0),.lit (.string ⟨#[]⟩),d])] [])=some (.ret (.str (bs (qao false [⟨#[115,116,111,112]⟩,⟨#[59]⟩]))) []):=by
 have e:bs (qao false [⟨#[115,116,111,112]⟩,⟨#[59]⟩])=⟨#[115,116,111,112,59]⟩:=by decide
 rw[e]
 refine Z_call (pf:=F263) rfl rfl ?_
 simp[F263,hd,hcl]
end
section
open F
abbrev sbF(s:ByteArray)(i:Int)(ex:Fr):Fr:=(1,.ptr 0 0)::(3,.str s)::(4,.int i)::ex
abbrev sbS(k n:Int)(s:ByteArray)(d:D):S:=[.cells [.int k,.int n,.str s,.dat d]]
def qub(s:Ss):Prop := ∀ (cs:List D) (m i:Nat) (f:Bool) (k n:Int) (t:ByteArray) w w',cs.drop (i*4)=s.fo.cells->i+s.fo.len=m->m<2 ^ 40->w'=pw w s.tx->w'.length<2 ^ 40 ->
 Z tS (.loop 0 F248l0 (sbF (bs w) i []) (sbS k n t (.sl cs m f)))=some (.out (.exit 0) (sbF (bs w') m [(9,.bool false)]) (sbS k n t (.sl cs m f)))
def qwy:Ss->Prop
 |.block _ b r=>qjC b/\qwy r
 |_=>True
theorem qwz {cs:List D} {m i:Nat} {f:Bool} {k0 n0:Int} {s0:ByteArray} {w w1:List UInt8} {T:List ByteArray} {k n:Int} {s:ByteArray} {d:D} {rest:List D} (hd:cs.drop (i*4) = .lit (.int .i64 k) :: .lit (.int .i64 n) :: .lit (.string s)::d::rest)
  (h1:V.one (.dat d)=true) (hcl:V.cells (.dat d)=[.dat d]) (hi:i<m) (hm:m<2 ^ 40) (hT : ∀ t∈T,t.size≠0) (hw:w1=pw w T) (hsz:w1.length<2 ^ 40)
  (zs:Z tS (.call 263 [.dat (.agg [.lit (.int .i64 k),.lit (.int .i64 n),.lit (.string s),d])] [])=some (.ret (.str (bs (qao false T))) []))
  {r:Res} (zr:Z tS (.loop 0 F248l0 (sbF (bs w1) ((i+1:Nat):Int) []) (sbS k0 n0 s0 (.sl cs m f)))=some r) :
  Z tS (.loop 0 F248l0 (sbF (bs w) i []) (sbS k0 n0 s0 (.sl cs m f)))=some r:=by
 have hc:=qyL hd
 have hlt:(i:Int)<m:=by omega
 have w1':IntKind.i64.wrap ((i:Int)+1)=((i+1:Nat):Int):=by rw[qae _ (by omega)]; omega
 have hle:=qgI T (wl w)
 have zj:=qt5 (bs w) (bs (qao false T)) (by
  rw[qav,qav]
  have:=congrArg List.length hw
  simp only[pw,Wr] at this
  omega)
 rw[qbi,qt6 w hT,<- hw] at zj
 rw[<- zr]
 conv=>lhs; rw[qab]
 generalize ((i+1:Nat):Int)=i1 at *
 generalize bs (qao false T)=R at *
 generalize bs w1=W1 at *
 generalize bs w=W0 at *
 simp[qaa,qhy,qag,V.len,hc,h1,hcl,hlt,hi,zs,zj,w1',Wa]
theorem qnM{b:Ss}(hg:b.good none)(hl:qub b):qjC b:=by
 have htg:=qkl (qh3 b none hg).ok
 have hnz : ∀ t∈b.tx,t.size≠0:=fun t ht=>qeN (htg t ht)
 refine⟨hnz,?_⟩
 intro k n s f hsz
 obtain⟨w2,e2⟩ : ∃ v,v=pw [123] b.tx:=⟨_,rfl⟩
 have e3:qao false b.btx=w2++[125]:=by
  rw[<- qd7,Ss.btx,qcM,qay,e2]
  show pw (pw ([]++(gap (wl []) ⟨#[123]⟩++byl ⟨#[123]⟩)) b.tx) [⟨#[125]⟩]=_
  rw[show ([]++(gap (wl []) ⟨#[123]⟩++byl ⟨#[123]⟩):List UInt8)=[123] by decide,qcM,qdW]
  have : ∀ q,gap q ⟨#[125]⟩=[]:=fun q=>by cases q<;>decide
  rw[this]
  rfl
 rw[e3] at hsz ⊢
 have s2:w2.length<2 ^ 40:=by rw[Wr] at hsz; omega
 have hb:b.fo.len<2 ^ 40:=by
  have h1:=qeO b hg
  have h2:=qfL b.tx (wl [123]) hnz
  have h3:=congrArg List.length e2
  simp only[pw,Wr] at h3
  omega
 have hr:bs (w2++[125])=bs w2++⟨#[125]⟩:=(qt4 w2 [125]).symm
 have hsz2 : ¬ (9223372036854775807:Int)<((bs w2).size:Int)+1:=by rw[qav]; omega
 have y1:((⟨#[125]⟩:ByteArray).size:Int)=1:=rfl
 have y2:(⟨#[125]⟩:ByteArray).size=1:=rfl
 have z0:(⟨#[123]⟩:ByteArray)=bs [123]:=rfl
 rw[hr]
 refine Z_call (pf:=F248) rfl rfl ?_
 cases hbl:b.fo.len with
 |zero=>
  have hn:=qfO hbl
  subst hn
  have:w2=[123]:=by rw[e2]; exact qdW _
  subst this
  have y3:((⟨#[123]⟩:ByteArray).size:Int)=1:=rfl
  simp[F248,V.len,qab,qaa,qhy,Wa,bs,y1,y2,y3]
 |succ q=>
  have z2:=hl b.fo.cells (q+1) 0 f k n s [123] w2 (by simp) (by omega) (by omega) e2 s2
  have hk:kd f (q+1) b.fo.cells = .sl b.fo.cells (q+1) f:=rfl
  rw[hk]
  simp only[sbF,sbS,Int.cast_ofNat_Int,<- z0] at z2
  generalize q+1=M at *
  generalize bs w2=W2 at *
  simp[F248,z2,Wa,y1,y2,hsz2]
theorem quc {S r:Ss} {T:List ByteArray} (htx:S.tx=T++r.tx) (hnz : ∀ t∈S.tx,t.size≠0) {cs:List D} {m i:Nat} {f:Bool} {k0 n0:Int} {s0:ByteArray} {w w':List UInt8} {k n:Int} {s:ByteArray} {d:D}
  (hd:cs.drop (i*4) = .lit (.int .i64 k) :: .lit (.int .i64 n) :: .lit (.string s)::d::r.fo.cells) (h1:V.one (.dat d)=true) (hcl:V.cells (.dat d)=[.dat d]) (hm:i+(r.fo.len+1)=m) (hm2:m<2 ^ 40) (hw:w'=pw w S.tx) (hs:w'.length<2 ^ 40)
  (zs:(qao false T).length<2 ^ 40->Z tS (.call 263 [.dat (.agg [.lit (.int .i64 k),.lit (.int .i64 n),.lit (.string s),d])] [])=some (.ret (.str (bs (qao false T))) [])) (ihr:qub r) :
  Z tS (.loop 0 F248l0 (sbF (bs w) i []) (sbS k0 n0 s0 (.sl cs m f)))=some (.out (.exit 0) (sbF (bs w') m [(9,.bool false)]) (sbS k0 n0 s0 (.sl cs m f))):=by
 obtain⟨w1,e1⟩ : ∃ v,v=pw w T:=⟨_,rfl⟩
 have e2:w'=pw w1 r.tx:=by rw[hw,htx,qay,e1]
 have s1:w1.length<2 ^ 40:=Wx (by rw[e2]; exact qkb _ _) hs
 have hle:=qgI T (wl w)
 have sT:(qao false T).length<2 ^ 40:=by
  have:=congrArg List.length e1
  simp only[pw,Wr] at this
  omega
 have nT : ∀ t∈T,t.size≠0:=fun t ht=>hnz t (by rw[htx]; exact YI _ ht)
 exact qwz hd h1 hcl (by omega) hm2 nT e1 s1 (zs sT) (ihr cs m (i+1) f k0 n0 s0 w1 w' (qcz hd) (by omega) hm2 e2 hs)
theorem qwA : ∀ s:Ss,(s.good none->qub s)/\((∃ k,s.good (some k))->qwy s):=by
 intro s
 have nz : ∀ s:Ss,s.good none -> ∀ t∈s.tx,t.size≠0:=fun s h t ht=>qeN (qkl (qh3 s none h).ok t ht)
 induction s with
 |nil=>
  refine⟨fun _ cs m i f k0 n0 s0 w w' hd hm hm2 hw hs=>?_,fun _=>trivial⟩
  rw[Ss.tx,qdW] at hw
  subst hw
  have:i=m:=by simpa [Ss.fo] using hm
  subst this
  simp only[sbF,sbS]
  rw[qab]
  simp[qaa,qhy,V.len,Wa]
 |assign g s e r ih=>
  refine⟨fun h cs m i f k0 n0 s0 w w' hd hm hm2 hw hs=>?_,fun _=>trivial⟩
  have hz:=nz _ h
  obtain⟨_,hn,he,hr⟩:=h
  simp only[Ss.fo,qaB,qf4,qaV,qaZ,qoF,qde,qaF] at hd hm
  exact quc (S := .assign g s e r) (T:=[s]++([⟨#[61]⟩]++(e.tx false 1++([⟨#[59]⟩]++[])))) (by simp only[Ss.tx,Wf,Wc,Wp,Wg]; rfl) hz hd rfl rfl (by omega) hm2 hw hs (qqP (fb:=false) (fc:=false) he (by simp only[Wg,Wp,Wf,Wc])) (ih.1 hr)
 |store g s a b r ih=>
  refine⟨fun h cs m i f k0 n0 s0 w w' hd hm hm2 hw hs=>?_,fun _=>trivial⟩
  have hz:=nz _ h
  obtain⟨_,hn,ha,hb,hr⟩:=h
  simp only[Ss.fo,qaB,qf4,qaV,qaZ,qoF,qde,qaF] at hd hm
  exact quc (S := .store g s a b r) (T:=[s]++([⟨#[91]⟩]++(a.tx false 1++([⟨#[93]⟩]++([⟨#[61]⟩]++(b.tx false 1++([⟨#[59]⟩]++[]))))))) (by simp only[Ss.tx,Wf,Wc,Wp,Wg]; rfl) hz hd rfl rfl (by omega) hm2 hw hs (qsT (fb:=false) (fc:=false) ha hb (by simp only[Wg,Wp,Wf,Wc])) (ih.1 hr)
 |effect g a b r ih=>
  refine⟨fun h cs m i f k0 n0 s0 w w' hd hm hm2 hw hs=>?_,fun _=>trivial⟩
  have hz:=nz _ h
  obtain⟨_,ha,hb,hr⟩:=h
  simp only[Ss.fo,qaB,qf4,qaV,qaZ,qoF,qde,qaF] at hd hm
  exact quc (S := .effect g a b r) (T:=[⟨#[101,102,102,101,99,116]⟩]++(a.tx false 1++([⟨#[44]⟩]++(b.tx false 1++([⟨#[59]⟩]++[]))))) (by simp only[Ss.tx,Wf,Wc,Wp,Wg]; rfl) hz hd rfl rfl (by omega) hm2 hw hs (qqQ (fb:=false) (fc:=false) ha hb (by simp only[Wg,Wp,Wf,Wc])) (ih.1 hr)
 |stop r ih=>
  refine⟨fun h cs m i f k0 n0 s0 w w' hd hm hm2 hw hs=>?_,fun _=>trivial⟩
  have hz:=nz _ h
  obtain⟨_,hr⟩:=h
  simp only[Ss.fo,qaB,qaV,qaZ,qaF,qvR] at hd hm
  exact quc (S := .stop r) (T:=[⟨#[115,116,111,112]⟩,⟨#[59]⟩]) rfl hz hd rfl rfl (by omega) hm2 hw hs (fun _=>qvj rfl rfl) (ih.1 hr)
 |cond w0 g c b r ihb ih=>
  refine⟨fun h cs m i f k0 n0 s0 w w' hd hm hm2 hw hs=>?_,fun _=>trivial⟩
  have hz:=nz _ h
  obtain⟨_,hc,hb,hr⟩:=h
  cases w0 with
  |true=>
   obtain⟨fb,b1,rfl,hb1⟩:=qlr hb
   have hrow:=ihb.2 ⟨1,hb⟩
   simp only[Ss.fo,qaB,qf4,qaV,qaZ,qoF,qde,qaF,if_true] at hd hm
   exact quc (S := .cond true g c (.block fb b1 .nil) r) (T:=[⟨#[119,104,105,108,101]⟩]++(c.tx false 1++b1.btx)) (by simp only[Ss.tx,Ss.btx,Wf,Wc,Wp,Wg,qcx,if_true,Wm,if_false]; rfl) hz hd rfl rfl (by omega) hm2 hw hs (qsU (fc:=false) hc hrow.1 (by simp only[Wg,Wp,Wf,Wc])) (ih.1 hr)
  |false=>
   obtain⟨fb,b1,fc,b2,rfl,hb1,hb2⟩:=qra hb
   have hrow:=ihb.2 ⟨2,hb⟩
   simp only[Ss.fo,qaB,qf4,qaV,qaZ,qoF,qde,qaF,Wm,if_false] at hd hm
   cases hl:b2.fo.len with
   |zero=>
    have hn:=qfO hl
    exact quc (S := .cond false g c (.block fb b1 (.block fc b2 .nil)) r) (T:=[⟨#[105,102]⟩]++(c.tx false 1++b1.btx)) (by rw[hn]; simp only[Ss.tx,Ss.btx,Wf,Wc,Wp,Wg,qcx,if_true,Wm,if_false]; rfl) hz hd rfl rfl (by omega) hm2 hw hs (qxC hc hrow.1 hl (by simp only[Wg,Wp,Wf,Wc])) (ih.1 hr)
   |succ q=>
    have he:qcx (.block fc b2 .nil)=true:=by cases b2<;>first|rfl|simp[Ss.fo] at hl
    exact quc (S := .cond false g c (.block fb b1 (.block fc b2 .nil)) r) (T:=[⟨#[105,102]⟩]++(c.tx false 1++(b1.btx++([⟨#[101,108,115,101]⟩]++b2.btx)))) (by simp only[Ss.tx,Ss.btx,he,Wf,Wc,Wp,Wg,if_true,Wm,if_false]; rfl) hz hd rfl rfl (by omega) hm2 hw hs (qxD hc hrow.1 (by omega) hrow.2.1 (by simp only[Wg,Wp,Wf,Wc])) (ih.1 hr)
 |block g b r ihb ih=>
  refine⟨fun h=>?_,fun ⟨k,h⟩=>?_⟩
  ·obtain⟨n,hn,_⟩:=h; cases hn
  ·obtain⟨n,hn,hb,hr⟩:=h
   exact⟨qnM hb (ihb.1 hb),ih.2 ⟨n,hr⟩⟩
end
section
open F
abbrev hnD:V := .dat (.sl [.lit (.string ⟨#[97,99,116]⟩),.lit (.string ⟨#[116,105,99,107]⟩),.lit (.string ⟨#[104,105,116]⟩)] 3 true)
theorem qnd:Z tS (.call 152 [] [])=some (.ret hnD []):=by
 refine Z_call (pf:=F152) rfl rfl ?_
 simp[F152]
theorem qxa:bs (qao false [])=⟨#[]⟩:=rfl
theorem quP {T T':List ByteArray} {t:ByteArray} {b:Ss} {R R' Q:ByteArray} (hb:qjC b) (hT : ∀ x∈T,x.size≠0) (hR:R=bs (qao false T)) (hQ:Q=bs (qao false b.btx)) (hT':T'=T++(⟨#[111,110]⟩::t::b.btx)) (hR':R'=bs (qao false T')) (hs:R'.size<2 ^ 40) :
  Z tS (.call 247 [.dat (.sl [.lit (.string R),.lit (.string ⟨#[111,110]⟩),.lit (.string t),.lit (.string Q)] 4 true)] [])=some (.ret (.str R') []):=by
 have hP:Parts [R,⟨#[111,110]⟩,t,Q] T':=by
  rw[hR,hQ,hT']
  have:=Parts.sub hT (.tok (t:=⟨#[111,110]⟩) (.tok (t:=t) (.sub (qeK hb.1) .nil)))
  rw[Wp] at this
  exact this
 exact qdM hP hR' (by simp) hs
theorem qo5{T:List ByteArray}{t:ByteArray}{b:Ss}(hT : ∀ x∈T,x.size≠0)(ht:t.size≠0)(hb:qjC b) : ∀ x∈T++(⟨#[111,110]⟩::t::b.btx),x.size≠0:=
 qfH hT (qfH (a:=[⟨#[111,110]⟩,t]) (qfH (a:=[⟨#[111,110]⟩]) (qlg (by decide)) (qlg ht)) (qeK hb.1))
theorem qne {A B C:Nd} {i:Nat} (hi:i<3) {g:Hd} (hX:(if i=0 then A else if i=1 then B else C)=g.nd) (hb : ∀ s,g.opt=some s->qjC s) {T T':List ByteArray} (hT : ∀ x∈T,x.size≠0) (hT':T'=T++qdV i g.opt) (hs:(qao false T').length<2 ^ 40) :
  (∀ x∈T',x.size≠0)/\Z tS (.loop 0 F236l0 [(1,.ptr 0 0),(3,.str (bs (qao false T))),(4,.int i)] [qnv A B C])=Z tS (.loop 0 F236l0 [(1,.ptr 0 0),(3,.str (bs (qao false T'))),(4,.int ((i+1:Nat):Int))] [qnv A B C]):=by
 have zh:=qnd
 cases g with
 |none=>
  obtain rfl:T'=T:=by rw[hT']; exact Wp T
  refine⟨hT,?_⟩
  generalize bs (qao false T')=R at *
  conv=>lhs; rw[qab]
  obtain rfl|rfl|rfl:i=0\/i=1\/i=2:=by omega
  all_goals
   first | (have hX:A=_:=hX; subst hX) | (have hX:B=_:=hX; subst hX) | (have hX:C=_:=hX; subst hX)
   simp[qaa,qhx,qnv,Nd.d,Hd.k,Hd.f,Hd.ks,Wa,show IntKind.i64.wrap 1=1 from rfl,show IntKind.i64.wrap 2=2 from rfl,show IntKind.i64.wrap 3=3 from rfl]
 |some f b=>
  have hbb:=hb b rfl
  have hn:T'=T++(⟨#[111,110]⟩::qcb i::b.btx):=hT'
  have q:(qao false b.btx).length<2 ^ 40:=Wx (by
   have:=qau (T++[⟨#[111,110]⟩,qcb i]) b.btx [] false
   rw[Wp,Wg] at this
   rw[hn]
   exact this) hs
  have z:=hbb.2 7 0 ⟨#[]⟩ f q
  have hsz:(qcb i).size≠0:=by
   obtain rfl|rfl|rfl:i=0\/i=1\/i=2:=by omega
   all_goals decide
  refine⟨by rw[hn]; exact qo5 hT hsz hbb,?_⟩
  have y:=quP (t:=qcb i) hbb hT rfl rfl hn rfl (by rw[qav]; exact hs)
  generalize bs (qao false b.btx)=Q at *
  generalize bs (qao false T)=R at *
  generalize bs (qao false T')=R' at *
  conv=>lhs; rw[qab]
  obtain rfl|rfl|rfl:i=0\/i=1\/i=2:=by omega
  all_goals
   first | (have hX:A=_:=hX; subst hX) | (have hX:B=_:=hX; subst hX) | (have hX:C=_:=hX; subst hX)
   simp only[qcb,qi4,qfM,bs] at y
   simp[qaa,qhx,qnv,Nd.d,Hd.k,Hd.f,Hd.ks,zh,z,y,qag,Wa,show IntKind.i64.wrap 1=1 from rfl,show IntKind.i64.wrap 2=2 from rfl,show IntKind.i64.wrap 3=3 from rfl]
theorem qn6 {a b c:Hd} (hg : ∀ k,qcI (Hd.opts a b c k)) (hsz:(qao false (qa0 (Hd.opts a b c))).length<2 ^ 40) :
  Z tS (.call 236 [.dat (ru a.nd b.nd c.nd)] [])=some (.ret (.str (bs (qao false (qa0 (Hd.opts a b c))))) []):=by
 have hb : ∀ {s:Ss} (k:Nat),Hd.opts a b c k=some s->qjC s:=fun k h=>qnM ((hg k) _ h).1 ((qwA _).1 ((hg k) _ h).1)
 have e:qa0 (Hd.opts a b c)=(qdV 0 a.opt++qdV 1 b.opt)++qdV 2 c.opt:=by rw[Wg]; rfl
 have l2:=qau [] (qdV 0 a.opt++qdV 1 b.opt) (qdV 2 c.opt) false
 have l1:=qau [] (qdV 0 a.opt) (qdV 1 b.opt) false
 rw[Wc] at l1 l2
 rw[<- e] at l2
 obtain⟨t1,y1⟩:=qne (A:=a.nd) (B:=b.nd) (C:=c.nd) (i:=0) (by omega) (g:=a) rfl (fun s h=>hb 0 h) (T:=[]) (T':=qdV 0 a.opt) qon rfl (by omega)
 obtain⟨t2,y2⟩:=qne (A:=a.nd) (B:=b.nd) (C:=c.nd) (i:=1) (by omega) (g:=b) rfl (fun s h=>hb 1 h) t1 rfl (by omega)
 obtain⟨t3,y3⟩:=qne (A:=a.nd) (B:=b.nd) (C:=c.nd) (i:=2) (by omega) (g:=c) rfl (fun s h=>hb 2 h) t2 rfl (by rw[<- e]; exact hsz)
 rw[<- e] at y3
 have y:=y1.trans (y2.trans y3)
 generalize bs (qao false (qa0 (Hd.opts a b c)))=R at *
 have y4:Z tS (.loop 0 F236l0 [(1,.ptr 0 0),(3,.str R),(4,.int ((2+1:Nat):Int))] [qnv a.nd b.nd c.nd])=some (.out (.exit 0) [(1,.ptr 0 0),(3,.str R),(4,.int 3),(6,.bool false)] [qnv a.nd b.nd c.nd]):=by
  rw[qab]
  simp[qaa,qhx]
 have y:=y.trans y4
 rw[qxa] at y
 clear y1 y2 y3 y4 hb
 generalize a.nd=A at *
 generalize b.nd=B at *
 generalize c.nd=C at *
 simp only[Wd,qnv] at y
 refine Z_call (pf:=F236) rfl rfl ?_
 simp[F236,ru,y,Wa]
end
end Go.Pm
section
namespace Go.Pm.F
def tP:Nat->Option PFun
 |228=>some F228
 |239=>some F239
 |240=>some F240
 |241=>some F241
 |242=>some F242
 |249=>some F249
 |250=>some F250
 |251=>some F251
 |252=>some F252
 |253=>some F253
 |254=>some F254
 |255=>some F255
 |256=>some F256
 |264=>some F264
 |265=>some F265
 |266=>some F266
 |267=>some F267
 |268=>some F268
 |269=>some F269
 |270=>some F270
 |271=>some F271
 |275=>some F275
 |276=>some F276
 |277=>some F277
 |278=>some F278
 |279=>some F279
 |280=>some F280
 |281=>some F281
 |284=>some F284
 |285=>some F285
 |286=>some F286
 |287=>some F287
 |289=>some F289
 |290=>some F290
 |292=>some F292
 |297=>some F297
 |303=>some F303
 |304=>some F304
 |307=>some F307
 |308=>some F308
 |309=>some F309
 |_=>none
end Go.Pm.F
end
namespace Go.Pm
section
open F
theorem qe8(c:UInt8):Z tP (.call 264 [.dat (.lit (.int .u8 c.toNat))] [])=some (.ret (.bool (qaG c)) []):=by
 refine Z_call (pf:=F264) rfl rfl ?_
 by_cases h1:(97:Int)<=c.toNat
 ·have h1':97<=c.toNat:=by omega
  by_cases h2:(c.toNat:Int)<=122
  ·have h2':c.toNat<=122:=by omega
   simp[F264,qaG,h1,h1',h2,h2']
  ·have h2' : ¬ c.toNat<=122:=by omega
   simp[F264,qaG,h1,h1',h2,h2']
 ·have h1' : ¬ 97<=c.toNat:=by omega
  simp[F264,qaG,h1,h1']
theorem qgK(c:UInt8):Z tP (.call 266 [.dat (.lit (.int .u8 c.toNat))] [])=some (.ret (.bool (qal c)) []):=by
 refine Z_call (pf:=F266) rfl rfl ?_
 by_cases h1:(48:Int)<=c.toNat
 ·have h1':48<=c.toNat:=by omega
  by_cases h2:(c.toNat:Int)<=57
  ·have h2':c.toNat<=57:=by omega
   simp[F266,qal,h1,h1',h2,h2']
  ·have h2' : ¬ c.toNat<=57:=by omega
   simp[F266,qal,h1,h1',h2,h2']
 ·have h1' : ¬ 48<=c.toNat:=by omega
  simp[F266,qal,h1,h1']
theorem qqr {d:D} {l:List ByteArray} (hd:RowS d l) (hl:l.length<2 ^ 40) (x:ByteArray) : ∀ (m i:Nat),i+m=l.length ->
  (x∉l.drop i->Z tP (.loop 0 F284l0 [(0,.dat d),(1,.str x),(7,.int l.length),(8,.int i)] [])=some (.out (.exit 0) [(0,.dat d),(1,.str x),(7,.int l.length),(8,.int l.length),(9,.bool false)] [])) /\
  (x∈l.drop i -> ∃ (j:Nat),Z tP (.loop 0 F284l0 [(0,.dat d),(1,.str x),(7,.int l.length),(8,.int i)] [])=some (.out .ret [(4,.int j)] []))
 |0,i,hi=>by
  obtain rfl:i=l.length:=by omega
  have ho:=hd.one
  have hc:=hd.cells
  refine⟨fun _=>?_,fun h=>by simp at h⟩
  rw[qab]
  simp[qaa,qfz,ho,hc]
 |m+1,i,hi=>by
  have hlt:i<l.length:=by omega
  have hlt':(i:Int)<l.length:=by omega
  have ho:=hd.one
  have hcl:=hd.cells
  have ha:=hd.at_ i hlt
  have hc:=qfN l i hlt
  have w1:=qae ((i:Int)+1) (by omega)
  have hdr:l.drop i=l[i]::l.drop (i+1):=WO hlt
  obtain⟨ih1,ih2⟩:=qqr hd hl x m (i+1) (by omega)
  simp only[Wn,Wd] at ih1 ih2
  rw[hdr]
  generalize l[i]=y at hc ⊢
  by_cases hx:x=y
  ·subst hx
   refine⟨fun h=>absurd (WQ ..) h,fun _=>⟨i,?_⟩⟩
   rw[qab]
   simp[qaa,qfz,hlt',ha,hc,qah,ho,hcl]
  ·refine⟨fun h=>?_,fun h=>?_⟩
   ·have z:=ih1 (fun h'=>h (Wy _ h'))
    rw[qab]
    simp[qaa,qfz,hlt',ha,hc,qah,hx,w1,z,ho,hcl]
   ·rcases Ws.1 h with h|h
    ·exact absurd h hx
    ·obtain⟨j,z⟩:=ih2 h
     refine⟨j,?_⟩
     rw[qab]
     simp[qaa,qfz,hlt',ha,hc,qah,hx,w1,z,ho,hcl]
theorem qo8{d:D}{l:List ByteArray}(hd:RowS d l)(hl:l.length<2 ^ 40)(x:ByteArray):Z tP (.call 276 [.dat d,.str x] [])=some (.ret (.bool (decide (x∈l))) []):=by
 have ho:=hd.one
 have hc:=hd.cells
 have hn:=hd.len
 obtain⟨i1,i2⟩:=qqr hd hl x l.length 0 (by omega)
 simp only[Ye,WJ] at i1 i2
 by_cases h:x∈l
 ·obtain⟨j,z⟩:=i2 h
  have z2:Z tP (.call 284 [.dat d,.str x] [])=some (.ret (.int j) []):=by
   refine Z_call (pf:=F284) rfl rfl ?_
   simp[F284,ho,hc,hn,z]
  have hj:(0:Int)<=j:=by omega
  refine Z_call (pf:=F276) rfl rfl ?_
  simp[F276,ho,hc,z2,h,hj]
 ·have z:=i1 h
  have z2:Z tP (.call 284 [.dat d,.str x] [])=some (.ret (.int (-1)) []):=by
   refine Z_call (pf:=F284) rfl rfl ?_
   simp[F284,ho,hc,hn,z]
  refine Z_call (pf:=F276) rfl rfl ?_
  simp[F276,ho,hc,z2,h]
end
section
open F
def kwL:List (List UInt8 × Int):=[([111,110],2),([97,99,116],2),([116,105,99,107],2),([105,102],2),([101,108,115,101],2),([119,104,105,108,101],2),([101,102,102,101,99,116],2),([115,116,111,112],2),([116,114,117,101],2),([102,97,108,115,101],2),([115,101,108,102],2),([111,116,104,101,114],2),([120],3),([121],3),([118,120],3),([118,121],3),([97],3),([98],3),([104,105,116],3),([115,116,105,108,108],3)]
def kwM:List (Value × V):=kwL.map fun x=>(.string ⟨x.1.toArray⟩,.int x.2)
theorem qjP(s:ByteArray):Z tP (.call 239 [.str s] [])=some (.ret (.agg [.str s,.mp 0]) [.map kwM]):=by
 exact qrR (n:=2) (by kernel_rfl)
theorem quj(w:ByteArray):qkT .s (.string w) kwM=some (if w∈fieldNames then some (.int 3) else if w∈wordNames then some (.int 2) else none):=by
 have key : ∀ (l:List (List UInt8 × Int)),qkT .s (.string w) (l.map fun x=>(Value.string ⟨x.1.toArray⟩,V.int x.2))=some ((l.find? fun x=>decide (bs x.1=w)).map fun x => .int x.2):=fun l=>by
  induction l with
  |nil=>rfl
  |cons x l ih=>
   simp only[Wo,qkT,qd3,ih,List.find?_cons]
   by_cases h:bs x.1=w
   ·have h':(w==(⟨x.1.toArray⟩:ByteArray))=true:=by rw[beq_iff_eq]; exact h.symm
    have h2:((⟨x.1.toArray⟩:ByteArray)==w)=true:=by rw[beq_iff_eq]; exact h
    simp[h,h',h2]
   ·have h':(w==(⟨x.1.toArray⟩:ByteArray))=false:=by rw[beq_eq_false_iff_ne]; exact fun e=>h e.symm
    have h2:((⟨x.1.toArray⟩:ByteArray)==w)=false:=by rw[beq_eq_false_iff_ne]; exact h
    simp[h,h',h2]
 rw[kwM,key]
 congr 1
 by_cases h1:w∈fieldNames
 ·rw[if_pos h1]
  simp only[fieldNames,Ws,WA,or_false] at h1
  rcases h1 with rfl|rfl|rfl|rfl|rfl|rfl|rfl|rfl<;>rfl
 rw[if_neg h1]
 by_cases h2:w∈wordNames
 ·rw[if_pos h2]
  have hne:w≠qfM:=fun e=>h1 (by rw[e]; decide)
  simp only[wordNames,Ws,WA,or_false] at h2
  rcases h2 with rfl|rfl|rfl|h2|rfl|rfl|rfl|rfl|rfl|rfl|rfl|rfl|rfl
  case inr.inr.inr.inl=>exact absurd h2 hne
  all_goals rfl
 rw[if_neg h2]
 have:kwL.find? (fun x=>decide (bs x.1=w))=none:=by
  rw[YB]
  intro x hx
  have hall : ∀ x∈kwL,bs x.1∈fieldNames\/bs x.1∈wordNames:=by decide
  rw[decide_eq_true_eq]
  rintro rfl
  rcases hall x hx with h|h
  ·exact h1 h
  ·exact h2 h
 rw[this]
 rfl
abbrev pO(s:ByteArray)(m:Nat)(Q:V)(i a c:Int):Ob := .cells [.str s,.mp m,Q,.int i,.int a,.int c]
inductive LxS(s:ByteArray):S->Prop
 |nil (i a c:Int):LxS s [pO s 1 (.dat (.lit (.slice none 0 0))) i a c,.map kwM]
 |gr (cs:List D) (n t:Nat) (i a c:Int):LxS s [pO s 1 (.gsl cs n 5 2) i a c,.map kwM,.tip t]
theorem qbm:qiG kwM=[]:=rfl
theorem qca(r:Nat->Nat):qtA r kwM=kwM:=rfl
attribute [local simp] qbm qca
theorem qjQ (s:ByteArray) (hl:s.size<2 ^ 40) {σ : S} (hσ : LxS s σ) : ∀ (m i:Nat) (cm:Bool),i+m=s.size ->
  (i+qaD cm ((byl s).drop i)=s.size /\ ∃ v,Z tP (.loop σ.length F251l0 [(0,.ptr 0 0),(1,.int i),(5,.bool cm)] σ)=some (.out (.exit 0) [(0,.ptr 0 0),(1,.int s.size),(5,v),(13,.bool false)] σ)) \/
  Z tP (.loop σ.length F251l0 [(0,.ptr 0 0),(1,.int i),(5,.bool cm)] σ)=some (.out .ret [(4,.int ((i+qaD cm ((byl s).drop i):Nat)))] σ)
 |0,i,cm,hi=>by
  obtain rfl:i=s.size:=by omega
  have hd:(byl s).drop s.size=[]:=WN (by rw[qat]; exact Wl _)
  refine .inl ⟨by rw[hd]; simp[qaD],.bool cm,?_⟩
  rw[qab]
  cases hσ <;> simp[qaa,qdE,V.len,Wa]
 |m+1,i,cm,hi=>by
  obtain⟨c,h1,h2⟩:=qh6 (s:=s) (i:=i) (by omega)
  have hd:=qdR h2
  have hlt:(i:Int)<s.size:=by omega
  have w1:=qae ((i:Int)+1) (by omega)
  have ih:=fun cm=>qjQ s hl hσ m (i+1) cm (by omega)
  have fin : ∀ cm',qaD cm ((byl s).drop i)=1+qaD cm' ((byl s).drop (i+1)) ->
    Z tP (.loop σ.length F251l0 [(0,.ptr 0 0),(1,.int i),(5,.bool cm)] σ)=Z tP (.loop σ.length F251l0 [(0,.ptr 0 0),(1,.int (i+1)),(5,.bool cm')] σ) ->
    (i+qaD cm ((byl s).drop i)=s.size /\ ∃ v,Z tP (.loop σ.length F251l0 [(0,.ptr 0 0),(1,.int i),(5,.bool cm)] σ)=some (.out (.exit 0) [(0,.ptr 0 0),(1,.int s.size),(5,v),(13,.bool false)] σ)) \/
    Z tP (.loop σ.length F251l0 [(0,.ptr 0 0),(1,.int i),(5,.bool cm)] σ)=some (.out .ret [(4,.int ((i+qaD cm ((byl s).drop i):Nat)))] σ):=fun cm' e z=>by
   rw[e,z]
   have ih:=ih cm'
   rw[show i+(1+qaD cm' ((byl s).drop (i+1)))=i+1+qaD cm' ((byl s).drop (i+1)) by omega]
   simpa using ih
  by_cases h10:c.toNat=10
  ·refine fin false (by rw[hd]; simp[qaD,h10]; omega) ?_
   rw[qab]
   cases hσ <;> simp[qaa,qdE,V.len,h1,hlt,h10,w1,Wa]
  have h10' : ¬ (c.toNat:Int)=10:=by omega
  by_cases hc:cm=true\/c.toNat=32\/c.toNat=9
  ·refine fin cm (by rw[hd]; simp only[qaD,if_neg h10,if_pos hc]; omega) ?_
   rw[qab]
   cases cm
   ·have h9:c.toNat=32\/c.toNat=9:=by simpa using hc
    rcases h9 with h9|h9<;>cases hσ <;> simp[qaa,qdE,V.len,h1,hlt,h10',h9,w1,Wa]
   ·cases hσ <;> simp[qaa,qdE,V.len,h1,hlt,h10',w1,Wa]
  have hc':=hc
  simp only[not_or,Bool.not_eq_true] at hc'
  obtain⟨rfl,h32,h9⟩:=hc'
  have h32' : ¬ (c.toNat:Int)=32:=by omega
  have h9' : ¬ (c.toNat:Int)=9:=by omega
  by_cases h35:c.toNat=35
  ·refine fin true (by rw[hd]; simp only[qaD,if_neg h10,if_neg hc,if_pos h35]; omega) ?_
   rw[qab]
   cases hσ <;> simp[qaa,qdE,V.len,h1,hlt,h35,w1,Wa]
  ·have h35' : ¬ (c.toNat:Int)=35:=by omega
   have e:qaD false ((byl s).drop i)=0:=by rw[hd]; simp only[qaD,if_neg h10,if_neg hc,if_neg h35]
   rw[e]
   refine .inr ?_
   rw[qab]
   cases hσ <;> simp[qaa,qdE,V.len,h1,hlt,h10',h32',h9',h35',Wa]
theorem qpQ(s:ByteArray)(hl:s.size<2 ^ 40){σ : S}(hσ : LxS s σ){i:Nat}(hi:i<=s.size):Z tP (.call 251 [.ptr 0 0,.int i] σ)=some (.ret (.int ((i+qaD false ((byl s).drop i):Nat))) σ):=by
 rcases qjQ s hl hσ (s.size-i) i false (by omega) with ⟨h,v,z⟩|z
 ·rw[h]
  refine Z_call (pf:=F251) rfl rfl ?_
  cases hσ <;> simp only[Wj,Wu,Nat.reduceAdd] at z<;>simp[F251,z,Wa]
 ·generalize i+qaD false ((byl s).drop i)=j at z ⊢
  refine Z_call (pf:=F251) rfl rfl ?_
  cases hσ <;> simp only[Wj,Wu,Nat.reduceAdd] at z<;>simp[F251,z,Wa]
end
section
open F
attribute [local simp] qbm qca
abbrev tk5:Ob := .cells [.int 0,.str ⟨#[]⟩,.int 0,.int 0,.int 0]
theorem qjR (s:ByteArray) (hl:s.size<2 ^ 40) {σ : S} (hσ : LxS s σ) (a:Int) : ∀ (m i:Nat),i+m=s.size ->
  Z tP (.loop σ.length F265l0 [(0,.ptr 0 0),(1,.int a),(4,.ptr σ.length 0),(5,.int i)] (σ ++ [tk5]))=some (.out (.exit 0) [(0,.ptr 0 0),(1,.int a),(4,.ptr σ.length 0),(5,.int ((i+qa3 qaq ((byl s).drop i):Nat))),(34,.bool false)] (σ ++ [tk5]))
 |0,i,hi=>by
  obtain rfl:i=s.size:=by omega
  have hd:(byl s).drop s.size=[]:=WN (by rw[qat]; exact Wl _)
  rw[qab,hd]
  cases hσ <;> simp[qaa,qfu,V.len,qa3,Wa]
 |m+1,i,hi=>by
  obtain⟨c,h1,h2⟩:=qh6 (s:=s) (i:=i) (by omega)
  have hd:=qdR h2
  have hlt:(i:Int)<s.size:=by omega
  have w1:=qae ((i:Int)+1) (by omega)
  have zl:=qe8 c
  have zd:=qgK c
  have ih:=qjR s hl hσ a m (i+1) (by omega)
  simp only[Wn,Wd] at ih
  by_cases hc:qaq c=true
  ·have e:(i:Int)+((qa3 qaq ((byl s).drop (i+1)):Int)+1)=i+1+qa3 qaq ((byl s).drop (i+1)):=by omega
   rw[qab,hd]
   simp only[qaq,Ya] at hc
   by_cases hcl:qaG c=true
   ·cases hσ <;> simp only[Wf,Wc,Wj,Wu,Nat.reduceAdd] at ih<;>simp[qaa,qfu,V.len,qa3,h1,hlt,w1,zl,zd,hcl,ih,qaq,e,Wa]
   ·have hcd:qal c=true:=by rcases hc with h|h; exact absurd h hcl; exact h
    cases hσ <;> simp only[Wf,Wc,Wj,Wu,Nat.reduceAdd] at ih<;>simp[qaa,qfu,V.len,qa3,h1,hlt,w1,zl,zd,hcl,hcd,ih,qaq,e,Wa]
  ·simp only[qaq,Ya,not_or] at hc
   rw[qab,hd]
   cases hσ <;> simp[qaa,qfu,V.len,qa3,h1,hlt,w1,zl,zd,hc.1,hc.2,qaq,Wa]
abbrev ptD(k:Int)(t:ByteArray)(a v c:Int):V := .dat (.agg [.lit (.int .i64 k),.lit (.string t),.lit (.int .i64 a),.lit (.int .i64 v),.lit (.int .i64 c)])
def pkW(w:ByteArray):Int:=if w∈fieldNames then 3 else if w∈wordNames then 2 else if 8<w.size then 6 else 1
def pcW(w:ByteArray):Int:=if w∈fieldNames\/w∈wordNames then 0 else if 8<w.size then 2 else 0
theorem quk(s:ByteArray)(hl:s.size<2 ^ 40){σ : S}(hσ : LxS s σ){i:Nat}(hi:i<=s.size):Z tP (.call 265 [.ptr 0 0,.int i] σ)=some (.ret (ptD (pkW (s.extract i (i+qa3 qaq ((byl s).drop i)))) (s.extract i (i+qa3 qaq ((byl s).drop i))) i 0 (pcW (s.extract i (i+qa3 qaq ((byl s).drop i))))) σ):=by
 have z:=qjR s hl hσ i (s.size-i) i (by omega)
 have hr:=qdS qaq ((byl s).drop i)
 rw[WT,qat] at hr
 generalize hq:i+qa3 qaq ((byl s).drop i)=q at z ⊢
 have q1:(i:Int)<=q:=by omega
 have q2:(q:Int)<=s.size:=by omega
 have q3:(i:Int)<=s.size:=by omega
 have hk:=quj (s.extract i q)
 have hws:(s.extract i q).size<=s.size:=by rw[Yk]; omega
 obtain⟨w,hw⟩ : ∃ w,s.extract i q=w:=⟨_,rfl⟩
 rw[hw] at hk hws ⊢
 refine Z_call (pf:=F265) rfl rfl ?_
 unfold pkW pcW
 by_cases h1:w∈fieldNames
 ·rw[if_pos h1] at hk
  cases hσ <;> simp only[Wf,Wc,Wj,Wu,Nat.reduceAdd] at z<;>simp[F265,z,qa1,bound,q1,q2,q3,hw,hk,h1,qo0,qbX,qaO,Wa]
 by_cases h2:w∈wordNames
 ·rw[if_neg h1,if_pos h2] at hk
  cases hσ <;> simp only[Wf,Wc,Wj,Wu,Nat.reduceAdd] at z<;>simp[F265,z,qa1,bound,q1,q2,q3,hw,hk,h1,h2,qo0,qbX,qaO,Wa]
 rw[if_neg h1,if_neg h2] at hk
 by_cases h3:8<w.size
 ·have h3':(8:Int)<w.size:=by omega
  cases hσ <;> simp only[Wf,Wc,Wj,Wu,Nat.reduceAdd] at z<;>simp[F265,z,qa1,bound,q1,q2,q3,hw,hk,h1,h2,h3,h3',V.len,qo0,qbX,qaO,Wa]
 ·have h3' : ¬ (8:Int)<w.size:=by omega
  cases hσ <;> simp only[Wf,Wc,Wj,Wu,Nat.reduceAdd] at z<;>simp[F265,z,qa1,bound,q1,q2,q3,hw,hk,h1,h2,h3,h3',V.len,qo0,qbX,qaO,Wa]
def qrY(v:Nat)(l:List UInt8):Nat:=l.foldl (fun v c=>min (10*v+(c.toNat-48)) 2147483648) v
theorem qul(l:List UInt8) : ∀ n,qrY (min n 2147483648) l=min (l.foldl (fun v c=>10*v+(c.toNat-48)) n) 2147483648:=by
 induction l with
 |nil=>intro n; rfl
 |cons c l ih=>
  intro n
  have:=ih (10*n+(c.toNat-48))
  simp only[qrY,Yx] at this ⊢
  rw[<- this]
  congr 1
  omega
theorem qrZ(l:List UInt8):qrY 0 l=min (digV l) 2147483648:=qul l 0
theorem ql2 (s:ByteArray) (hl:s.size<2 ^ 40) {σ : S} (hσ : LxS s σ) (a:Int) : ∀ (m i v:Nat),i+m=s.size->v<=2147483648 ->
  Z tP (.loop σ.length F267l0 [(0,.ptr 0 0),(1,.int a),(4,.ptr σ.length 0),(5,.int i),(6,.int v)] (σ ++ [tk5]))=some (.out (.exit 0) [(0,.ptr 0 0),(1,.int a),(4,.ptr σ.length 0),(5,.int ((i+qa3 qal ((byl s).drop i):Nat))),(6,.int (qrY v (((byl s).drop i).take (qa3 qal ((byl s).drop i))))),(24,.bool false)] (σ ++ [tk5]))
 |0,i,v,hi,hv=>by
  obtain rfl:i=s.size:=by omega
  have hd:(byl s).drop s.size=[]:=WN (by rw[qat]; exact Wl _)
  rw[qab,hd]
  cases hσ <;> simp[qaa,qg7,V.len,qa3,qrY,Wa]
 |m+1,i,v,hi,hv=>by
  obtain⟨c,h1,h2⟩:=qh6 (s:=s) (i:=i) (by omega)
  have hd:=qdR h2
  have hlt:(i:Int)<s.size:=by omega
  have w1:=qae ((i:Int)+1) (by omega)
  have zd:=qgK c
  by_cases hc:qal c=true
  ·have hc2:48<=c.toNat/\c.toNat<=57:=by simpa [qal] using hc
   have ih:=ql2 s hl hσ a m (i+1) (min (10*v+(c.toNat-48)) 2147483648) (by omega) (Nat.min_le_right _ _)
   have e:(i:Int)+((qa3 qal ((byl s).drop (i+1)):Int)+1)=i+1+qa3 qal ((byl s).drop (i+1)):=by omega
   have es:qrY v (((byl s).drop i).take (qa3 qal ((byl s).drop i)))=qrY (min (10*v+(c.toNat-48)) 2147483648) (((byl s).drop (i+1)).take (qa3 qal ((byl s).drop (i+1)))):=by
    rw[hd]; simp[qa3,hc,qrY]
   rw[es]
   have er:i+qa3 qal ((byl s).drop i)=i+1+qa3 qal ((byl s).drop (i+1)):=by
    rw[hd]; simp[qa3,hc]; omega
   rw[er]
   have u0 : ∀ d:Nat,d<10->IntKind.u8.wrap (d:Int)=d:=by decide
   have u1:IntKind.u8.wrap ((c.toNat:Int)-48)=c.toNat-48:=by
    rw[show ((c.toNat:Int)-48)=((c.toNat-48:Nat):Int) by omega]; exact u0 _ (by omega)
   have u2:IntKind.i64.wrap ((c.toNat:Int)-48)=c.toNat-48:=qae _ (by omega)
   have u3:IntKind.i64.wrap (10*(v:Int))=10*v:=qae _ (by omega)
   have u4:IntKind.i64.wrap (10*(v:Int)+((c.toNat:Int)-48))=10*v+(c.toNat-48):=qae _ (by omega)
   have u5:(if 2147483648<10*(v:Int)+(c.toNat-48) then 2147483648 else 10*(v:Int)+(c.toNat-48))=((min (10*v+(c.toNat-48)) 2147483648:Nat):Int):=by split<;>omega
   generalize min (10*v+(c.toNat-48)) 2147483648=v' at ih u5 ⊢
   rw[<- ih,qab]
   cases hσ <;> simp[qaa,qg7,V.len,h1,hlt,w1,zd,hc,u1,u2,u3,u4,u5,qo1,ql7,Wa]
  ·have e0:qa3 qal ((byl s).drop i)=0:=by rw[hd]; simp[qa3,hc]
   rw[e0,qab]
   cases hσ <;> simp[qaa,qg7,V.len,h1,hlt,zd,hc,qrY,Wa]
end
section
open F
attribute [local simp] qbm qca
theorem qxb (s:ByteArray) (hl:s.size<2 ^ 40) {σ : S} (hσ : LxS s σ) {i:Nat} (hi:i<=s.size):Z tP (.call 267 [.ptr 0 0,.int i] σ) =
  some (.ret (ptD (if 2147483647<digV (((byl s).drop i).take (qa3 qal ((byl s).drop i))) then 6 else 4) (s.extract i (i+qa3 qal ((byl s).drop i))) i (min (digV (((byl s).drop i).take (qa3 qal ((byl s).drop i)))) 2147483648:Nat) (if 2147483647<digV (((byl s).drop i).take (qa3 qal ((byl s).drop i))) then 6 else 0)) σ):=by
 have z:=ql2 s hl hσ i (s.size-i) i 0 (by omega) (by omega)
 rw[qrZ] at z
 have hr:=qdS qal ((byl s).drop i)
 rw[WT,qat] at hr
 generalize digV (((byl s).drop i).take (qa3 qal ((byl s).drop i)))=n at z ⊢
 generalize hq:i+qa3 qal ((byl s).drop i)=q at z ⊢
 have q1:(i:Int)<=q:=by omega
 have q2:(q:Int)<=s.size:=by omega
 have q3:(i:Int)<=s.size:=by omega
 obtain⟨w,hw⟩ : ∃ w,s.extract i q=w:=⟨_,rfl⟩
 rw[hw]
 refine Z_call (pf:=F267) rfl rfl ?_
 by_cases hn:2147483647<n
 ·have e:min n 2147483648=2147483648:=by omega
  rw[e] at z ⊢
  rw[if_pos hn,if_pos hn]
  simp only[Ye,Wd] at z
  cases hσ <;> simp only[Wf,Wc,Wj,Wu,Nat.reduceAdd] at z<;>simp[F267,z,qa1,bound,q1,q2,q3,hw,Wa]
 ·have e:min n 2147483648=n:=by omega
  have hn' : ¬ (2147483647:Int)<n:=by omega
  rw[e] at z ⊢
  rw[if_neg hn,if_neg hn]
  simp only[Ye] at z
  cases hσ <;> simp only[Wf,Wc,Wj,Wu,Nat.reduceAdd] at z<;>simp[F267,z,qa1,bound,q1,q2,q3,hw,hn',Wa]
def qtI:ByteArray:=⟨#[123,125,91,93,40,41,61,59,44,60,62,43,45,42,47,33]⟩
theorem quQ(c:UInt8):decide (0<=firstIdx qtI c)=decide (c.toNat∈symB):=by
 have h : ∀ n:_root_.Fin 256,decide (0<=firstIdx qtI n.val.toUInt8)=decide (n.val.toUInt8.toNat∈symB):=by decide +kernel
 have:=h ⟨c.toNat,c.toNat_lt⟩
 simpa using this
theorem qxc(c:UInt8):Z tP (.call 268 [.str qtI,.dat (.lit (.int .u8 c.toNat))] [])=some (.ret (.int (firstIdx qtI c)) []):=by
 have z:Z tP (.call 275 [.str qtI,.dat (.lit (.int .u8 c.toNat))] [])=some (.ret (.int (firstIdx qtI c)) []):=by
  refine Z_call (pf:=F275) rfl rfl ?_
  simp[F275]
 refine Z_call (pf:=F268) rfl rfl ?_
 simp[F268,z]
def kindT(t:Tk):Int:=if t.bad≠0 then 6 else if t.s=⟨#[]⟩ then 0 else if qaj qaG t.s then (if t.s∈fieldNames then 3 else if t.s∈wordNames then 2 else 1) else if qaj qal t.s then 4 else 5
def qfV(t:Tk):ByteArray:=if t.bad=12 then ⟨#[]⟩ else t.s
def valT(t:Tk):Nat:=if qaj qal t.s then min (digV (byl t.s)) 2147483648 else 0
abbrev ptk(t:Tk):V:=ptD (kindT t) (qfV t) t.at_ (valT t) t.bad
end
section
open F
attribute [local simp] qbm qca
theorem qel(p:UInt8->Bool)(c:UInt8)(r:List UInt8):qaj p (bs (c::r))=p c:=by rw[qaS,qbi]; rfl
theorem qqa{c:UInt8}(h:qaG c=true):qal c=false:=by
 simp only[qaG,qal,Wt,decide_eq_true_eq,Yn,decide_eq_false_iff_not] at h ⊢
 omega
theorem qn3{p:UInt8->Bool}{c:UInt8}(r:List UInt8)(h:p c=true):(c::r).take (qa3 p (c::r))=c::r.take (qa3 p r):=by simp[qa3,h]
theorem qr8(s:ByteArray){σ : S}(hσ : LxS s σ):Z tP (.call 250 [.ptr 0 0,.int s.size] σ)=some (.ret (ptD 0 ⟨#[]⟩ s.size 0 0) σ):=by
 refine Z_call (pf:=F250) rfl rfl ?_
 cases hσ <;> simp[F250,V.len,Wa]
theorem qr9(s:ByteArray){σ : S}(hσ : LxS s σ){i:Nat}(hi:i<s.size){c:UInt8}(h1:s[i]?=some c)(hc:qaG c=true){v:D}(ho:V.one (.dat v)=true){k n x e:Int}{t:ByteArray}(z:Z tP (.call 265 [.ptr 0 0,.int i] σ)=some (.ret (ptD k t n x e) σ)):Z tP (.call 250 [.ptr 0 0,.int i] σ)=some (.ret (ptD k t n x e) σ):=by
 have zl:=qe8 c
 have hne : ¬ (i:Int)=s.size:=by omega
 have hne' : ¬ i=s.size:=by omega
 refine Z_call (pf:=F250) rfl rfl ?_
 cases hσ <;> simp[F250,V.len,h1,hne,hne',zl,hc,z,Wa]
theorem qsa(s:ByteArray){σ : S}(hσ : LxS s σ){i:Nat}(hi:i<s.size){c:UInt8}(h1:s[i]?=some c)(hl:qaG c=false)(hc:qal c=true){k n x e:Int}{t:ByteArray}(z:Z tP (.call 267 [.ptr 0 0,.int i] σ)=some (.ret (ptD k t n x e) σ)):Z tP (.call 250 [.ptr 0 0,.int i] σ)=some (.ret (ptD k t n x e) σ):=by
 have zl:=qe8 c
 have zd:=qgK c
 have hne : ¬ (i:Int)=s.size:=by omega
 have hne' : ¬ i=s.size:=by omega
 refine Z_call (pf:=F250) rfl rfl ?_
 cases hσ <;> simp[F250,V.len,h1,hne,hne',zl,zd,hl,hc,z,Wa]
theorem qqb(s:ByteArray)(hs:s.size<2 ^ 40){σ : S}(hσ : LxS s σ){i:Nat}(hi:i+2<=s.size){c:UInt8}(h1:s[i]?=some c)(hl:qaG c=false)(hc:qal c=false){p:ByteArray}(hx:s.extract i (i+2)=p)(hp:p∈qdh):Z tP (.call 250 [.ptr 0 0,.int i] σ)=some (.ret (ptD 5 p i 0 0) σ):=by
 have zl:=qe8 c
 have zd:=qgK c
 have hne : ¬ (i:Int)=s.size:=by omega
 have hne' : ¬ i=s.size:=by omega
 have w2:=qae ((i:Int)+2) (by omega)
 have hle:(i:Int)+2<=s.size:=by omega
 have b1:(i:Int)<=s.size:=by omega
 have b2:(i:Int)<=(i:Int)+2:=by omega
 have b3:(0:Int)<=(i:Int)+2:=by omega
 have b4:((i:Int)+2).toNat=i+2:=by omega
 simp only[qdh,bs,Ws,WA,or_false] at hp
 refine Z_call (pf:=F250) rfl rfl ?_
 rcases hp with rfl|rfl|rfl|rfl|rfl|rfl<;>cases hσ <;> simp[F250,V.len,h1,hne,hne',zl,zd,hl,hc,w2,hle,qa1,bound,b1,b2,b3,b4,hx,qah,Wa]
theorem qsb(s:ByteArray)(hs:s.size<2 ^ 40){σ : S}(hσ : LxS s σ){i:Nat}(hi:i<s.size){c:UInt8}(h1:s[i]?=some c)(hl:qaG c=false)(hc:qal c=false)(hp:i+2<=s.size->s.extract i (i+2)∉qdh){x:ByteArray}(hx:s.extract i (i+1)=x):Z tP (.call 250 [.ptr 0 0,.int i] σ)=some (.ret (if c.toNat∈symB then ptD 5 x i 0 0 else ptD 6 ⟨#[]⟩ i 0 12) σ):=by
 have zl:=qe8 c
 have zd:=qgK c
 have zx:=qxc c
 have hm:=quQ c
 obtain⟨j,hj0⟩ : ∃ j,firstIdx qtI c=j:=⟨_,rfl⟩
 rw[hj0] at zx hm
 simp only[qtI] at zx
 have hne : ¬ (i:Int)=s.size:=by omega
 have hne' : ¬ i=s.size:=by omega
 have w1:=qae ((i:Int)+1) (by omega)
 have w2:=qae ((i:Int)+2) (by omega)
 have a1:(i:Int)+1<=s.size:=by omega
 have a2:(i:Int)<=(i:Int)+1:=by omega
 have a3:(0:Int)<=(i:Int)+1:=by omega
 have a4:((i:Int)+1).toNat=i+1:=by omega
 have b1:(i:Int)<=s.size:=by omega
 have b2:(i:Int)<=(i:Int)+2:=by omega
 have b3:(0:Int)<=(i:Int)+2:=by omega
 have b4:((i:Int)+2).toNat=i+2:=by omega
 by_cases hle:i+2<=s.size
 ·have hle':(i:Int)+2<=s.size:=by omega
  have hp':=hp hle
  generalize hy:s.extract i (i+2)=y at hp'
  simp only[qdh,bs,Ws,WA,or_false,not_or] at hp'
  obtain⟨n1,n2,n3,n4,n5,n6⟩:=hp'
  refine Z_call (pf:=F250) rfl rfl ?_
  by_cases hk:c.toNat∈symB
  ·have hj:(0:Int)<=j:=by simpa [hk] using hm
   rw[if_pos hk]
   cases hσ <;> simp[F250,V.len,h1,hne,hne',zl,zd,zx,hl,hc,w1,w2,hle',qa1,bound,a1,a2,a3,a4,b1,b2,b3,b4,hx,hy,n1,n2,n3,n4,n5,n6,hj,qah,Wa]
  ·have hj : ¬ (0:Int)<=j:=by simpa [hk] using hm
   rw[if_neg hk]
   cases hσ <;> simp[F250,V.len,h1,hne,hne',zl,zd,zx,hl,hc,w1,w2,hle',qa1,bound,a1,a2,a3,a4,b1,b2,b3,b4,hx,hy,n1,n2,n3,n4,n5,n6,hj,qah,Wa]
 ·have hle' : ¬ (i:Int)+2<=s.size:=by omega
  refine Z_call (pf:=F250) rfl rfl ?_
  by_cases hk:c.toNat∈symB
  ·have hj:(0:Int)<=j:=by simpa [hk] using hm
   rw[if_pos hk]
   cases hσ <;> simp[F250,V.len,h1,hne,hne',zl,zd,zx,hl,hc,w1,w2,hle',qa1,bound,a1,a2,a3,a4,hx,hj,qah,Wa]
  ·have hj : ¬ (0:Int)<=j:=by simpa [hk] using hm
   rw[if_neg hk]
   cases hσ <;> simp[F250,V.len,h1,hne,hne',zl,zd,zx,hl,hc,w1,w2,hle',qa1,bound,hj,qah,Wa]
end
section
open F
theorem quu{c:UInt8}{r:List UInt8}:bs (c::r)≠⟨#[]⟩:=fun h=>by
 have:=congrArg ByteArray.size h
 rw[qav,Wj] at this
 exact absurd this (by show ¬ r.length+1=0; omega)
theorem qtD(s:ByteArray)(hl:s.size<2 ^ 40){σ : S}(hσ : LxS s σ){i:Nat}(hi:i<=s.size):Z tP (.call 250 [.ptr 0 0,.int i] σ)=some (.ret (ptk (tokAt 12 2 6 s i)) σ):=by
 by_cases hend:i=s.size
 ·subst hend
  have hd:(byl s).drop s.size=[]:=WN (by rw[qat]; exact Wl _)
  have e:tokAt 12 2 6 s s.size=⟨s.size,⟨#[]⟩,0⟩:=by rw[qcB,hd]; rfl
  rw[e]
  exact qr8 s hσ
 have hi':i<s.size:=by omega
 obtain⟨c,h1,h2⟩:=qh6 hi'
 have hd:=qdR h2
 rw[qcB,hd]
 by_cases hlet:qaG c=true
 ·have hw:qaq c=true:=by simp[qaq,hlet]
  have ht:=qn3 ((byl s).drop (i+1)) hw
  have htok:tokL 12 2 6 (c::(byl s).drop (i+1))=(c::((byl s).drop (i+1)).take (qa3 qaq ((byl s).drop (i+1))),if 8<qa3 qaq (c::(byl s).drop (i+1))/\bs (c::((byl s).drop (i+1)).take (qa3 qaq ((byl s).drop (i+1))))∉fieldNames/\bs (c::((byl s).drop (i+1)).take (qa3 qaq ((byl s).drop (i+1))))∉wordNames then 2 else 0):=by
   simp only[tokL,hlet,if_true,ht]
  have z:=quk s hl hσ hi
  rw[qb8,hd,ht] at z
  have hsz:(bs (c::((byl s).drop (i+1)).take (qa3 qaq ((byl s).drop (i+1))))).size=qa3 qaq (c::(byl s).drop (i+1)):=by
   rw[qav,<- ht,WV,YP (qdS _ _)]
  rw[htok]
  have s1:=qel qaG c (((byl s).drop (i+1)).take (qa3 qaq ((byl s).drop (i+1))))
  have s2:=qel qal c (((byl s).drop (i+1)).take (qa3 qaq ((byl s).drop (i+1))))
  have hne:=quu (c:=c) (r:=((byl s).drop (i+1)).take (qa3 qaq ((byl s).drop (i+1))))
  rw[hlet] at s1
  rw[qqa hlet] at s2
  rw[<- hsz]
  generalize bs (c::((byl s).drop (i+1)).take (qa3 qaq ((byl s).drop (i+1))))=w at *
  have e:ptk ⟨i,w,if 8<w.size/\w∉fieldNames/\w∉wordNames then 2 else 0⟩=ptD (pkW w) w i 0 (pcW w):=by
   have hb:((if 8<w.size/\w∉fieldNames/\w∉wordNames then 2 else 0:Nat):Int)=pcW w:=by
    unfold pcW
    by_cases a:w∈fieldNames<;>by_cases b:w∈wordNames<;>by_cases d:8<w.size<;>simp[a,b,d]
   have hk:kindT ⟨i,w,if 8<w.size/\w∉fieldNames/\w∉wordNames then 2 else 0⟩=pkW w:=by
    unfold pkW kindT
    by_cases a:w∈fieldNames<;>by_cases b:w∈wordNames<;>by_cases d:8<w.size<;>simp[a,b,d,hne,s1]
   have hx:qfV ⟨i,w,if 8<w.size/\w∉fieldNames/\w∉wordNames then 2 else 0⟩=w:=by
    unfold qfV
    by_cases a:8<w.size/\w∉fieldNames/\w∉wordNames<;>simp[a]
   unfold ptk
   rw[hk,hx,hb]
   simp[valT,s2]
  rw[e]
  exact qr9 s hσ hi' h1 hlet (v := .lit (.bool true)) rfl z
 have hlet':qaG c=false:=by simpa using hlet
 by_cases hdig:qal c=true
 ·have ht:=qn3 ((byl s).drop (i+1)) hdig
  have htok:tokL 12 2 6 (c::(byl s).drop (i+1))=(c::((byl s).drop (i+1)).take (qa3 qal ((byl s).drop (i+1))),if 2147483647<digV (c::((byl s).drop (i+1)).take (qa3 qal ((byl s).drop (i+1)))) then 6 else 0):=by
   simp only[tokL,hlet',hdig,if_true,Wm,if_false,ht]
  have z:=qxb s hl hσ hi
  rw[qb8,hd,ht] at z
  rw[htok]
  have s1:=qel qaG c (((byl s).drop (i+1)).take (qa3 qal ((byl s).drop (i+1))))
  have s2:=qel qal c (((byl s).drop (i+1)).take (qa3 qal ((byl s).drop (i+1))))
  have hne:=quu (c:=c) (r:=((byl s).drop (i+1)).take (qa3 qal ((byl s).drop (i+1))))
  rw[hlet'] at s1
  rw[hdig] at s2
  have hbl:=qbi (c::((byl s).drop (i+1)).take (qa3 qal ((byl s).drop (i+1))))
  generalize c::((byl s).drop (i+1)).take (qa3 qal ((byl s).drop (i+1)))=l at *
  have e:ptk ⟨i,bs l,if 2147483647<digV l then 6 else 0⟩=ptD (if 2147483647<digV l then 6 else 4) (bs l) i (min (digV l) 2147483648:Nat) (if 2147483647<digV l then 6 else 0):=by
   unfold ptk kindT qfV valT
   by_cases a:2147483647<digV l<;>simp[a,hne,s1,s2,hbl]
  rw[e]
  exact qsa s hσ hi' h1 hlet' hdig z
 have hdig':qal c=false:=by simpa using hdig
 by_cases hp:bs ((c::(byl s).drop (i+1)).take 2)∈qdh
 ·have htok:tokL 12 2 6 (c::(byl s).drop (i+1))=((c::(byl s).drop (i+1)).take 2,0):=by
   simp only[tokL,hlet',hdig',if_pos hp,Wm,if_false]
  have hsz:=qfR hp
  rw[qav,WV,Wj,WT,qat] at hsz
  have z:=qqb s hl hσ (i:=i) (by omega) h1 hlet' hdig' (p:=bs ((c::(byl s).drop (i+1)).take 2)) (by rw[qb8,hd]) hp
  rw[htok,z]
  have e:ptk ⟨i,bs ((c::(byl s).drop (i+1)).take 2),0⟩=ptD 5 (bs ((c::(byl s).drop (i+1)).take 2)) i 0 0:=by
   generalize bs ((c::(byl s).drop (i+1)).take 2)=w at hp
   simp only[qdh,Ws,WA,or_false] at hp
   rcases hp with rfl|rfl|rfl|rfl|rfl|rfl<;>rfl
  rw[e]
 ·have z:=qsb s hl hσ hi' h1 hlet' hdig' (fun h=>by rw[qb8,hd]; exact hp) (x:=bs [c]) (by rw[qb8,hd]; rfl)
  rw[z]
  have s1:=qel qaG c []
  have s2:=qel qal c []
  by_cases hs:c.toNat∈symB
  ·have htok:tokL 12 2 6 (c::(byl s).drop (i+1))=([c],0):=by simp only[tokL,hlet',hdig',if_neg hp,if_pos hs,Wm,if_false]
   rw[htok,if_pos hs]
   have e:ptk ⟨i,bs [c],0⟩=ptD 5 (bs [c]) i 0 0:=by
    unfold ptk kindT qfV valT
    simp[s1,s2,hlet',hdig',quu]
   rw[e]
  ·have htok:tokL 12 2 6 (c::(byl s).drop (i+1))=([c],12):=by simp only[tokL,hlet',hdig',if_neg hp,if_neg hs,Wm,if_false]
   rw[htok,if_neg hs]
   have e:ptk ⟨i,bs [c],12⟩=ptD 6 ⟨#[]⟩ i 0 12:=by
    unfold ptk kindT qfV valT
    simp[s2,hdig']
   rw[e]
end
section
@[simp] def qvY:Nat->PC->PC
 |n+1,.seq a b => .seq a (qvY n b)
 |0,_ => .skip
 |_,p=>p
end
section
open F
attribute [local simp] qbm qca
theorem qmi(s:ByteArray):Z tP (.call 241 [.ptr 0 0] [pO s 1 (.dat (.lit (.slice none 0 0))) 0 0 12,.map kwM])=some (.ret (.fn 249 [] [.ptr 2 0]) [pO s 1 (.dat (.lit (.slice none 0 0))) 0 0 12,.map kwM,.cells [.ptr 0 0]]):=by
 refine Z_call (pf:=F241) rfl rfl ?_
 simp[F241,Wa]
abbrev lp8:Ob := .loop ⟨[(2,.ptr 2 0),(3,.ptr 3 0),(4,.ptr 4 0),(5,.ptr 5 0),(19,.fn 249 [] [.ptr 1 0])],[20],F228a0,F228b0,0,none⟩
abbrev TT0(s:ByteArray):S:=[lp8,.cells [.ptr 6 0],qr1,.cells [.int 0],.cells [.int 0],.cells [.ptr 6 0],pO s 7 (.dat (.lit (.slice none 0 0))) 0 0 12,.map kwM]
abbrev TT1(s:ByteArray)(cs:List D)(n:Nat):S:=[lp8,.cells [.ptr 6 0],qr1,.cells [.int 0],.cells [.int 0],.cells [.ptr 6 0],pO s 7 (.gsl cs n 5 8) 0 0 12,.map kwM,.tip cs.length]
abbrev lpR:Ob := .loop ⟨[(2,.ptr 1 0),(3,.ptr 2 0),(4,.ptr 3 0),(5,.ptr 4 0),(19,.fn 249 [] [.ptr 5 0])],[20],F228a0,F228b0,0,none⟩
abbrev Q0(s:ByteArray):S:=[lpR,qr1,.cells [.int 0],.cells [.int 0],.cells [.ptr 6 0],.cells [.ptr 6 0],pO s 7 (.dat (.lit (.slice none 0 0))) 0 0 12,.map kwM]
abbrev Q1(s:ByteArray)(cs:List D)(n:Nat):S:=[lpR,qr1,.cells [.int 0],.cells [.int 0],.cells [.ptr 6 0],.cells [.ptr 6 0],pO s 7 (.gsl cs n 5 8) 0 0 12,.map kwM,.tip cs.length]
def qhV(k:Int)(t:ByteArray)(a v c:Int):List D:=[.lit (.int .i64 k),.lit (.string t),.lit (.int .i64 a),.lit (.int .i64 v),.lit (.int .i64 c)]
section
variable{s:ByteArray}{k a v c:Int}{t:ByteArray}
theorem qz9:Z tP (.round [.yld 0,ptD k t a v c] (Q0 s))=some (.ret (.bool true) (Q1 s (qhV k t a v c) 1)):=by
 have r1:qaI 1 48=true:=by simp only[qaI,decide_eq_true_eq]; omega
 rw[qjL]
 simp[qco,qiE,qiF,qjV,qjW,qeU,Lp.ended,Ex.isNormal,V.len,qbD,qjv,r1,qhV,dkey,qbX,qaO,Wa]
theorem qAa{cs:List D}{n:Nat}(hc:cs.length=n*5)(h0:0<n)(hn:n<2 ^ 30):Z tP (.round [.yld 0,ptD k t a v c] (Q1 s cs n))=some (.ret (.bool true) (Q1 s (cs++qhV k t a v c) (n+1))):=by
 have r1:qaI (n+1) 48=true:=by simp only[qaI,decide_eq_true_eq]; omega
 have hne : ¬ n=0:=by omega
 rw[qjL]
 simp[qco,qiE,qiF,qjV,qjW,qeU,Lp.ended,Ex.isNormal,V.len,qbD,qjv,r1,hc,hne,qhV,dkey,qbX,qaO,Wa]
end
abbrev tkO(k:Int)(t:ByteArray)(a v c:Int):Ob := .cells [.int k,.str t,.int a,.int v,.int c]
section
variable{s:ByteArray}{i j:Nat}{k a v c:Int}{t:ByteArray}
theorem qsm
  (zs:Z tP (.call 251 [.ptr 0 0,.int i] [pO s 1 (.dat (.lit (.slice none 0 0))) 0 0 12,.map kwM])=some (.ret (.int j) [pO s 1 (.dat (.lit (.slice none 0 0))) 0 0 12,.map kwM]))
  (zc:Z tP (.call 250 [.ptr 0 0,.int j] [pO s 1 (.dat (.lit (.slice none 0 0))) 0 0 12,.map kwM])=some (.ret (ptD k t a v c) [pO s 1 (.dat (.lit (.slice none 0 0))) 0 0 12,.map kwM]))
  (ha:IntKind.i64.wrap (a+t.size)=a+t.size) (h0:decide (k=0)=false) (h6:decide (k=6)=false) :
  Z tP (.loop 8 F249l0 [(0,.yld 0),(1,.ptr 1 0),(3,.int i)] (TT0 s))=Z tP (.loop 8 F249l0 [(0,.yld 0),(1,.ptr 1 0),(3,.int (a+t.size))] (TT1 s (qhV k t a v c) 1)):=by
 have zr:=qz9 (s:=s) (k:=k) (a:=a) (v:=v) (c:=c) (t:=t)
 simp only[pO,ptD,qhV] at zs zc zr
 conv=>lhs; rw[qab]
 simp[qaa,qft,zs,zc,zr,V.len,ha,h0,h6,qhV,qbX,qaO,Wa]
 exact qbP (by simp[Wa])
theorem qsn
  (zs:Z tP (.call 251 [.ptr 0 0,.int i] [pO s 1 (.dat (.lit (.slice none 0 0))) 0 0 12,.map kwM])=some (.ret (.int j) [pO s 1 (.dat (.lit (.slice none 0 0))) 0 0 12,.map kwM]))
  (zc:Z tP (.call 250 [.ptr 0 0,.int j] [pO s 1 (.dat (.lit (.slice none 0 0))) 0 0 12,.map kwM])=some (.ret (ptD k t a v c) [pO s 1 (.dat (.lit (.slice none 0 0))) 0 0 12,.map kwM]))
  (h:k=0\/k=6) :
  Z tP (.loop 8 F249l0 [(0,.yld 0),(1,.ptr 1 0),(3,.int i)] (TT0 s))=some (.out .ret [(0,.yld 0),(1,.ptr 1 0),(4,.ptr 8 0),(23,.bool true)] [lp8,.cells [.ptr 6 0],qr1,.cells [.int 0],.cells [.int 0],.cells [.ptr 6 0],pO s 7 (.gsl (qhV k t a v c) 1 5 9) 0 0 12,.map kwM,tkO k t a v c,.tip 5]):=by
 have zr:=qz9 (s:=s) (k:=k) (a:=a) (v:=v) (c:=c) (t:=t)
 simp only[pO,ptD,qhV] at zs zc zr
 rw[qab]
 rcases h with rfl|rfl<;>simp[qaa,qft,zs,zc,zr,V.len,qhV,qbX,qaO,Wa]
theorem qso {cs:List D} {n:Nat} (hc:cs.length=n*5) (hn0:0<n) (hn:n<2 ^ 30)
  (zs:Z tP (.call 251 [.ptr 0 0,.int i] [pO s 1 (.gsl cs n 5 2) 0 0 12,.map kwM,.tip cs.length])=some (.ret (.int j) [pO s 1 (.gsl cs n 5 2) 0 0 12,.map kwM,.tip cs.length]))
  (zc:Z tP (.call 250 [.ptr 0 0,.int j] [pO s 1 (.gsl cs n 5 2) 0 0 12,.map kwM,.tip cs.length])=some (.ret (ptD k t a v c) [pO s 1 (.gsl cs n 5 2) 0 0 12,.map kwM,.tip cs.length]))
  (ha:IntKind.i64.wrap (a+t.size)=a+t.size) (h0:decide (k=0)=false) (h6:decide (k=6)=false) :
  Z tP (.loop 8 F249l0 [(0,.yld 0),(1,.ptr 1 0),(3,.int i)] (TT1 s cs n))=Z tP (.loop 8 F249l0 [(0,.yld 0),(1,.ptr 1 0),(3,.int (a+t.size))] (TT1 s (cs++qhV k t a v c) (n+1))):=by
 have zr:=qAa (s:=s) (k:=k) (a:=a) (v:=v) (c:=c) (t:=t) hc hn0 hn
 simp only[pO,ptD,qhV] at zs zc zr
 conv=>lhs; rw[qab]
 simp[qaa,qft,zs,zc,zr,V.len,ha,h0,h6,qhV,qbX,qaO,Wa]
 exact qbP (by simp[Wa])
theorem qsp {cs:List D} {n:Nat} (hc:cs.length=n*5) (hn0:0<n) (hn:n<2 ^ 30)
  (zs:Z tP (.call 251 [.ptr 0 0,.int i] [pO s 1 (.gsl cs n 5 2) 0 0 12,.map kwM,.tip cs.length])=some (.ret (.int j) [pO s 1 (.gsl cs n 5 2) 0 0 12,.map kwM,.tip cs.length]))
  (zc:Z tP (.call 250 [.ptr 0 0,.int j] [pO s 1 (.gsl cs n 5 2) 0 0 12,.map kwM,.tip cs.length])=some (.ret (ptD k t a v c) [pO s 1 (.gsl cs n 5 2) 0 0 12,.map kwM,.tip cs.length]))
  (h:k=0\/k=6) :
  Z tP (.loop 8 F249l0 [(0,.yld 0),(1,.ptr 1 0),(3,.int i)] (TT1 s cs n))=some (.out .ret [(0,.yld 0),(1,.ptr 1 0),(4,.ptr 9 0),(23,.bool true)] (TT1 s (cs++qhV k t a v c) (n+1)++[tkO k t a v c])):=by
 have zr:=qAa (s:=s) (k:=k) (a:=a) (v:=v) (c:=c) (t:=t) hc hn0 hn
 simp only[pO,ptD,qhV] at zs zc zr
 rw[qab]
 rcases h with rfl|rfl<;>simp[qaa,qft,zs,zc,zr,V.len,qhV,qbX,qaO,Wa]
end
end
section
open F
attribute [local simp] qbm qca
abbrev ptT(t:Tk):List D:=qhV (kindT t) (qfV t) t.at_ (valT t) t.bad
def ptC:List Tk->List D
 |[]=>[]
 |t::r=>ptT t++ptC r
theorem qgW(t:Tk):(kindT t=0\/kindT t=6)↔(t.bad≠0\/t.s.size=0):=by
 have he:t.s=⟨#[]⟩↔t.s.size=0:=⟨fun h=>by rw[h]; rfl,fun h=>by
  have:=qcW t.s
  have hb:byl t.s=[]:=WH (by rw[qat]; exact h)
  rw[hb] at this
  exact this.symm⟩
 unfold kindT
 by_cases hb:t.bad=0
 ·by_cases h0:t.s=⟨#[]⟩
  ·simp[hb,h0]
   rfl
  ·have h0' : ¬ t.s.size=0:=fun h=>h0 (he.2 h)
   simp only[hb,h0,h0',ne_eq,not_true_eq_false,if_false,false_or,or_self,iff_false]
   split<;>(try split)<;>(try split)<;>omega
 ·simp[hb]
theorem qas{t:Tk}(h:t.bad=0):qfV t=t.s:=by unfold qfV; rw[h]; rfl
theorem qtf(s:ByteArray){i:Nat}(hi:i<=s.size):qh1 s (s.size-i) false i=i+qaD false ((byl s).drop i)/\i+qaD false ((byl s).drop i)<=s.size:=by
 refine⟨qir s _ false i (Wl _),?_⟩
 have:=qfQ ((byl s).drop i) false
 rw[WT,qat] at this
 omega
theorem qoE(s:ByteArray)(n:Nat){i:Nat}(hi:i<=s.size){t:Tk}(ht:tokAt 12 2 6 s (i+qaD false ((byl s).drop i))=t):qbY 12 2 6 s (n+1) i=if t.bad≠0\/t.s.size=0 then [t] else t::qbY 12 2 6 s n (t.at_+t.s.size):=by
 rw[qbY,(qtf s hi).1,ht]
theorem qt1(s:ByteArray){i:Nat}(hi:i<=s.size){t:Tk}(ht:tokAt 12 2 6 s (i+qaD false ((byl s).drop i))=t)(h : ¬ (t.bad≠0\/t.s.size=0)):i<t.at_+t.s.size/\t.at_+t.s.size<=s.size:=by
 obtain⟨_,h2⟩:=qtf s hi
 have hij:i<=i+qaD false ((byl s).drop i):=by omega
 generalize i+qaD false ((byl s).drop i)=j at ht h2 hij
 by_cases hj:j<s.size
 ·have hp:=qfn hj 12 2 6
  have ha:t.at_=j:=by rw[<- ht,qcB]
  rw[ht] at hp
  omega
 ·obtain rfl:j=s.size:=by omega
  have hd:(byl s).drop s.size=[]:=WN (by rw[qat]; exact Wl _)
  exfalso
  apply h
  rw[<- ht,qcB,hd]
  exact .inr rfl
theorem qkm (s:ByteArray) (hl:s.size<2 ^ 29) : ∀ (n i:Nat) (cs:List D) (m:Nat),s.size-i<n->i<=s.size->0<m->cs.length=m*5->m+(s.size-i)<2 ^ 30 ->
  ∃ k t a v c,Z tP (.loop 8 F249l0 [(0,.yld 0),(1,.ptr 1 0),(3,.int i)] (TT1 s cs m))=some (.out .ret [(0,.yld 0),(1,.ptr 1 0),(4,.ptr 9 0),(23,.bool true)] (TT1 s (cs++ptC (qbY 12 2 6 s n i)) (m+(qbY 12 2 6 s n i).length)++[tkO k t a v c]))
 |0,i,cs,m,h,_,_,_,_=>by omega
 |n+1,i,cs,m,hn,hi,h0,hc,hm=>by
  obtain⟨j1,j2⟩:=qtf s hi
  have zs:=qpQ s (by omega) (LxS.gr cs m cs.length 0 0 12) hi
  have zc:=qtD s (by omega) (LxS.gr cs m cs.length 0 0 12) j2
  obtain⟨t,ht⟩ : ∃ t,tokAt 12 2 6 s (i+qaD false ((byl s).drop i))=t:=⟨_,rfl⟩
  rw[qoE s n hi ht]
  rw[ht] at zc
  by_cases hend:t.bad≠0\/t.s.size=0
  ·rw[if_pos hend]
   have z:=qsp hc h0 (by omega) zs zc ((qgW t).2 hend)
   simp only[ptC,Wp,Wh]
   exact⟨_,_,_,_,_,z⟩
  ·rw[if_neg hend]
   obtain⟨q1,q2⟩:=qt1 s hi ht hend
   have hb:t.bad=0:=by simp only[not_or,ne_eq,Decidable.not_not] at hend; exact hend.1
   have hk : ¬ (kindT t=0\/kindT t=6):=fun h=>hend ((qgW t).1 h)
   simp only[not_or] at hk
   have z:=qso hc h0 (by omega) zs zc (by rw[qas hb,qae _ (by omega)]) (decide_eq_false hk.1) (decide_eq_false hk.2)
   have hT:qhV (kindT t) t.s t.at_ (valT t) t.bad=ptT t:=by show _=qhV (kindT t) (qfV t) t.at_ (valT t) t.bad; rw[qas hb]
   rw[qas hb,hT] at z
   obtain⟨k,x,a,v,c,ih⟩:=qkm s hl n (t.at_+t.s.size) (cs++ptT t) (m+1) (by omega) q2 (by omega) (by rw[Wr,hc]; simp only[qhV,Wj,Wu]; omega) (by omega)
   refine⟨k,x,a,v,c,z.trans ?_⟩
   have e1:((t.at_:Int)+t.s.size)=((t.at_+t.s.size:Nat):Int):=by omega
   rw[e1,ih]
   simp only[ptC,Wg,Wj]
   rw[show m+1+(qbY 12 2 6 s n (t.at_+t.s.size)).length=m+((qbY 12 2 6 s n (t.at_+t.s.size)).length+1) by omega]
theorem qrg(s:ByteArray)(hl:s.size<2 ^ 29):Z tP (.call 249 [.yld 0,.ptr 1 0] (TT0 s))=some (.ret (.tup []) (TT1 s (ptC (qh7 s)) (qh7 s).length)):=by
 obtain⟨j1,j2⟩:=qtf s (i:=0) (by omega)
 have zs:=qpQ s (by omega) (LxS.nil 0 0 12) (i:=0) (by omega)
 have zc:=qtD s (by omega) (LxS.nil 0 0 12) j2
 obtain⟨t,ht⟩ : ∃ t,tokAt 12 2 6 s (0+qaD false ((byl s).drop 0))=t:=⟨_,rfl⟩
 have hn:=qoE s s.size (i:=0) (by omega) ht
 rw[show qh7 s=qbY 12 2 6 s (s.size+1) 0 from rfl,hn]
 rw[ht] at zc
 by_cases hend:t.bad≠0\/t.s.size=0
 ·rw[if_pos hend]
  have z:=qsn zs zc ((qgW t).2 hend)
  simp only[Ye] at z
  refine Z_call (pf:=F249) rfl rfl ?_
  simp[F249,z,ptC,qhV,Wa]
 ·rw[if_neg hend]
  obtain⟨q1,q2⟩:=qt1 s (i:=0) (by omega) ht hend
  have hb:t.bad=0:=by simp only[not_or,ne_eq,Decidable.not_not] at hend; exact hend.1
  have hk : ¬ (kindT t=0\/kindT t=6):=fun h=>hend ((qgW t).1 h)
  simp only[not_or] at hk
  have z:=qsm zs zc (by rw[qas hb,qae _ (by omega)]) (decide_eq_false hk.1) (decide_eq_false hk.2)
  have hT:qhV (kindT t) t.s t.at_ (valT t) t.bad=ptT t:=by show _=qhV (kindT t) (qfV t) t.at_ (valT t) t.bad; rw[qas hb]
  rw[qas hb,hT] at z
  obtain⟨k,x,a,v,c,ih⟩:=qkm s hl s.size (t.at_+t.s.size) (ptT t) 1 (by omega) q2 (by omega) (by simp only[qhV,Wj,Wu]) (by omega)
  have e1:((t.at_:Int)+t.s.size)=((t.at_+t.s.size:Nat):Int):=by omega
  rw[e1,ih] at z
  simp only[Ye] at z
  have e2:ptT t++ptC (qbY 12 2 6 s s.size (t.at_+t.s.size))=ptC (t::qbY 12 2 6 s s.size (t.at_+t.s.size)):=rfl
  rw[e2] at z
  have e3:1+(qbY 12 2 6 s s.size (t.at_+t.s.size)).length=(t::qbY 12 2 6 s s.size (t.at_+t.s.size)).length:=by rw[Wj]; omega
  rw[e3] at z
  generalize t::qbY 12 2 6 s s.size (t.at_+t.s.size)=T at z ⊢
  refine Z_call (pf:=F249) rfl rfl ?_
  simp[F249,z,Wa]
end
section
open F
attribute [local simp] qbm qca dkey
abbrev PS(s:ByteArray)(T:List Tk)(i a c:Int):S:=[pO s 1 (.gsl (ptC T) T.length 5 2) i a c,.map kwM,.tip (ptC T).length]
abbrev qbt(c:Int):V := .pan (.iface 1 (.int c))
theorem qnN : ∀ (T:List Tk) (i:Nat),(ptC T).drop (i*5)=ptC (T.drop i)
 |[],i=>by simp[ptC]
 |t::T,0=>by simp
 |t::T,i+1=>by
  rw[show (i+1)*5=i*5+5 by omega]
  simp only[ptC,qhV,Wf,Wc,Yh]
  exact qnN T i
theorem qpP{T:List Tk}{i:Nat}{t:Tk}{r:List Tk}(h:T.drop i=t::r):cutCells (ptC T) (i*5) 5=some [.lit (.int .i64 (kindT t)),.lit (.string (qfV t)),.lit (.int .i64 t.at_),.lit (.int .i64 (valT t)),.lit (.int .i64 t.bad)]:=by
 unfold cutCells
 rw[qnN,h]
 simp[ptC,qhV]
section
variable{s:ByteArray}{T:List Tk}{i:Nat}{a c:Int}{t:Tk}{r:List Tk}
theorem qjO(h:T.drop i=t::r):i<T.length:=by
 have:=congrArg List.length h
 rw[WT,Wj] at this
 omega
theorem qg5{k v e c':Int}{x:ByteArray}{at_:Int}:Z tP (.call 255 [.ptr 0 0,ptD k x at_ v e,.int c'] (PS s T i a c))=some (.ret (qbt c') (PS s T i at_ c')):=by
 refine Z_call (pf:=F255) rfl rfl ?_
 simp[F255,Wa]
theorem qaC(h:T.drop i=t::r)(hb:t.bad=0):Z tP (.call 252 [.ptr 0 0] (PS s T i a c))=some (.ret (ptk t) (PS s T i a c)):=by
 have hlt:(i:Int)<T.length:=by have:=qjO h; omega
 have hc:=qpP h
 have hk : ¬ kindT t=6:=fun e=>by
  unfold kindT at e
  rw[if_neg (by simp[hb])] at e
  revert e
  split<;>(try split)<;>(try split)<;>omega
 refine Z_call (pf:=F252) rfl rfl ?_
 simp[F252,qag,hlt,hc,hk,Wa]
theorem qe2(h:T.drop i=t::r)(hb:t.bad≠0):Z tP (.call 252 [.ptr 0 0] (PS s T i a c))=some (.ret (qbt t.bad) (PS s T i t.at_ t.bad)):=by
 have hlt:(i:Int)<T.length:=by have:=qjO h; omega
 have hc:=qpP h
 have hk:kindT t=6:=by unfold kindT; rw[if_pos hb]
 have zf:=qg5 (s:=s) (T:=T) (i:=i) (a:=a) (c:=c) (k:=6) (x:=qfV t) (at_:=t.at_) (v:=valT t) (e:=t.bad) (c':=t.bad)
 rw[hk] at hc
 simp only[PS,pO,ptD] at zf
 refine Z_call (pf:=F252) rfl rfl ?_
 simp[F252,qag,hlt,hc,hk,zf,qaf,Wa]
end
end
section
open F
attribute [local simp] qbm qca dkey
def Out{α : Type}(s:ByteArray)(T:List Tk)(res:Option Res)(x:Rz α)(f : α -> V):Prop:=match x with
 |.ok e r => ∃ i',T.drop i'=r/\r≠[]/\res=some (.ret (f e) (PS s T i' 0 12))
 |.er a c => ∃ i':Nat,res=some (.ret (qbt c) (PS s T i' a c))
def WfQ(T:List Tk):Prop := ∀ i t,T.drop i=[t]->t.bad≠0\/t.s=⟨#[]⟩
theorem qrf(s:ByteArray) : ∀ n i,WfQ (qbY 12 2 6 s n i)
 |0,i,k,t,h=>by
  simp only[qbY] at h
  rcases k with _|k
  ·simp only[WJ,Ww,and_true] at h
   rw[<- h]; exact .inr rfl
  ·simp at h
 |n+1,i,k,t,h=>by
  rw[qbY] at h
  try simp only at h
  generalize tokAt 12 2 6 s (qh1 s (s.size-i) false i)=u at h
  split at h
  ·rename_i hu
   rcases k with _|k
   ·simp only[WJ,Ww,and_true] at h
    rw[<- h]
    rcases hu with hu|hu
    ·exact .inl hu
    ·exact .inr (by
      have hb:byl u.s=[]:=WH (by rw[qat]; exact hu)
      have:=qcW u.s
      rw[hb] at this
      exact this.symm)
   ·simp at h
  ·rcases k with _|k
   ·simp only[WJ,Ww] at h
    have hne:qbY 12 2 6 s n (u.at_+u.s.size)≠[]:=by
     cases n<;>simp only[qbY]
     ·simp
     ·split<;>simp
    exact absurd h.2 hne
   ·rw[Yh] at h
    exact qrf s n _ k t h
section
variable{s:ByteArray}{T:List Tk}{i:Nat}{a c:Int}{t:Tk}{r:List Tk}
theorem WfQ.next(hw:WfQ T)(h:T.drop i=t::r)(hb:t.bad=0)(hs:t.s≠⟨#[]⟩):T.drop (i+1)=r/\r≠[]:=by
 refine⟨by rw[<- List.drop_drop,h]; rfl,?_⟩
 rintro rfl
 rcases hw i t h with h1|h1
 ·exact h1 hb
 ·exact hs h1
theorem qew(hb:t.bad=0):(kindT t=0)=(t.s=⟨#[]⟩):=by
 have:=qgW t
 apply propext
 constructor
 ·intro h
  rcases this.1 (.inl h) with h1|h1
  ·exact absurd hb h1
  ·have hbl:byl t.s=[]:=WH (by rw[qat]; exact h1)
   have:=qcW t.s
   rw[hbl] at this
   exact this.symm
 ·intro h
  unfold kindT
  rw[if_neg (by simp[hb]),if_pos h]
theorem qaW(h:T.drop i=t::r)(hb:t.bad=0){d:D}{l:List ByteArray}(hd:RowS d l)(hl:l.length<2 ^ 40)(hn:(⟨#[]⟩:ByteArray)∉l):Z tP (.call 269 [.ptr 0 0,.dat d] (PS s T i a c))=some (.ret (.bool (decide (t.s∈l))) (PS s T i a c)):=by
 have zp:=qaC (s:=s) (a:=a) (c:=c) h hb
 have zc:=qo8 hd hl t.s
 have ho:=hd.one
 have hcl:=hd.cells
 have ht:=qas hb
 have hk:=qew hb
 simp only[PS,pO,ptk,ptD,ht] at zp
 refine Z_call (pf:=F269) rfl rfl ?_
 by_cases h0:t.s=⟨#[]⟩
 ·have hk0:decide (kindT t=0)=true:=decide_eq_true (hk.mpr h0)
  have hm:t.s∉l:=by rw[h0]; exact hn
  simp[F269,zp,zc,ho,hcl,hk0,hm,Wa]
 ·have hk0:decide (kindT t=0)=false:=decide_eq_false (fun e=>h0 (hk.mp e))
  simp[F269,zp,zc,ho,hcl,hk0,Wa]
theorem qgi(h:T.drop i=t::r)(hb:t.bad≠0){d:D}{l:List ByteArray}(hd:RowS d l):Z tP (.call 269 [.ptr 0 0,.dat d] (PS s T i a c))=some (.ret (qbt t.bad) (PS s T i t.at_ t.bad)):=by
 have zp:=qe2 (s:=s) (a:=a) (c:=c) h hb
 have ho:=hd.one
 have hcl:=hd.cells
 simp only[PS,pO] at zp
 refine Z_call (pf:=F269) rfl rfl ?_
 simp[F269,zp,ho,hcl,qaf,Wa]
theorem qaU(h:T.drop i=t::r)(hb:t.bad=0)(hl:T.length<2 ^ 40):Z tP (.call 277 [.ptr 0 0] (PS s T i a c))=some (.ret (ptk t) (PS s T ((i+1:Nat):Int) a c)):=by
 have zp:=qaC (s:=s) (a:=a) (c:=c) h hb
 have hlt:=qjO h
 have w1:=qae ((i:Int)+1) (by omega)
 simp only[PS,pO,ptk,ptD] at zp
 refine Z_call (pf:=F277) rfl rfl ?_
 simp[F277,zp,w1,Wa]
theorem qhv(h:T.drop i=t::r)(hb:t.bad=0)(hl:T.length<2 ^ 40)(hx:t.s≠⟨#[]⟩):Z tP (.call 253 [.ptr 0 0,.str t.s] (PS s T i a c))=some (.ret (.tup []) (PS s T ((i+1:Nat):Int) a c)):=by
 have zi:=qaW (s:=s) (a:=a) (c:=c) h hb (qai [t.s] true) (by simp) (by simp; exact fun e=>hx e.symm)
 have hlt:=qjO h
 have w1:=qae ((i:Int)+1) (by omega)
 simp only[PS,pO,strC,Wo,Wq,Wh,Wk,decide_true] at zi
 refine Z_call (pf:=F253) rfl rfl ?_
 simp[F253,zi,w1,Wa]
theorem qpo(h:T.drop i=t::r)(hb:t.bad=0){x:ByteArray}(hx:x≠⟨#[]⟩)(hne:t.s≠x):Z tP (.call 253 [.ptr 0 0,.str x] (PS s T i a c))=some (.ret (qbt 12) (PS s T i t.at_ 12)):=by
 have zi:=qaW (s:=s) (a:=a) (c:=c) h hb (qai [x] true) (by simp) (by simp; exact fun e=>hx e.symm)
 have zp:=qaC (s:=s) (a:=a) (c:=c) h hb
 have zf:=qg5 (s:=s) (T:=T) (i:=i) (a:=a) (c:=c) (k:=kindT t) (x:=qfV t) (at_:=t.at_) (v:=valT t) (e:=t.bad) (c':=12)
 simp only[PS,pO,strC,Wo,Wq,Wh,Wk,hne,decide_false] at zi
 simp only[PS,pO,ptk,ptD] at zp zf
 refine Z_call (pf:=F253) rfl rfl ?_
 simp[F253,zi,zp,zf,qaf,Wa]
theorem qnu(h:T.drop i=t::r)(hb:t.bad≠0){x:ByteArray}:Z tP (.call 253 [.ptr 0 0,.str x] (PS s T i a c))=some (.ret (qbt t.bad) (PS s T i t.at_ t.bad)):=by
 have zi:=qgi (s:=s) (a:=a) (c:=c) h hb (qai [x] true)
 simp only[PS,pO,strC,Wo,Wq,Wh] at zi
 refine Z_call (pf:=F253) rfl rfl ?_
 simp[F253,zi,qaf,Wa]
end
end
section
open F
attribute [local simp] qbm qca dkey
section
variable{s:ByteArray}{T:List Tk}{i:Nat}{t:Tk}{r:List Tk}
theorem qcH(hw:WfQ T)(hl:T.length<2 ^ 40)(h:T.drop i=t::r){x:ByteArray}(hx:x≠⟨#[]⟩):Out s T (Z tP (.call 253 [.ptr 0 0,.str x] (PS s T i 0 12))) (qam 12 x (t::r)) (fun _ => .tup []):=by
 simp only[qam]
 by_cases hb:t.bad=0
 ·by_cases he:t.s=x
  ·rw[if_pos ⟨hb,he⟩]
   subst he
   obtain⟨n1,n2⟩:=hw.next h hb hx
   exact⟨i+1,n1,n2,qhv h hb hl hx⟩
  ·rw[if_neg (fun e=>he e.2)]
   simp only[failP,if_pos hb]
   exact⟨i,qpo h hb hx he⟩
 ·rw[if_neg (fun e=>hb e.1)]
  simp only[failP,if_neg hb]
  exact⟨i,qnu h hb⟩
theorem qif(hw:WfQ T)(hl:T.length<2 ^ 40)(h:T.drop i=t::r){x:ByteArray}(hx:x≠⟨#[]⟩){lv:Nat}:Out s T (Z tP (.call 270 [.ptr 0 0,.str x,.int lv] (PS s T i 0 12))) (qbO 12 2 x lv (t::r)) (fun _ => .tup []):=by
 have he:=qcH (s:=s) hw hl h hx
 simp only[qbO]
 by_cases hb:t.bad=0
 ·have zi:=qaW (s:=s) (a:=0) (c:=12) h hb (qai [x] true) (by simp) (by simp; exact fun e=>hx e.symm)
  simp only[PS,pO,strC,Wo,Wq,Wh,Wk] at zi
  have hnx:nx (t::r)=some t.s:=if_pos hb
  by_cases hxx:t.s=x
  ·by_cases h20:20<lv
   ·rw[if_pos ⟨by rw[hnx,hxx],h20⟩]
    simp only[failP,if_pos hb]
    have zp:=qaC (s:=s) (a:=0) (c:=12) h hb
    have zf:=qg5 (s:=s) (T:=T) (i:=i) (a:=0) (c:=12) (k:=kindT t) (x:=qfV t) (at_:=t.at_) (v:=valT t) (e:=t.bad) (c':=2)
    simp only[PS,pO,ptk,ptD] at zp zf
    have h20':(20:Int)<lv:=by omega
    simp only[hxx,decide_true] at zi
    refine⟨i,?_⟩
    refine Z_call (pf:=F270) rfl rfl ?_
    simp[F270,zi,zp,zf,h20',qaf,Wa]
   ·rw[if_neg (fun e=>h20 e.2)]
    have h20' : ¬ (20:Int)<lv:=by omega
    simp only[hxx,decide_true] at zi
    cases hr:qam 12 x (t::r) with
    |ok u q=>
     rw[hr] at he
     obtain⟨i',a1,a2,z⟩:=he
     refine⟨i',a1,a2,?_⟩
     simp only[PS,pO] at z
     refine Z_call (pf:=F270) rfl rfl ?_
     simp[F270,zi,z,h20',Wa]
    |er a c=>
     rw[hr] at he
     obtain⟨i',z⟩:=he
     refine⟨i',?_⟩
     simp only[PS,pO] at z
     refine Z_call (pf:=F270) rfl rfl ?_
     simp[F270,zi,z,h20',qaf,Wa]
  ·rw[if_neg (fun e=>hxx (WC (hnx.symm.trans e.1)))]
   simp only[hxx,decide_false] at zi
   cases hr:qam 12 x (t::r) with
   |ok u q=>
    rw[hr] at he
    obtain⟨i',a1,a2,z⟩:=he
    refine⟨i',a1,a2,?_⟩
    simp only[PS,pO] at z
    refine Z_call (pf:=F270) rfl rfl ?_
    simp[F270,zi,z,Wa]
   |er a c=>
    rw[hr] at he
    obtain⟨i',z⟩:=he
    refine⟨i',?_⟩
    simp only[PS,pO] at z
    refine Z_call (pf:=F270) rfl rfl ?_
    simp[F270,zi,z,qaf,Wa]
 ·have hnx:nx (t::r)=none:=if_neg hb
  rw[if_neg (fun e=>(by rw[hnx] at e; cases e.1))]
  have zi:=qgi (s:=s) (a:=0) (c:=12) h hb (qai [x] true)
  simp only[PS,pO,strC,Wo,Wq,Wh] at zi
  simp only[qam]
  rw[if_neg (fun e=>hb e.1)]
  simp only[failP,if_neg hb]
  refine⟨i,?_⟩
  refine Z_call (pf:=F270) rfl rfl ?_
  simp[F270,zi,qaf,Wa]
end
end
end Go.Pm
