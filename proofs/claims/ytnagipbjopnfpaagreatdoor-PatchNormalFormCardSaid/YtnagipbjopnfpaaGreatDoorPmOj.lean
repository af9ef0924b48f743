/- Chapter 13's printer: Print, whole. -/
import Derived.Test.YtnagipbjopnfpaaGreatDoorPmAL
import Derived.Test.YtnagipbjopnfpaaGreatDoorPmJc
import Derived.Test.YtnagipbjopnfpaaGreatDoorPmTi
import Derived.Test.YtnagipbjopnfpaaGreatDoorPmDj
import Derived.Test.YtnagipbjopnfpaaGreatDoorPmYf
import Derived.Test.YtnagipbjopnfpaaGreatDoorPmR1
set_option linter.unusedSimpArgs false
set_option linter.unusedVariables false
set_option maxHeartbeats 4000000
namespace Go.Pm
section
open F
attribute [local simp] qfW qiQ
theorem qex{w:List UInt8}(h:w≠[])(hl:w.length<2 ^ 40):Z tQ (.call 245 [.ptr 0 0] (PW w))=some (.ret (.str (bs w)) [.cellsT 4 [.ptr 0 0,.own 1 w.length 1,.dat (.lit (.int .u8 (lastC w).toNat))],.dead]):=by
 have h0:0<w.length:=by cases w with|nil=>exact absurd rfl h|cons=>simp
 have hv:=qjM w
 have hb:=qjN w
 have hle:w.length<=1099511627776:=by omega
 refine qac (pf:=F245) rfl rfl ?_
 simp[F245,h0,hv,hb,hle,bs,V.len,Wa]
theorem qqX:Z tQ (.call 245 [.ptr 0 0] PE)=some (.ret (.str ⟨#[]⟩) PE):=by
 refine qac (pf:=F245) rfl rfl ?_
 simp[F245,V.len,Wa]
theorem qfY{t u:ByteArray}{w':List UInt8}(hw:w'=pw [] [t,u])(ht:t.size≠0)(hu:u.size≠0)(h:w'.length<2 ^ 40):Z tQ (.call 243 [.ptr 0 0,.dat (.sl [.lit (.string t),.lit (.string u)] 2 true)] PE)=some (.ret (.tup []) (PW w')):=by
 subst hw
 exact qzm true (t:=t) (ts:=[u]) ht (fun x hx=>by rw[Wm.1 hx]; exact hu) (by simp) h
theorem qwL:Z tQ (.call 231 [.dat (.agg [.lit (.int .i64 0),.lit (.int .i64 0),.lit (.string ⟨#[]⟩),.lit (.slice none 0 0),.lit (.int .i64 0),.lit (.int .i64 0),.lit (.string ⟨#[]⟩),.lit (.slice none 0 0),.lit (.int .i64 0),.lit (.int .i64 0),.lit (.string ⟨#[]⟩),.lit (.slice none 0 0)])] [])=some (.ret (.str ⟨#[]⟩) []):=by
 have z1:=qqX
 simp only[PE] at z1
 refine qac (pf:=F231) rfl rfl ?_
 simp[F231,z1,qaa,qab,qcl,Wa,show IntKind.i64.wrap 1=1 from rfl,show IntKind.i64.wrap 2=2 from rfl,show IntKind.i64.wrap 3=3 from rfl]
theorem qwM{f0:Bool}{b0:Ss}(h0:qkY b0){w:List UInt8}(hw:w=pw [] ([⟨#[111,110]⟩,⟨#[97,99,116]⟩]++((⟨#[123]⟩::(b0.tx++[⟨#[125]⟩])))))(hsz:w.length<2 ^ 40):Z tQ (.call 231 [.dat (.agg [.lit (.int .i64 7),.lit (.int .i64 0),.lit (.string ⟨#[]⟩),kd f0 b0.fo.len b0.fo.cells,.lit (.int .i64 0),.lit (.int .i64 0),.lit (.string ⟨#[]⟩),.lit (.slice none 0 0),.lit (.int .i64 0),.lit (.int .i64 0),.lit (.string ⟨#[]⟩),.lit (.slice none 0 0)])] [])=some (.ret (.str (bs w)) []):=by
 obtain⟨w1,e1⟩ : ∃ v,v=pw [] [⟨#[111,110]⟩,⟨#[97,99,116]⟩]:=⟨_,rfl⟩
 have e2:w=pw w1 (⟨#[123]⟩::(b0.tx++[⟨#[125]⟩])):=by rw[hw,qav,<- e1]
 have s2:=hsz
 have s1:=qam e2 s2
 have z1:=qfY e1 (by decide) (by decide) s1
 have z2:=h0 7 0 ⟨#[]⟩ f0 w1 w e2 s2
 have hne:w≠[]:=by
  rw[e2]
  apply qe0
  rw[e1,qdZ]
  simp[qap]
 have zs:=qex hne hsz
 simp only[PW,PW',PE] at z1 z2 zs
 clear e1 e2 s1 s2 hw hsz
 refine qac (pf:=F231) rfl rfl ?_
 simp[F231,z1,z2,zs,qaa,qab,qcl,Wa,show IntKind.i64.wrap 1=1 from rfl,show IntKind.i64.wrap 2=2 from rfl,show IntKind.i64.wrap 3=3 from rfl]
theorem qwN{f1:Bool}{b1:Ss}(h1:qkY b1){w:List UInt8}(hw:w=pw [] ([⟨#[111,110]⟩,⟨#[116,105,99,107]⟩]++((⟨#[123]⟩::(b1.tx++[⟨#[125]⟩])))))(hsz:w.length<2 ^ 40):Z tQ (.call 231 [.dat (.agg [.lit (.int .i64 0),.lit (.int .i64 0),.lit (.string ⟨#[]⟩),.lit (.slice none 0 0),.lit (.int .i64 7),.lit (.int .i64 0),.lit (.string ⟨#[]⟩),kd f1 b1.fo.len b1.fo.cells,.lit (.int .i64 0),.lit (.int .i64 0),.lit (.string ⟨#[]⟩),.lit (.slice none 0 0)])] [])=some (.ret (.str (bs w)) []):=by
 obtain⟨w1,e1⟩ : ∃ v,v=pw [] [⟨#[111,110]⟩,⟨#[116,105,99,107]⟩]:=⟨_,rfl⟩
 have e2:w=pw w1 (⟨#[123]⟩::(b1.tx++[⟨#[125]⟩])):=by rw[hw,qav,<- e1]
 have s2:=hsz
 have s1:=qam e2 s2
 have z1:=qfY e1 (by decide) (by decide) s1
 have z2:=h1 7 0 ⟨#[]⟩ f1 w1 w e2 s2
 have hne:w≠[]:=by
  rw[e2]
  apply qe0
  rw[e1,qdZ]
  simp[qap]
 have zs:=qex hne hsz
 simp only[PW,PW',PE] at z1 z2 zs
 clear e1 e2 s1 s2 hw hsz
 refine qac (pf:=F231) rfl rfl ?_
 simp[F231,z1,z2,zs,qaa,qab,qcl,Wa,show IntKind.i64.wrap 1=1 from rfl,show IntKind.i64.wrap 2=2 from rfl,show IntKind.i64.wrap 3=3 from rfl]
theorem qwO{f0:Bool}{b0:Ss}(h0:qkY b0){f1:Bool}{b1:Ss}(h1:qkY b1){w:List UInt8}(hw:w=pw [] ([⟨#[111,110]⟩,⟨#[97,99,116]⟩]++((⟨#[123]⟩::(b0.tx++[⟨#[125]⟩]))++([⟨#[111,110]⟩,⟨#[116,105,99,107]⟩]++((⟨#[123]⟩::(b1.tx++[⟨#[125]⟩])))))))(hsz:w.length<2 ^ 40):Z tQ (.call 231 [.dat (.agg [.lit (.int .i64 7),.lit (.int .i64 0),.lit (.string ⟨#[]⟩),kd f0 b0.fo.len b0.fo.cells,.lit (.int .i64 7),.lit (.int .i64 0),.lit (.string ⟨#[]⟩),kd f1 b1.fo.len b1.fo.cells,.lit (.int .i64 0),.lit (.int .i64 0),.lit (.string ⟨#[]⟩),.lit (.slice none 0 0)])] [])=some (.ret (.str (bs w)) []):=by
 obtain⟨w1,e1⟩ : ∃ v,v=pw [] [⟨#[111,110]⟩,⟨#[97,99,116]⟩]:=⟨_,rfl⟩
 obtain⟨w2,e2⟩ : ∃ v,v=pw w1 (⟨#[123]⟩::(b0.tx++[⟨#[125]⟩])):=⟨_,rfl⟩
 obtain⟨w3,e3⟩ : ∃ v,v=pw w2 [⟨#[111,110]⟩,⟨#[116,105,99,107]⟩]:=⟨_,rfl⟩
 have e4:w=pw w3 (⟨#[123]⟩::(b1.tx++[⟨#[125]⟩])):=by rw[hw,qav,<- e1,qav,<- e2,qav,<- e3]
 have s4:=hsz
 have s3:=qam e4 s4
 have s2:=qam e3 s3
 have s1:=qam e2 s2
 have z1:=qfY e1 (by decide) (by decide) s1
 have z2:=h0 7 0 ⟨#[]⟩ f0 w1 w2 e2 s2
 have z3:=qfJ e3 (by decide) (by decide) s3
 have z4:=h1 7 0 ⟨#[]⟩ f1 w3 w e4 s4
 have hne:w≠[]:=by
  rw[e4]
  apply qe0
  rw[e3]
  apply qe0
  rw[e2]
  apply qe0
  rw[e1,qdZ]
  simp[qap]
 have zs:=qex hne hsz
 simp only[PW,PW',PE] at z1 z2 z3 z4 zs
 clear e1 e2 e3 e4 s1 s2 s3 s4 hw hsz
 refine qac (pf:=F231) rfl rfl ?_
 simp[F231,z1,z2,z3,z4,zs,qaa,qab,qcl,Wa,show IntKind.i64.wrap 1=1 from rfl,show IntKind.i64.wrap 2=2 from rfl,show IntKind.i64.wrap 3=3 from rfl]
theorem qwP{f2:Bool}{b2:Ss}(h2:qkY b2){w:List UInt8}(hw:w=pw [] ([⟨#[111,110]⟩,⟨#[104,105,116]⟩]++((⟨#[123]⟩::(b2.tx++[⟨#[125]⟩])))))(hsz:w.length<2 ^ 40):Z tQ (.call 231 [.dat (.agg [.lit (.int .i64 0),.lit (.int .i64 0),.lit (.string ⟨#[]⟩),.lit (.slice none 0 0),.lit (.int .i64 0),.lit (.int .i64 0),.lit (.string ⟨#[]⟩),.lit (.slice none 0 0),.lit (.int .i64 7),.lit (.int .i64 0),.lit (.string ⟨#[]⟩),kd f2 b2.fo.len b2.fo.cells])] [])=some (.ret (.str (bs w)) []):=by
 obtain⟨w1,e1⟩ : ∃ v,v=pw [] [⟨#[111,110]⟩,⟨#[104,105,116]⟩]:=⟨_,rfl⟩
 have e2:w=pw w1 (⟨#[123]⟩::(b2.tx++[⟨#[125]⟩])):=by rw[hw,qav,<- e1]
 have s2:=hsz
 have s1:=qam e2 s2
 have z1:=qfY e1 (by decide) (by decide) s1
 have z2:=h2 7 0 ⟨#[]⟩ f2 w1 w e2 s2
 have hne:w≠[]:=by
  rw[e2]
  apply qe0
  rw[e1,qdZ]
  simp[qap]
 have zs:=qex hne hsz
 simp only[PW,PW',PE] at z1 z2 zs
 clear e1 e2 s1 s2 hw hsz
 refine qac (pf:=F231) rfl rfl ?_
 simp[F231,z1,z2,zs,qaa,qab,qcl,Wa,show IntKind.i64.wrap 1=1 from rfl,show IntKind.i64.wrap 2=2 from rfl,show IntKind.i64.wrap 3=3 from rfl]
theorem qwQ{f0:Bool}{b0:Ss}(h0:qkY b0){f2:Bool}{b2:Ss}(h2:qkY b2){w:List UInt8}(hw:w=pw [] ([⟨#[111,110]⟩,⟨#[97,99,116]⟩]++((⟨#[123]⟩::(b0.tx++[⟨#[125]⟩]))++([⟨#[111,110]⟩,⟨#[104,105,116]⟩]++((⟨#[123]⟩::(b2.tx++[⟨#[125]⟩])))))))(hsz:w.length<2 ^ 40):Z tQ (.call 231 [.dat (.agg [.lit (.int .i64 7),.lit (.int .i64 0),.lit (.string ⟨#[]⟩),kd f0 b0.fo.len b0.fo.cells,.lit (.int .i64 0),.lit (.int .i64 0),.lit (.string ⟨#[]⟩),.lit (.slice none 0 0),.lit (.int .i64 7),.lit (.int .i64 0),.lit (.string ⟨#[]⟩),kd f2 b2.fo.len b2.fo.cells])] [])=some (.ret (.str (bs w)) []):=by
 obtain⟨w1,e1⟩ : ∃ v,v=pw [] [⟨#[111,110]⟩,⟨#[97,99,116]⟩]:=⟨_,rfl⟩
 obtain⟨w2,e2⟩ : ∃ v,v=pw w1 (⟨#[123]⟩::(b0.tx++[⟨#[125]⟩])):=⟨_,rfl⟩
 obtain⟨w3,e3⟩ : ∃ v,v=pw w2 [⟨#[111,110]⟩,⟨#[104,105,116]⟩]:=⟨_,rfl⟩
 have e4:w=pw w3 (⟨#[123]⟩::(b2.tx++[⟨#[125]⟩])):=by rw[hw,qav,<- e1,qav,<- e2,qav,<- e3]
 have s4:=hsz
 have s3:=qam e4 s4
 have s2:=qam e3 s3
 have s1:=qam e2 s2
 have z1:=qfY e1 (by decide) (by decide) s1
 have z2:=h0 7 0 ⟨#[]⟩ f0 w1 w2 e2 s2
 have z3:=qfJ e3 (by decide) (by decide) s3
 have z4:=h2 7 0 ⟨#[]⟩ f2 w3 w e4 s4
 have hne:w≠[]:=by
  rw[e4]
  apply qe0
  rw[e3]
  apply qe0
  rw[e2]
  apply qe0
  rw[e1,qdZ]
  simp[qap]
 have zs:=qex hne hsz
 simp only[PW,PW',PE] at z1 z2 z3 z4 zs
 clear e1 e2 e3 e4 s1 s2 s3 s4 hw hsz
 refine qac (pf:=F231) rfl rfl ?_
 simp[F231,z1,z2,z3,z4,zs,qaa,qab,qcl,Wa,show IntKind.i64.wrap 1=1 from rfl,show IntKind.i64.wrap 2=2 from rfl,show IntKind.i64.wrap 3=3 from rfl]
theorem qwR{f1:Bool}{b1:Ss}(h1:qkY b1){f2:Bool}{b2:Ss}(h2:qkY b2){w:List UInt8}(hw:w=pw [] ([⟨#[111,110]⟩,⟨#[116,105,99,107]⟩]++((⟨#[123]⟩::(b1.tx++[⟨#[125]⟩]))++([⟨#[111,110]⟩,⟨#[104,105,116]⟩]++((⟨#[123]⟩::(b2.tx++[⟨#[125]⟩])))))))(hsz:w.length<2 ^ 40):Z tQ (.call 231 [.dat (.agg [.lit (.int .i64 0),.lit (.int .i64 0),.lit (.string ⟨#[]⟩),.lit (.slice none 0 0),.lit (.int .i64 7),.lit (.int .i64 0),.lit (.string ⟨#[]⟩),kd f1 b1.fo.len b1.fo.cells,.lit (.int .i64 7),.lit (.int .i64 0),.lit (.string ⟨#[]⟩),kd f2 b2.fo.len b2.fo.cells])] [])=some (.ret (.str (bs w)) []):=by
 obtain⟨w1,e1⟩ : ∃ v,v=pw [] [⟨#[111,110]⟩,⟨#[116,105,99,107]⟩]:=⟨_,rfl⟩
 obtain⟨w2,e2⟩ : ∃ v,v=pw w1 (⟨#[123]⟩::(b1.tx++[⟨#[125]⟩])):=⟨_,rfl⟩
 obtain⟨w3,e3⟩ : ∃ v,v=pw w2 [⟨#[111,110]⟩,⟨#[104,105,116]⟩]:=⟨_,rfl⟩
 have e4:w=pw w3 (⟨#[123]⟩::(b2.tx++[⟨#[125]⟩])):=by rw[hw,qav,<- e1,qav,<- e2,qav,<- e3]
 have s4:=hsz
 have s3:=qam e4 s4
 have s2:=qam e3 s3
 have s1:=qam e2 s2
 have z1:=qfY e1 (by decide) (by decide) s1
 have z2:=h1 7 0 ⟨#[]⟩ f1 w1 w2 e2 s2
 have z3:=qfJ e3 (by decide) (by decide) s3
 have z4:=h2 7 0 ⟨#[]⟩ f2 w3 w e4 s4
 have hne:w≠[]:=by
  rw[e4]
  apply qe0
  rw[e3]
  apply qe0
  rw[e2]
  apply qe0
  rw[e1,qdZ]
  simp[qap]
 have zs:=qex hne hsz
 simp only[PW,PW',PE] at z1 z2 z3 z4 zs
 clear e1 e2 e3 e4 s1 s2 s3 s4 hw hsz
 refine qac (pf:=F231) rfl rfl ?_
 simp[F231,z1,z2,z3,z4,zs,qaa,qab,qcl,Wa,show IntKind.i64.wrap 1=1 from rfl,show IntKind.i64.wrap 2=2 from rfl,show IntKind.i64.wrap 3=3 from rfl]
theorem qwS{f0:Bool}{b0:Ss}(h0:qkY b0){f1:Bool}{b1:Ss}(h1:qkY b1){f2:Bool}{b2:Ss}(h2:qkY b2){w:List UInt8}(hw:w=pw [] ([⟨#[111,110]⟩,⟨#[97,99,116]⟩]++((⟨#[123]⟩::(b0.tx++[⟨#[125]⟩]))++([⟨#[111,110]⟩,⟨#[116,105,99,107]⟩]++((⟨#[123]⟩::(b1.tx++[⟨#[125]⟩]))++([⟨#[111,110]⟩,⟨#[104,105,116]⟩]++((⟨#[123]⟩::(b2.tx++[⟨#[125]⟩])))))))))(hsz:w.length<2 ^ 40):Z tQ (.call 231 [.dat (.agg [.lit (.int .i64 7),.lit (.int .i64 0),.lit (.string ⟨#[]⟩),kd f0 b0.fo.len b0.fo.cells,.lit (.int .i64 7),.lit (.int .i64 0),.lit (.string ⟨#[]⟩),kd f1 b1.fo.len b1.fo.cells,.lit (.int .i64 7),.lit (.int .i64 0),.lit (.string ⟨#[]⟩),kd f2 b2.fo.len b2.fo.cells])] [])=some (.ret (.str (bs w)) []):=by
 obtain⟨w1,e1⟩ : ∃ v,v=pw [] [⟨#[111,110]⟩,⟨#[97,99,116]⟩]:=⟨_,rfl⟩
 obtain⟨w2,e2⟩ : ∃ v,v=pw w1 (⟨#[123]⟩::(b0.tx++[⟨#[125]⟩])):=⟨_,rfl⟩
 obtain⟨w3,e3⟩ : ∃ v,v=pw w2 [⟨#[111,110]⟩,⟨#[116,105,99,107]⟩]:=⟨_,rfl⟩
 obtain⟨w4,e4⟩ : ∃ v,v=pw w3 (⟨#[123]⟩::(b1.tx++[⟨#[125]⟩])):=⟨_,rfl⟩
 obtain⟨w5,e5⟩ : ∃ v,v=pw w4 [⟨#[111,110]⟩,⟨#[104,105,116]⟩]:=⟨_,rfl⟩
 have e6:w=pw w5 (⟨#[123]⟩::(b2.tx++[⟨#[125]⟩])):=by rw[hw,qav,<- e1,qav,<- e2,qav,<- e3,qav,<- e4,qav,<- e5]
 have s6:=hsz
 have s5:=qam e6 s6
 have s4:=qam e5 s5
 have s3:=qam e4 s4
 have s2:=qam e3 s3
 have s1:=qam e2 s2
 have z1:=qfY e1 (by decide) (by decide) s1
 have z2:=h0 7 0 ⟨#[]⟩ f0 w1 w2 e2 s2
 have z3:=qfJ e3 (by decide) (by decide) s3
 have z4:=h1 7 0 ⟨#[]⟩ f1 w3 w4 e4 s4
 have z5:=qfJ e5 (by decide) (by decide) s5
 have z6:=h2 7 0 ⟨#[]⟩ f2 w5 w e6 s6
 have hne:w≠[]:=by
  rw[e6]
  apply qe0
  rw[e5]
  apply qe0
  rw[e4]
  apply qe0
  rw[e3]
  apply qe0
  rw[e2]
  apply qe0
  rw[e1,qdZ]
  simp[qap]
 have zs:=qex hne hsz
 simp only[PW,PW',PE] at z1 z2 z3 z4 z5 z6 zs
 clear e1 e2 e3 e4 e5 e6 s1 s2 s3 s4 s5 s6 hw hsz
 refine qac (pf:=F231) rfl rfl ?_
 simp[F231,z1,z2,z3,z4,z5,z6,zs,qaa,qab,qcl,Wa,show IntKind.i64.wrap 1=1 from rfl,show IntKind.i64.wrap 2=2 from rfl,show IntKind.i64.wrap 3=3 from rfl]
theorem qwT {a b c:Hd} (hg : ∀ k,qdC (Hd.opts a b c k)) (hsz:(qap false (qaY (Hd.opts a b c))).length<2 ^ 40) :
  Z tQ (.call 231 [.dat (ru a.nd b.nd c.nd)] [])=some (.ret (.str (bs (qap false (qaY (Hd.opts a b c))))) []):=by
 have hb : ∀ {s:Ss} (k:Nat),Hd.opts a b c k=some s->qkY s:=fun k h=>qnl ((hg k) _ h).1 ((qyx _).1 ((hg k) _ h).1)
 rw[<- qdZ] at hsz ⊢
 cases a<;>cases b<;>cases c
 ·exact qwL
 ·refine qwP (hb 2 rfl) ?_ hsz
  simp only[qaY,qfC,Hd.opts,Hd.opt,qcW,onS,qiR,qi3,Wc,Wl,Wg,Wf]
  rfl
 ·refine qwN (hb 1 rfl) ?_ hsz
  simp only[qaY,qfC,Hd.opts,Hd.opt,qcW,onS,qiR,qi3,Wc,Wl,Wg,Wf]
  rfl
 ·refine qwR (hb 1 rfl) (hb 2 rfl) ?_ hsz
  simp only[qaY,qfC,Hd.opts,Hd.opt,qcW,onS,qiR,qi3,Wc,Wl,Wg,Wf]
  rfl
 ·refine qwM (hb 0 rfl) ?_ hsz
  simp only[qaY,qfC,Hd.opts,Hd.opt,qcW,onS,qiR,qi3,Wc,Wl,Wg,Wf]
  rfl
 ·refine qwQ (hb 0 rfl) (hb 2 rfl) ?_ hsz
  simp only[qaY,qfC,Hd.opts,Hd.opt,qcW,onS,qiR,qi3,Wc,Wl,Wg,Wf]
  rfl
 ·refine qwO (hb 0 rfl) (hb 1 rfl) ?_ hsz
  simp only[qaY,qfC,Hd.opts,Hd.opt,qcW,onS,qiR,qi3,Wc,Wl,Wg,Wf]
  rfl
 ·refine qwS (hb 0 rfl) (hb 1 rfl) (hb 2 rfl) ?_ hsz
  simp only[qaY,qfC,Hd.opts,Hd.opt,qcW,onS,qiR,qi3,Wc,Wl,Wg,Wf]
  rfl
end
end Go.Pm
section
namespace Go.Pm.F
def tS:Nat->Option PFun
 |20=>some F20
 |152=>some F152
 |192=>some F192
 |193=>some F193
 |234=>some F234
 |236=>some F236
 |246=>some F246
 |247=>some F247
 |248=>some F248
 |261=>some F261
 |262=>some F262
 |263=>some F263
 |_=>none
end Go.Pm.F
end
namespace Go.Pm
section
open F
theorem qmb(c:UInt8):Z tS (.call 192 [.dat (.lit (.int .u8 c.toNat))] [])=some (.ret (.bool (qaQ c)) []):=by
 refine qac (pf:=F192) rfl rfl ?_
 by_cases h1:(97:Int)<=c.toNat
 ·have h1':97<=c.toNat:=by omega
  by_cases h2:(c.toNat:Int)<=122
  ·have h2':c.toNat<=122:=by omega
   simp[F192,qaQ,h1,h1',h2,h2']
  ·have h2' : ¬ c.toNat<=122:=by omega
   simp[F192,qaQ,h1,h1',h2,h2']
 ·have h1' : ¬ 97<=c.toNat:=by omega
  simp[F192,qaQ,h1,h1']
theorem qoo(c:UInt8):Z tS (.call 193 [.dat (.lit (.int .u8 c.toNat))] [])=some (.ret (.bool (qaq c)) []):=by
 refine qac (pf:=F193) rfl rfl ?_
 by_cases h1:(48:Int)<=c.toNat
 ·have h1':48<=c.toNat:=by omega
  by_cases h2:(c.toNat:Int)<=57
  ·have h2':c.toNat<=57:=by omega
   simp[F193,qaq,h1,h1',h2,h2']
  ·have h2' : ¬ c.toNat<=57:=by omega
   simp[F193,qaq,h1,h1',h2,h2']
 ·have h1' : ¬ 48<=c.toNat:=by omega
  simp[F193,qaq,h1,h1']
theorem quQ(a b:List UInt8):bs a++bs b=bs (a++b):=by
 apply qm1
 simp[byl,bs,ByteArray.data_append]
theorem qdH(a b:ByteArray):a++b=bs (byl a++byl b):=by
 rw[<- quQ,qdF,qdF]
theorem qke:qaX qaz ⟨#[]⟩=false:=by rw[qbw]; rfl
theorem quR(a b:ByteArray)(h:a.size+b.size<2 ^ 40):Z tS (.call 262 [.str a,.str b] [])=some (.ret (.str (bs (pw (byl a) [b]))) []):=by
 have hab : ¬ (9223372036854775807:Int)<(a.size:Int)+(b.size:Int):=by omega
 have plain:gap (wl (byl a)) b=[]->bs (pw (byl a) [b])=a++b:=fun hg=>by
  rw[qcq,qdO,hg,Wc,qdH]
 refine qac (pf:=F262) rfl rfl ?_
 by_cases ha:a=⟨#[]⟩
 ·rw[plain (by rw[ha]; rfl)]
  have e:eqS a ⟨#[]⟩=true:=by rw[qaT]; simp[ha]
  simp[F262,e,hab]
 ·have ea:eqS a ⟨#[]⟩=false:=by rw[qaT]; simp[ha]
  by_cases hb:b=⟨#[]⟩
  ·rw[plain (by rw[hb,gap,qke]; simp)]
   have e:eqS b ⟨#[]⟩=true:=by rw[qaT]; simp[hb]
   simp[F262,ea,e,hab]
  ·have eb:eqS b ⟨#[]⟩=false:=by rw[qaT]; simp[hb]
   have nz : ∀ {t:ByteArray},t≠⟨#[]⟩->t.size≠0:=fun {t} h h0=>h (by
    apply qm1
    have:(byl t).length=0:=by rw[qau,h0]
    rw[WL this])
   have ha0:=nz ha
   obtain⟨y,hy,hs⟩:=qnM (nz hb)
   have hx:=qmJ ha0
   have hwl:wl (byl a)=qaz (lastC (byl a)):=rfl
   generalize lastC (byl a)=x at *
   have l1:=qmb x
   have l2:=qoo x
   have l3:=qmb y
   have l4:=qoo y
   have w2:=qai ((a.size:Int)-1) (by omega)
   have w3:((a.size:Int)-1).toNat=a.size-1:=by omega
   have w4:(0:Int)<=(a.size:Int)-1:=by omega
   have w5:(1:Int)<=a.size:=by omega
   by_cases hg:(qaz x&&qaz y)=true
   ·have hgap:gap (wl (byl a)) b=[32]:=by rw[gap,hwl,hs,if_pos hg]
    have e:bs (pw (byl a) [b])=a++⟨#[32]⟩++b:=by
     rw[qcq,qdO,hgap,qdH,qdH a,qbp]
     simp[byl]
    rw[e]
    have hab2 : ¬ (9223372036854775807:Int)<(a.size:Int)+1:=by omega
    have hab3 : ¬ (9223372036854775807:Int)<(a.size:Int)+1+(b.size:Int):=by omega
    have hsz:(a++⟨#[32]⟩:ByteArray).size=a.size+1:=by rw[W6]; rfl
    have hsp:(⟨#[32]⟩:ByteArray).size=1:=rfl
    have hsp2:((⟨#[32]⟩:ByteArray).size:Int)=1:=rfl
    unfold qaz at hg
    cases h1:qaQ x<;>cases h2:qaq x<;>cases h3:qaQ y<;>cases h4:qaq y<;>rw[h1,h2,h3,h4] at hg<;>simp at hg<;>rw[h1] at l1<;>rw[h2] at l2<;>rw[h3] at l3<;>rw[h4] at l4 <;>
     simp[F262,ea,eb,hx,hy,l1,l2,l3,l4,w2,w3,w4,w5,hab2,hab3,hsz,hsp,hsp2,V.len]
   ·have hgap:gap (wl (byl a)) b=[]:=by rw[gap,hwl,hs,if_neg hg]
    rw[plain hgap]
    unfold qaz at hg
    cases h1:qaQ x<;>cases h2:qaq x<;>cases h3:qaQ y<;>cases h4:qaq y<;>rw[h1,h2,h3,h4] at hg<;>simp at hg<;>rw[h1] at l1<;>rw[h2] at l2<;>rw[h3] at l3<;>rw[h4] at l4 <;>
     simp[F262,ea,eb,hx,hy,l1,l2,l3,l4,w2,w3,w4,w5,hab,V.len]
theorem qop (fl:Bool) (ts:List ByteArray) (hn:ts.length<2 ^ 30) : ∀ (m i:Nat) (w:List UInt8),i+m=ts.length->(pw w (ts.drop i)).length<2 ^ 40 ->
  Z tS (.loop 0 F247l0 [(0,.dat (.sl (strC ts) ts.length fl)),(3,.str (bs w)),(4,.int i)] [])=some (.out (.exit 0) [(0,.dat (.sl (strC ts) ts.length fl)),(3,.str (bs (pw w (ts.drop i)))),(4,.int ts.length),(8,.bool false)] [])
 |0,i,w,hi,hsz=>by
  have hi':i=ts.length:=by omega
  subst hi'
  rw[List.drop_length,qdO]
  rw[qaa]
  simp[qab,qj7,V.len]
 |m+1,i,w,hi,hsz=>by
  have hlt:i<ts.length:=by omega
  have hd:ts.drop i=ts[i]::ts.drop (i+1):=Ww hlt
  rw[hd,qcq] at hsz ⊢
  have hc:=qeA ts i hlt
  generalize ts[i]=t at *
  have hw0:(w++(gap (wl w) t++byl t)).length<2 ^ 40:=Wu (qjP _ _) hsz
  have ih:=qop fl ts hn m (i+1) (w++(gap (wl w) t++byl t)) (by omega) hsz
  rw[<- ih]
  have z:=quR (bs w) t (by rw[Wb,Wb,qau] at hw0; rw[qaw]; omega)
  rw[qbp,qcq,qdO] at z
  have w1:=qai ((i:Int)+1) (by omega)
  have hlt':(i:Int)<ts.length:=by omega
  conv=>lhs; rw[qaa]
  generalize bs (w++(gap (wl w) t++byl t))=R at *
  generalize bs w=R0 at *
  simp[qab,qj7,z,hc,w1,hlt',hlt,qaf,V.len]
theorem qCn(fl:Bool){ts:List ByteArray}{R:ByteArray}(hR:R=bs (pw [] ts))(hn:ts.length<2 ^ 30)(hsz:R.size<2 ^ 40):Z tS (.call 247 [.dat (.sl (strC ts) ts.length fl)] [])=some (.ret (.str R) []):=by
 subst hR
 have z:=qop fl ts hn ts.length 0 [] (by omega) (by rw[WJ]; exact hsz)
 rw[WJ] at z
 simp only[Wt] at z
 rw[show bs []=⟨#[]⟩ from rfl] at z
 refine qac (pf:=F247) rfl rfl ?_
 generalize bs (pw [] ts)=R at *
 simp[F247,z]
theorem quS(w:List UInt8){ts:List ByteArray}(h : ∀ t∈ts,t.size≠0):pw w [bs (qap false ts)]=pw w ts:=by
 cases ts with
 |nil=>
  rw[qcq,qdO,qdO,qap]
  have:=qke
  simp[gap,bs,byl,this]
 |cons t ts=>
  have ht:=h t (WO ..)
  cases hb:byl t with
  |nil=>exact absurd (by rw[<- qau,hb]; rfl) ht
  |cons c r=>
   have hs:qaX qaz (bs (qap false (t::ts)))=qaX qaz t:=by
    rw[qbw,qbw,qbp,qap,hb]
    rfl
   have hg:gap (wl w) (bs (qap false (t::ts)))=gap (wl w) t:=by rw[gap,gap,hs]
   have he:qb7 (wl w) t=qb7 false t:=by
    unfold qb7
    cases hl:(byl t).getLast? with
    |none=>rw[Yv] at hl; rw[hl] at hb; cases hb
    |some c=>rfl
   rw[qcq,qdO,hg,qbp]
   show w++(gap (wl w) t++qap false (t::ts))=w++qap (wl w) (t::ts)
   rw[qap,qap,he]
   rfl
theorem qm8(w:List UInt8){ts:List ByteArray}(h : ∀ t∈ts,t.size≠0)(r:List ByteArray):pw w (bs (qap false ts)::r)=pw w (ts++r):=by
 rw[show bs (qap false ts)::r=[bs (qap false ts)]++r from rfl,qav,quS w h,<- qav]
end
section
open F
def digS:ByteArray:=⟨#[48,49,50,51,52,53,54,55,56,57]⟩
theorem qv1 : ∀ d,d<10->digS.extract d (d+1)=bs [(48+d).toUInt8]:=by decide
theorem qnB (n:Int) : ∀ (k m:Nat) (out:ByteArray),m<10 ^ k->k<=18->out.size+k<=100 ->
  Z tS (.loop 0 F20l0 [(0,.int n),(3,.str digS),(4,.str out),(5,.int m)] [])=some (.out (.exit 0) [(0,.int n),(3,.str digS),(4,.str (bs (if m=0 then [] else qkJ k m)++out)),(5,.int 0),(11,.bool false)] [])
 |k,0,out,_,_,_=>by
  rw[qaa]
  have e:bs []++out=out:=by rw[show bs []=ByteArray.empty from rfl,ByteArray.empty_append]
  simp[qab,ql0,digS,e]
 |0,m+1,out,h,_,_=>by simp at h
 |k+1,m+1,out,h,hk,ho=>by
  have hp:(10:Nat) ^ (k+1)<=10 ^ 18:=YG (by omega) hk
  have hd:((m+1:Nat):Int).tmod 10=(((m+1) % 10:Nat):Int):=rfl
  have hq:((m+1:Nat):Int).tdiv 10=(((m+1) / 10:Nat):Int):=rfl
  have hlt:(m+1) % 10<10:=Nat.mod_lt _ (by omega)
  have hx:=qv1 _ hlt
  have w1:=qai (((m+1) % 10:Nat)+1:Int) (by omega)
  have w2:IntKind.i64.wrap (((m+1) / 10:Nat):Int)=((m+1) / 10:Nat):=qai _ (by omega)
  have hne : ¬ ((m+1:Nat):Int)=0:=by omega
  have hneg : ¬ (((m+1) % 10:Nat):Int)<0:=by omega
  have ih:=qnB n k ((m+1) / 10) (bs [(48+(m+1) % 10).toUInt8]++out) (by rw[YP] at h; omega) (by omega) (by rw[W6,qaw]; simp; omega)
  have hres:bs (if (m+1) / 10=0 then [] else qkJ k ((m+1) / 10))++(bs [(48+(m+1) % 10).toUInt8]++out)=bs (qkJ (k+1) (m+1))++out:=by
   rw[<- ByteArray.append_assoc]
   congr 1
   simp only[qkJ]
   by_cases h10:m+1<10
   ·rw[if_pos h10,if_pos (by omega),Nat.mod_eq_of_lt h10]
    rfl
   ·rw[if_neg h10,if_neg (by omega)]
    rfl
  rw[hres] at ih
  rw[if_neg (by omega),<- ih]
  generalize hd2:(m+1) % 10=d at *
  generalize hq2:(m+1) / 10=q at *
  generalize hm:m+1=M at *
  have hM : ¬ M=0:=by omega
  have b1:(d:Int)<=digS.size:=by rw[show digS.size=10 from rfl]; omega
  have b2:(d:Int)+1<=digS.size:=by rw[show digS.size=10 from rfl]; omega
  have b3:(0:Int)<=(d:Int)+1:=by omega
  have b4:((d:Int)+1).toNat=d+1:=by omega
  have b5:(d:Int)<=(d:Int)+1:=by omega
  have hsz : ¬ (9223372036854775807:Int)<((bs [(48+d).toUInt8]).size:Int)+out.size:=by rw[qaw]; simp; omega
  generalize digS=ds at *
  generalize bs [(48+d).toUInt8]=ch at *
  conv=>lhs; rw[qaa]
  simp[qab,ql0,qa4,bound,hd,hq,hne,hneg,w1,w2,b1,b2,b3,b4,b5,hx,hsz,hM]
theorem qqr{n:Nat}(h:n<10 ^ 18):Z tS (.call 20 [.int n] [])=some (.ret (.str (bs (decB n))) []):=by
 refine qac (pf:=F20) rfl rfl ?_
 by_cases h0:n=0
 ·subst h0
  simp[F20,decB,qkJ,bs]
 ·have hne : ¬ (n:Int)=0:=by omega
  have hneg : ¬ (n:Int)<0:=by omega
  have z:=qnB n 18 n ⟨#[]⟩ h (by omega) (by decide)
  rw[if_neg h0] at z
  have e : ∀ (k j n:Nat),n<10 ^ k->1<=k->qkJ (k+j) n=qkJ k n:=fun k=>by
   induction k with
   |zero=>intro j n _ h; omega
   |succ k ih=>
    intro j n hn _
    rw[show k+1+j=(k+j)+1 by omega]
    simp only[qkJ]
    split
    ·rfl
    ·rename_i h10
     have hk:1<=k:=by
      rcases k with _|k
      ·simp at hn; omega
      ·omega
     rw[ih j (n / 10) (by rw[YP] at hn; omega) hk]
  have e2:bs (qkJ 18 n)++⟨#[]⟩=bs (decB n):=by
   rw[show decB n=qkJ (18+2) n from rfl,e 18 2 n h (by omega)]
   exact ByteArray.append_empty
  rw[e2] at z
  simp only[digS] at z
  simp[F20,h0,hne,hneg,z]
end
section
open F
theorem qeD(e:E):Z tS (.call 261 [e.node] [])=some (.ret (.int e.lev) []):=by
 refine qac (pf:=F261) rfl rfl ?_
 cases e with
 |un f neg e=>cases neg<;>simp[F261,E.lev,qdK,ustr,qaT]
 |bin f o a b=>cases o<;>simp[F261,E.lev,Bop.prec,Bop.str,qaT]
 |_=>simp[F261,E.lev]
inductive Parts:List ByteArray->List ByteArray->Prop
 |nil:Parts [] []
 |tok {t:ByteArray} {l ts:List ByteArray} (h:Parts l ts):Parts (t::l) (t::ts)
 |sub {a l ts:List ByteArray} (ha : ∀ t∈a,t.size≠0) (h:Parts l ts):Parts (bs (qap false a)::l) (a++ts)
theorem qsD{l ts:List ByteArray}(h:Parts l ts) : ∀ w,pw w l=pw w ts:=by
 induction h with
 |nil=>intro w; rfl
 |tok h ih=>intro w; rw[qcq,qcq,ih]
 |sub ha h ih=>intro w; rw[qm8 w ha,qav,qav,ih]
theorem qdz{l ts:List ByteArray}{R:ByteArray}(hp:Parts l ts)(hR:R=bs (qap false ts))(hn:l.length<2 ^ 30)(hsz:R.size<2 ^ 40):Z tS (.call 247 [.dat (.sl (strC l) l.length true)] [])=some (.ret (.str R) []):=
 qCn true (by rw[hR,qsD hp,qdZ]) hn hsz
theorem qgv(ts:List ByteArray)(p:Bool):(qap false ts).length<=(qap p ts).length:=by
 cases ts with
 |nil=>simp[qap]
 |cons t ts=>
  simp only[qap,Wb]
  have:(gap false t).length=0:=rfl
  cases hb:byl t with
  |nil=>
   have e : ∀ q,qb7 q t=q:=fun q=>by unfold qb7; rw[hb]; rfl
   rw[e,e]
   have:=qgv ts p
   simp[gap]
   omega
  |cons c r=>
   have e:qb7 p t=qb7 false t:=by
    unfold qb7
    cases hl:(byl t).getLast? with
    |none=>rw[Yv] at hl; rw[hl] at hb; cases hb
    |some c=>rfl
   rw[e]
   omega
theorem qar(a b c:List ByteArray)(p:Bool):(qap false b).length<=(qap p (a++(b++c))).length:=by
 rw[qic,qic,Wb,Wb]
 have:=qgv b (qv8 p a)
 omega
theorem qiI(ts:List ByteArray):qap false (bs [40]::(ts++[bs [41]]))=40::(qap false ts++[41]):=by
 have e1:qb7 false (bs [40])=false:=by decide
 have g1:gap false (bs [40])=[]:=rfl
 have g2 : ∀ q,gap q (bs [41])=[]:=fun q=>by cases q<;>decide
 rw[qap,e1,g1,qic,qap,g2]
 simp[qap,qbp]
def qdb(e:E)(full:Bool)(p:Nat)(i:Int):Prop:=(qap false (e.tx full p)).length<2 ^ 40->Z tS (.call 246 [e.node,.int i,.bool full] [])=some (.ret (.str (bs (qap false (e.tx full p)))) [])
theorem qbI(full:Bool){e:E}(h:e.good)(p:Nat) : ∀ t∈e.tx full p,t.size≠0:=fun t ht=>qfx (qj1 (qiJ full e h p).ok t ht)
theorem qy3{full:Bool}{n:Int}(h0:0<=n)(h1:n<=2147483647){p:Nat}{i:Int}(hi:i=p)(hp:p<=8):qdb (E.int n) full p i:=by
 intro hsz
 have zl:Z tS (.call 261 [.dat (.agg [.lit (.int .i64 8),.lit (.int .i64 n),.lit (.string ⟨#[]⟩),.lit (.slice none 0 0)])] [])=some (.ret (.int 8) []):=qeD (.int n)
 have hc : ¬ (8:Int)<i:=by omega
 have hq : ¬ 8<p:=by omega
 have f0:Z tS (.call 20 [.int n] [])=some (.ret (.str (bs (decB n.toNat))) []):=by
  have:=qqr (n:=n.toNat) (by omega)
  rw[show ((n.toNat:Nat):Int)=n by omega] at this
  exact this
 have htx:(E.int n).tx full p=[bs (decB n.toNat)]:=by simp[E.tx,qbR,qdK,ustr,bs,qdP,qgE,Bop.left]
 have hfin:bs (qap false ((E.int n).tx full p))=(bs (decB n.toNat)):=by
  rw[htx,qap,qap,Wl]
  exact qdF (bs (decB n.toNat))
 rw[hfin]
 clear hfin htx hsz
 refine qac (pf:=F246) rfl rfl ?_
 cases full<;>simp[F246,qaf,zl,hc,f0]
theorem qsE{full:Bool}{p:Nat}{i:Int}(hi:i=p)(hp:p<=8):qdb (E.bool 0) full p i:=by
 intro hsz
 have zl:Z tS (.call 261 [.dat (.agg [.lit (.int .i64 9),.lit (.int .i64 0),.lit (.string ⟨#[]⟩),.lit (.slice none 0 0)])] [])=some (.ret (.int 8) []):=qeD (.bool 0)
 have hc : ¬ (8:Int)<i:=by omega
 have hq : ¬ 8<p:=by omega
 have htx:(E.bool 0).tx full p=[⟨#[102,97,108,115,101]⟩]:=by simp[E.tx,qbR,qdK,ustr,bs,qdP,qgE,Bop.left]
 have hfin:bs (qap false ((E.bool 0).tx full p))=(⟨#[102,97,108,115,101]⟩):=by
  rw[htx,qap,qap,Wl]
  exact qdF (⟨#[102,97,108,115,101]⟩)
 rw[hfin]
 clear hfin htx hsz
 refine qac (pf:=F246) rfl rfl ?_
 cases full<;>simp[F246,qaf,zl,hc]
theorem qsF{full:Bool}{p:Nat}{i:Int}(hi:i=p)(hp:p<=8):qdb (E.bool 1) full p i:=by
 intro hsz
 have zl:Z tS (.call 261 [.dat (.agg [.lit (.int .i64 9),.lit (.int .i64 1),.lit (.string ⟨#[]⟩),.lit (.slice none 0 0)])] [])=some (.ret (.int 8) []):=qeD (.bool 1)
 have hc : ¬ (8:Int)<i:=by omega
 have hq : ¬ 8<p:=by omega
 have htx:(E.bool 1).tx full p=[⟨#[116,114,117,101]⟩]:=by simp[E.tx,qbR,qdK,ustr,bs,qdP,qgE,Bop.left]
 have hfin:bs (qap false ((E.bool 1).tx full p))=(⟨#[116,114,117,101]⟩):=by
  rw[htx,qap,qap,Wl]
  exact qdF (⟨#[116,114,117,101]⟩)
 rw[hfin]
 clear hfin htx hsz
 refine qac (pf:=F246) rfl rfl ?_
 cases full<;>simp[F246,qaf,zl,hc]
theorem qy4{full:Bool}{s:ByteArray}{p:Nat}{i:Int}(hi:i=p)(hp:p<=8):qdb (E.var s) full p i:=by
 intro hsz
 have zl:Z tS (.call 261 [.dat (.agg [.lit (.int .i64 10),.lit (.int .i64 0),.lit (.string s),.lit (.slice none 0 0)])] [])=some (.ret (.int 8) []):=qeD (.var s)
 have hc : ¬ (8:Int)<i:=by omega
 have hq : ¬ 8<p:=by omega
 have htx:(E.var s).tx full p=[s]:=by simp[E.tx,qbR,qdK,ustr,bs,qdP,qgE,Bop.left]
 have hfin:bs (qap false ((E.var s).tx full p))=(s):=by
  rw[htx,qap,qap,Wl]
  exact qdF (s)
 rw[hfin]
 clear hfin htx hsz
 refine qac (pf:=F246) rfl rfl ?_
 cases full<;>simp[F246,qaf,zl,hc]
theorem qvN{full:Bool}{s:ByteArray}{p:Nat}{i:Int}(hi:i=p)(hp:p<=8):qdb (E.name s) full p i:=by
 intro hsz
 have zl:Z tS (.call 261 [.dat (.agg [.lit (.int .i64 12),.lit (.int .i64 0),.lit (.string s),.lit (.slice none 0 0)])] [])=some (.ret (.int 8) []):=qeD (.name s)
 have hc : ¬ (8:Int)<i:=by omega
 have hq : ¬ 8<p:=by omega
 have htx:(E.name s).tx full p=[s]:=by simp[E.tx,qbR,qdK,ustr,bs,qdP,qgE,Bop.left]
 have hfin:bs (qap false ((E.name s).tx full p))=(s):=by
  rw[htx,qap,qap,Wl]
  exact qdF (s)
 rw[hfin]
 clear hfin htx hsz
 refine qac (pf:=F246) rfl rfl ?_
 cases full<;>simp[F246,qaf,zl,hc]
theorem qsG{full:Bool}{f:Bool}{s:ByteArray}{e:E}(ge:e.good)(he:qdb e full 1 1){p:Nat}{i:Int}(hi:i=p)(hp:p<=8):qdb (E.field f s e) full p i:=by
 intro hsz
 have zl:Z tS (.call 261 [.dat (.agg [.lit (.int .i64 11),.lit (.int .i64 0),.lit (.string s),.sl [.lit (.int .i64 e.kind),.lit (.int .i64 e.num),.lit (.string e.str),e.kids] 1 f])] [])=some (.ret (.int 8) []):=qeD (.field f s e)
 have hc : ¬ (8:Int)<i:=by omega
 have hq : ¬ 8<p:=by omega
 obtain⟨inn,hinn⟩ : ∃ v,v=[s]++([⟨#[91]⟩]++(e.tx full 1++([⟨#[93]⟩]++[]))):=⟨_,rfl⟩
 have htx:(E.field f s e).tx full p=inn:=by
  rw[hinn]
  simp[E.tx,qbR,qdK,ustr,bs,qdP,qgE,Bop.left,hq]
 rw[htx] at hsz ⊢
 have hin:=hsz
 have z2:=he (Wu (by
  have:=qar ([s]++([⟨#[91]⟩])) (e.tx full 1) ([⟨#[93]⟩]++[]) false
  try simp only[Wf,Wc] at this
  rw[hinn]
  exact this) hin)
 have hP:Parts [s,⟨#[91]⟩,bs (qap false (e.tx full 1)),⟨#[93]⟩] inn:=by rw[hinn]; exact (.tok (.tok (.sub (qbI full ge 1) (.tok .nil))))
 obtain⟨R,hR⟩ : ∃ v,v=bs (qap false inn):=⟨_,rfl⟩
 have hRs:R.size<2 ^ 40:=by rw[hR,qaw]; exact hin
 have za:Z tS (.call 247 [.dat (.sl [.lit (.string s),.lit (.string ⟨#[91]⟩),.lit (.string (bs (qap false (e.tx full 1)))),.lit (.string ⟨#[93]⟩)] 4 true)] [])=some (.ret (.str R) []):=qdz hP hR (by simp) hRs
 generalize bs (qap false (e.tx full 1))=r2 at *
 rw[<- hR]
 clear hP hR hinn htx hsz hin
 refine qac (pf:=F246) rfl rfl ?_
 cases full<;>simp[F246,qaf,zl,hc,z2,za]
theorem qBw{f neg:Bool}{e:E}{L:Nat}(hL:L=qdK neg)(ge:e.good)(he:qdb e false L L){p:Nat}{i:Int}(hi:i=p)(hp:p<=L):qdb (E.un f neg e) false p i:=by
 intro hsz
 have zl:Z tS (.call 261 [.dat (.agg [.lit (.int .i64 13),.lit (.int .i64 0),.lit (.string (ustr neg)),.sl [.lit (.int .i64 e.kind),.lit (.int .i64 e.num),.lit (.string e.str),e.kids] 1 f])] [])=some (.ret (.int L) []):=by
  have:=qeD (.un f neg e)
  rw[show E.lev (.un f neg e)=L from hL.symm] at this
  exact this
 have hc : ¬ (L:Int)<i:=by omega
 have hq : ¬ L<p:=by omega
 have h8:(L:Int)<8:=by rw[hL]; cases neg<;>decide
 obtain⟨inn,hinn⟩ : ∃ v,v=[(ustr neg)]++(e.tx false L++[]):=⟨_,rfl⟩
 have htx:(E.un f neg e).tx false p=inn:=by
  rw[hinn]
  simp[E.tx,qbR,bs,hL.symm,hq]
 rw[htx] at hsz ⊢
 have hin:=hsz
 have z1:=he (Wu (by
  have:=qar ([(ustr neg)]) (e.tx false L) ([]) false
  try simp only[Wf,Wc] at this
  rw[hinn]
  exact this) hin)
 have hP:Parts [(ustr neg),bs (qap false (e.tx false L))] inn:=by rw[hinn]; exact (.tok (.sub (qbI false ge L) .nil))
 obtain⟨R,hR⟩ : ∃ v,v=bs (qap false inn):=⟨_,rfl⟩
 have hRs:R.size<2 ^ 40:=by rw[hR,qaw]; exact hin
 have za:Z tS (.call 247 [.dat (.sl [.lit (.string (ustr neg)),.lit (.string (bs (qap false (e.tx false L))))] 2 true)] [])=some (.ret (.str R) []):=qdz hP hR (by simp) hRs
 generalize bs (qap false (e.tx false L))=r1 at *
 rw[<- hR]
 clear hP hR hinn htx hsz hin
 refine qac (pf:=F246) rfl rfl ?_
 simp[F246,qaf,zl,hc,z1,za,h8]
theorem qy5{f neg:Bool}{e:E}{L:Nat}(hL:L=qdK neg)(ge:e.good)(he:qdb e false L L){p:Nat}{i:Int}(hi:i=p)(hp:L<p):qdb (E.un f neg e) false p i:=by
 intro hsz
 have zl:Z tS (.call 261 [.dat (.agg [.lit (.int .i64 13),.lit (.int .i64 0),.lit (.string (ustr neg)),.sl [.lit (.int .i64 e.kind),.lit (.int .i64 e.num),.lit (.string e.str),e.kids] 1 f])] [])=some (.ret (.int L) []):=by
  have:=qeD (.un f neg e)
  rw[show E.lev (.un f neg e)=L from hL.symm] at this
  exact this
 have hc:(L:Int)<i:=by omega
 have hq:L<p:=hp
 have h8:(L:Int)<8:=by rw[hL]; cases neg<;>decide
 obtain⟨inn,hinn⟩ : ∃ v,v=[(ustr neg)]++(e.tx false L++[]):=⟨_,rfl⟩
 have htx:(E.un f neg e).tx false p=bs [40]::(inn++[bs [41]]):=by
  rw[hinn]
  simp[E.tx,qbR,bs,hL.symm,hq]
 rw[htx] at hsz ⊢
 rw[qiI] at hsz ⊢
 have hin:(qap false inn).length<2 ^ 40:=by simp at hsz; omega
 have hin2:(qap false inn).length+2<2 ^ 40:=by simp at hsz; omega
 have z1:=he (Wu (by
  have:=qar ([(ustr neg)]) (e.tx false L) ([]) false
  try simp only[Wf,Wc] at this
  rw[hinn]
  exact this) hin)
 have hP:Parts [(ustr neg),bs (qap false (e.tx false L))] inn:=by rw[hinn]; exact (.tok (.sub (qbI false ge L) .nil))
 obtain⟨R,hR⟩ : ∃ v,v=bs (qap false inn):=⟨_,rfl⟩
 have hRs:R.size<2 ^ 40:=by rw[hR,qaw]; exact hin
 have za:Z tS (.call 247 [.dat (.sl [.lit (.string (ustr neg)),.lit (.string (bs (qap false (e.tx false L))))] 2 true)] [])=some (.ret (.str R) []):=qdz hP hR (by simp) hRs
 generalize bs (qap false (e.tx false L))=r1 at *
 have hfin:bs (40::(qap false inn++[41]))=⟨#[40]⟩++R++⟨#[41]⟩:=by
  rw[qdH,qdH ⟨#[40]⟩,qbp,hR,qbp]
  simp[byl]
 rw[hfin]
 have hRl:R.size+2<2 ^ 40:=by rw[hR,qaw]; exact hin2
 have y1:((⟨#[40]⟩:ByteArray).size:Int)=1:=rfl
 have y2:((⟨#[41]⟩:ByteArray).size:Int)=1:=rfl
 have y3:(⟨#[40]⟩:ByteArray).size=1:=rfl
 have y4:(⟨#[41]⟩:ByteArray).size=1:=rfl
 have y5 : ¬ (9223372036854775807:Int)<1+(R.size:Int):=by omega
 have y6 : ¬ (9223372036854775807:Int)<1+(R.size:Int)+1:=by omega
 have y7:(⟨#[40]⟩++R:ByteArray).size=1+R.size:=by rw[W6]; rfl
 clear hP hR hinn htx hsz hin hin2 hfin
 refine qac (pf:=F246) rfl rfl ?_
 simp[F246,qaf,zl,hc,y1,y2,y3,y4,y5,y6,y7,z1,za,h8]
theorem qy6{f:Bool}{o:Bop}{a b:E}{L:Nat}(hl:o.prec=L)(h4:L≠4)(ga:a.good)(gb:b.good)(ha:qdb a false L L)(hb:qdb b false (L+1) ((L:Int)+1)){p:Nat}{i:Int}(hi:i=p)(hp:p<=L):qdb (E.bin f o a b) false p i:=by
 intro hsz
 have zl:Z tS (.call 261 [.dat (.agg [.lit (.int .i64 14),.lit (.int .i64 0),.lit (.string o.str),.sl [.lit (.int .i64 a.kind),.lit (.int .i64 a.num),.lit (.string a.str),a.kids,.lit (.int .i64 b.kind),.lit (.int .i64 b.num),.lit (.string b.str),b.kids] 2 f])] [])=some (.ret (.int L) []):=by
  have:=qeD (.bin f o a b)
  rw[show E.lev (.bin f o a b)=L from hl] at this
  exact this
 have hc : ¬ (L:Int)<i:=by omega
 have hq : ¬ L<p:=by omega
 have hlf:o.left=L:=by have:=qaV o; omega
 have h4' : ¬ (L:Int)=4:=by omega
 have h8:(L:Int)<8:=by have:=qaV o; omega
 have w1:=qai ((L:Int)+1) (by omega)
 obtain⟨inn,hinn⟩ : ∃ v,v=a.tx false L++([o.str]++(b.tx false (L+1)++[])):=⟨_,rfl⟩
 have htx:(E.bin f o a b).tx false p=inn:=by
  rw[hinn]
  simp[E.tx,qbR,bs,hl,hlf,hq]
 rw[htx] at hsz ⊢
 have hin:=hsz
 have z0:=ha (Wu (by
  have:=qar ([]) (a.tx false L) ([o.str]++(b.tx false (L+1)++[])) false
  try simp only[Wf,Wc] at this
  rw[hinn]
  exact this) hin)
 have z2:=hb (Wu (by
  have:=qar (a.tx false L++([o.str])) (b.tx false (L+1)) ([]) false
  try simp only[Wf,Wc] at this
  rw[hinn]
  exact this) hin)
 have hP:Parts [bs (qap false (a.tx false L)),o.str,bs (qap false (b.tx false (L+1)))] inn:=by rw[hinn]; exact (.sub (qbI false ga L) (.tok (.sub (qbI false gb (L+1)) .nil)))
 obtain⟨R,hR⟩ : ∃ v,v=bs (qap false inn):=⟨_,rfl⟩
 have hRs:R.size<2 ^ 40:=by rw[hR,qaw]; exact hin
 have za:Z tS (.call 247 [.dat (.sl [.lit (.string (bs (qap false (a.tx false L)))),.lit (.string o.str),.lit (.string (bs (qap false (b.tx false (L+1)))))] 3 true)] [])=some (.ret (.str R) []):=qdz hP hR (by simp) hRs
 generalize bs (qap false (a.tx false L))=r0 at *
 generalize bs (qap false (b.tx false (L+1)))=r2 at *
 rw[<- hR]
 clear hP hR hinn htx hsz hin
 refine qac (pf:=F246) rfl rfl ?_
 simp[F246,qaf,zl,hc,z0,z2,za,h4',h8,w1]
theorem qvO{f:Bool}{o:Bop}{a b:E}{L:Nat}(hl:o.prec=L)(h4:L≠4)(ga:a.good)(gb:b.good)(ha:qdb a false L L)(hb:qdb b false (L+1) ((L:Int)+1)){p:Nat}{i:Int}(hi:i=p)(hp:L<p):qdb (E.bin f o a b) false p i:=by
 intro hsz
 have zl:Z tS (.call 261 [.dat (.agg [.lit (.int .i64 14),.lit (.int .i64 0),.lit (.string o.str),.sl [.lit (.int .i64 a.kind),.lit (.int .i64 a.num),.lit (.string a.str),a.kids,.lit (.int .i64 b.kind),.lit (.int .i64 b.num),.lit (.string b.str),b.kids] 2 f])] [])=some (.ret (.int L) []):=by
  have:=qeD (.bin f o a b)
  rw[show E.lev (.bin f o a b)=L from hl] at this
  exact this
 have hc:(L:Int)<i:=by omega
 have hq:L<p:=hp
 have hlf:o.left=L:=by have:=qaV o; omega
 have h4' : ¬ (L:Int)=4:=by omega
 have h8:(L:Int)<8:=by have:=qaV o; omega
 have w1:=qai ((L:Int)+1) (by omega)
 obtain⟨inn,hinn⟩ : ∃ v,v=a.tx false L++([o.str]++(b.tx false (L+1)++[])):=⟨_,rfl⟩
 have htx:(E.bin f o a b).tx false p=bs [40]::(inn++[bs [41]]):=by
  rw[hinn]
  simp[E.tx,qbR,bs,hl,hlf,hq]
 rw[htx] at hsz ⊢
 rw[qiI] at hsz ⊢
 have hin:(qap false inn).length<2 ^ 40:=by simp at hsz; omega
 have hin2:(qap false inn).length+2<2 ^ 40:=by simp at hsz; omega
 have z0:=ha (Wu (by
  have:=qar ([]) (a.tx false L) ([o.str]++(b.tx false (L+1)++[])) false
  try simp only[Wf,Wc] at this
  rw[hinn]
  exact this) hin)
 have z2:=hb (Wu (by
  have:=qar (a.tx false L++([o.str])) (b.tx false (L+1)) ([]) false
  try simp only[Wf,Wc] at this
  rw[hinn]
  exact this) hin)
 have hP:Parts [bs (qap false (a.tx false L)),o.str,bs (qap false (b.tx false (L+1)))] inn:=by rw[hinn]; exact (.sub (qbI false ga L) (.tok (.sub (qbI false gb (L+1)) .nil)))
 obtain⟨R,hR⟩ : ∃ v,v=bs (qap false inn):=⟨_,rfl⟩
 have hRs:R.size<2 ^ 40:=by rw[hR,qaw]; exact hin
 have za:Z tS (.call 247 [.dat (.sl [.lit (.string (bs (qap false (a.tx false L)))),.lit (.string o.str),.lit (.string (bs (qap false (b.tx false (L+1)))))] 3 true)] [])=some (.ret (.str R) []):=qdz hP hR (by simp) hRs
 generalize bs (qap false (a.tx false L))=r0 at *
 generalize bs (qap false (b.tx false (L+1)))=r2 at *
 have hfin:bs (40::(qap false inn++[41]))=⟨#[40]⟩++R++⟨#[41]⟩:=by
  rw[qdH,qdH ⟨#[40]⟩,qbp,hR,qbp]
  simp[byl]
 rw[hfin]
 have hRl:R.size+2<2 ^ 40:=by rw[hR,qaw]; exact hin2
 have y1:((⟨#[40]⟩:ByteArray).size:Int)=1:=rfl
 have y2:((⟨#[41]⟩:ByteArray).size:Int)=1:=rfl
 have y3:(⟨#[40]⟩:ByteArray).size=1:=rfl
 have y4:(⟨#[41]⟩:ByteArray).size=1:=rfl
 have y5 : ¬ (9223372036854775807:Int)<1+(R.size:Int):=by omega
 have y6 : ¬ (9223372036854775807:Int)<1+(R.size:Int)+1:=by omega
 have y7:(⟨#[40]⟩++R:ByteArray).size=1+R.size:=by rw[W6]; rfl
 clear hP hR hinn htx hsz hin hin2 hfin
 refine qac (pf:=F246) rfl rfl ?_
 simp[F246,qaf,zl,hc,y1,y2,y3,y4,y5,y6,y7,z0,z2,za,h4',h8,w1]
theorem qvP{f:Bool}{o:Bop}{a b:E}(hl:o.prec=4)(ga:a.good)(gb:b.good)(ha:qdb a false 5 5)(hb:qdb b false 5 5){p:Nat}{i:Int}(hi:i=p)(hp:p<=4):qdb (E.bin f o a b) false p i:=by
 intro hsz
 have zl:Z tS (.call 261 [.dat (.agg [.lit (.int .i64 14),.lit (.int .i64 0),.lit (.string o.str),.sl [.lit (.int .i64 a.kind),.lit (.int .i64 a.num),.lit (.string a.str),a.kids,.lit (.int .i64 b.kind),.lit (.int .i64 b.num),.lit (.string b.str),b.kids] 2 f])] [])=some (.ret (.int 4) []):=by
  have:=qeD (.bin f o a b)
  rw[show E.lev (.bin f o a b)=4 from hl] at this
  exact this
 have hc : ¬ (4:Int)<i:=by omega
 have hq : ¬ 4<p:=by omega
 have hlf:o.left=5:=by have:=qaV o; omega
 obtain⟨inn,hinn⟩ : ∃ v,v=a.tx false 5++([o.str]++(b.tx false 5++[])):=⟨_,rfl⟩
 have htx:(E.bin f o a b).tx false p=inn:=by
  rw[hinn]
  simp[E.tx,qbR,bs,hl,hlf,hq]
 rw[htx] at hsz ⊢
 have hin:=hsz
 have z0:=ha (Wu (by
  have:=qar ([]) (a.tx false 5) ([o.str]++(b.tx false 5++[])) false
  try simp only[Wf,Wc] at this
  rw[hinn]
  exact this) hin)
 have z2:=hb (Wu (by
  have:=qar (a.tx false 5++([o.str])) (b.tx false 5) ([]) false
  try simp only[Wf,Wc] at this
  rw[hinn]
  exact this) hin)
 have hP:Parts [bs (qap false (a.tx false 5)),o.str,bs (qap false (b.tx false 5))] inn:=by rw[hinn]; exact (.sub (qbI false ga 5) (.tok (.sub (qbI false gb 5) .nil)))
 obtain⟨R,hR⟩ : ∃ v,v=bs (qap false inn):=⟨_,rfl⟩
 have hRs:R.size<2 ^ 40:=by rw[hR,qaw]; exact hin
 have za:Z tS (.call 247 [.dat (.sl [.lit (.string (bs (qap false (a.tx false 5)))),.lit (.string o.str),.lit (.string (bs (qap false (b.tx false 5))))] 3 true)] [])=some (.ret (.str R) []):=qdz hP hR (by simp) hRs
 generalize bs (qap false (a.tx false 5))=r0 at *
 generalize bs (qap false (b.tx false 5))=r2 at *
 rw[<- hR]
 clear hP hR hinn htx hsz hin
 refine qac (pf:=F246) rfl rfl ?_
 simp[F246,qaf,zl,hc,z0,z2,za,qai 5 (by omega)]
theorem qsH{f:Bool}{o:Bop}{a b:E}(hl:o.prec=4)(ga:a.good)(gb:b.good)(ha:qdb a false 5 5)(hb:qdb b false 5 5){p:Nat}{i:Int}(hi:i=p)(hp:4<p):qdb (E.bin f o a b) false p i:=by
 intro hsz
 have zl:Z tS (.call 261 [.dat (.agg [.lit (.int .i64 14),.lit (.int .i64 0),.lit (.string o.str),.sl [.lit (.int .i64 a.kind),.lit (.int .i64 a.num),.lit (.string a.str),a.kids,.lit (.int .i64 b.kind),.lit (.int .i64 b.num),.lit (.string b.str),b.kids] 2 f])] [])=some (.ret (.int 4) []):=by
  have:=qeD (.bin f o a b)
  rw[show E.lev (.bin f o a b)=4 from hl] at this
  exact this
 have hc:(4:Int)<i:=by omega
 have hq:4<p:=hp
 have hlf:o.left=5:=by have:=qaV o; omega
 obtain⟨inn,hinn⟩ : ∃ v,v=a.tx false 5++([o.str]++(b.tx false 5++[])):=⟨_,rfl⟩
 have htx:(E.bin f o a b).tx false p=bs [40]::(inn++[bs [41]]):=by
  rw[hinn]
  simp[E.tx,qbR,bs,hl,hlf,hq]
 rw[htx] at hsz ⊢
 rw[qiI] at hsz ⊢
 have hin:(qap false inn).length<2 ^ 40:=by simp at hsz; omega
 have hin2:(qap false inn).length+2<2 ^ 40:=by simp at hsz; omega
 have z0:=ha (Wu (by
  have:=qar ([]) (a.tx false 5) ([o.str]++(b.tx false 5++[])) false
  try simp only[Wf,Wc] at this
  rw[hinn]
  exact this) hin)
 have z2:=hb (Wu (by
  have:=qar (a.tx false 5++([o.str])) (b.tx false 5) ([]) false
  try simp only[Wf,Wc] at this
  rw[hinn]
  exact this) hin)
 have hP:Parts [bs (qap false (a.tx false 5)),o.str,bs (qap false (b.tx false 5))] inn:=by rw[hinn]; exact (.sub (qbI false ga 5) (.tok (.sub (qbI false gb 5) .nil)))
 obtain⟨R,hR⟩ : ∃ v,v=bs (qap false inn):=⟨_,rfl⟩
 have hRs:R.size<2 ^ 40:=by rw[hR,qaw]; exact hin
 have za:Z tS (.call 247 [.dat (.sl [.lit (.string (bs (qap false (a.tx false 5)))),.lit (.string o.str),.lit (.string (bs (qap false (b.tx false 5))))] 3 true)] [])=some (.ret (.str R) []):=qdz hP hR (by simp) hRs
 generalize bs (qap false (a.tx false 5))=r0 at *
 generalize bs (qap false (b.tx false 5))=r2 at *
 have hfin:bs (40::(qap false inn++[41]))=⟨#[40]⟩++R++⟨#[41]⟩:=by
  rw[qdH,qdH ⟨#[40]⟩,qbp,hR,qbp]
  simp[byl]
 rw[hfin]
 have hRl:R.size+2<2 ^ 40:=by rw[hR,qaw]; exact hin2
 have y1:((⟨#[40]⟩:ByteArray).size:Int)=1:=rfl
 have y2:((⟨#[41]⟩:ByteArray).size:Int)=1:=rfl
 have y3:(⟨#[40]⟩:ByteArray).size=1:=rfl
 have y4:(⟨#[41]⟩:ByteArray).size=1:=rfl
 have y5 : ¬ (9223372036854775807:Int)<1+(R.size:Int):=by omega
 have y6 : ¬ (9223372036854775807:Int)<1+(R.size:Int)+1:=by omega
 have y7:(⟨#[40]⟩++R:ByteArray).size=1+R.size:=by rw[W6]; rfl
 clear hP hR hinn htx hsz hin hin2 hfin
 refine qac (pf:=F246) rfl rfl ?_
 simp[F246,qaf,zl,hc,y1,y2,y3,y4,y5,y6,y7,z0,z2,za,qai 5 (by omega)]
theorem qlA : ∀ e:E,e.good -> ∀ p i,i=((p:Nat):Int)->p<=8->qdb e false p i
 |.int n,h,p,i,hi,hp=>qy3 h.1 h.2 hi hp
 |.bool n,h,p,i,hi,hp=>by
  rcases h with rfl|rfl
  ·exact qsE hi hp
  ·exact qsF hi hp
 |.var s,h,p,i,hi,hp=>qy4 hi hp
 |.name s,h,p,i,hi,hp=>qvN hi hp
 |.field f s e,h,p,i,hi,hp=>qsG h.2 (qlA e h.2 1 1 rfl (by omega)) hi hp
 |.un f neg e,h,p,i,hi,hp=>by
  have hg:e.good:=h
  have A:=qlA e hg (qdK neg) (qdK neg) rfl (by cases neg<;>decide)
  by_cases hq:qdK neg<p
  ·exact qy5 rfl hg A hi hq
  ·exact qBw rfl hg A hi (by omega)
 |.bin f o a b,h,p,i,hi,hp=>by
  have hr:=qaV o
  have A:=qlA a h.1 o.left o.left rfl (by omega)
  have B:=qlA b h.2 (o.prec+1) ((o.prec:Int)+1) (by omega) (by omega)
  by_cases h4:o.prec=4
  ·rw[show o.left=5 by omega] at A
   rw[h4] at B
   by_cases hq:4<p
   ·exact qsH h4 h.1 h.2 A B hi hq
   ·exact qvP h4 h.1 h.2 A B hi (by omega)
  ·rw[show o.left=o.prec by omega] at A
   by_cases hq:o.prec<p
   ·exact qvO rfl h4 h.1 h.2 A B hi hq
   ·exact qy6 rfl h4 h.1 h.2 A B hi (by omega)
theorem qhK{e:E}(h:e.good)(hsz:(qap false (e.tx false 1)).length<2 ^ 40):Z tS (.call 234 [e.node] [])=some (.ret (.str (bs (qap false (e.tx false 1)))) []):=by
 have z:=qlA e h 1 1 rfl (by omega) hsz
 generalize bs (qap false (e.tx false 1))=R at *
 refine qac (pf:=F234) rfl rfl ?_
 simp[F234,z]
end
section
open F
def Ss.btx(b:Ss):List ByteArray:=⟨#[123]⟩::(b.tx++[⟨#[125]⟩])
def qjg(b:Ss):Prop:=(∀ t∈b.tx,t.size≠0) /\ ∀ (k n:Int) (s:ByteArray) (f:Bool),(qap false b.btx).length<2 ^ 40->Z tS (.call 248 [.dat (.agg [.lit (.int .i64 k),.lit (.int .i64 n),.lit (.string s),kd f b.fo.len b.fo.cells])] [])=some (.ret (.str (bs (qap false b.btx))) [])
theorem qew{b:Ss}(h : ∀ t∈b.tx,t.size≠0) : ∀ t∈b.btx,t.size≠0:=by
 intro t ht
 rcases Wo.1 ht with rfl|ht
 ·decide
 ·rcases Wp.1 ht with ht|ht
  ·exact h t ht
  ·rw[Wm.1 ht]; decide
theorem qfv{a b:List ByteArray}(ha : ∀ t∈a,t.size≠0)(hb : ∀ t∈b,t.size≠0) : ∀ t∈a++b,t.size≠0:=fun t ht=>by
 rcases Wp.1 ht with h|h
 ·exact ha t h
 ·exact hb t h
theorem qkL{x:ByteArray}(h:x.size≠0) : ∀ t∈[x],t.size≠0:=fun t ht=>by rw[Wm.1 ht]; exact h
theorem qnR : ∀ t∈([]:List ByteArray),t.size≠0:=fun t ht=>by cases ht
theorem qqK {f fb fc:Bool} {s:ByteArray} {e:E} (ge:e.good) {T:List ByteArray} (hT:T=[s]++([⟨#[61]⟩]++(e.tx false 1++([⟨#[59]⟩]++[])))) (hsz:(qap false T).length<2 ^ 40) :
  Z tS (.call 263 [.dat (.agg [.lit (.int .i64 1),.lit (.int .i64 0),.lit (.string s),.sl [.lit (.int .i64 e.kind),.lit (.int .i64 e.num),.lit (.string e.str),e.kids] 1 f])] [])=some (.ret (.str (bs (qap false T))) []):=by
 have q2:(qap false (e.tx false 1)).length<2 ^ 40:=Wu (by
  have:=qar ([s]++([⟨#[61]⟩]++[])) (e.tx false 1) ([⟨#[59]⟩]++[]) false
  simp only[Wf,Wc,Wl] at this
  rw[hT]
  simp only[Wf,Wc,Wl]
  exact this) hsz
 have z2:=qhK ge q2
 obtain⟨R,hR⟩ : ∃ v,v=bs (qap false T):=⟨_,rfl⟩
 have hRs:R.size<2 ^ 40:=by rw[hR,qaw]; exact hsz
 have hP:Parts [s,⟨#[61]⟩,bs (qap false (e.tx false 1)),⟨#[59]⟩] T:=by rw[hT]; exact (.tok (.tok (.sub (qbI false ge 1) (.tok .nil))))
 have za:Z tS (.call 247 [.dat (.sl [.lit (.string s),.lit (.string ⟨#[61]⟩),.lit (.string (bs (qap false (e.tx false 1)))),.lit (.string ⟨#[59]⟩)] 4 true)] [])=some (.ret (.str R) []):=qdz hP hR (by simp) hRs
 generalize bs (qap false (e.tx false 1))=r2 at *
 rw[<- hR]
 refine qac (pf:=F263) rfl rfl ?_
 simp[F263,qaf,z2,za]
theorem qs7 {f fb fc:Bool} {s:ByteArray} {x y:E} (gx:x.good) (gy:y.good) {T:List ByteArray} (hT:T=[s]++([⟨#[91]⟩]++(x.tx false 1++([⟨#[93]⟩]++([⟨#[61]⟩]++(y.tx false 1++([⟨#[59]⟩]++[]))))))) (hsz:(qap false T).length<2 ^ 40) :
  Z tS (.call 263 [.dat (.agg [.lit (.int .i64 2),.lit (.int .i64 0),.lit (.string s),.sl [.lit (.int .i64 x.kind),.lit (.int .i64 x.num),.lit (.string x.str),x.kids,.lit (.int .i64 y.kind),.lit (.int .i64 y.num),.lit (.string y.str),y.kids] 2 f])] [])=some (.ret (.str (bs (qap false T))) []):=by
 have q2:(qap false (x.tx false 1)).length<2 ^ 40:=Wu (by
  have:=qar ([s]++([⟨#[91]⟩]++[])) (x.tx false 1) ([⟨#[93]⟩]++([⟨#[61]⟩]++(y.tx false 1++([⟨#[59]⟩]++[])))) false
  simp only[Wf,Wc,Wl] at this
  rw[hT]
  simp only[Wf,Wc,Wl]
  exact this) hsz
 have z2:=qhK gx q2
 have q5:(qap false (y.tx false 1)).length<2 ^ 40:=Wu (by
  have:=qar ([s]++([⟨#[91]⟩]++(x.tx false 1++([⟨#[93]⟩]++([⟨#[61]⟩]++[]))))) (y.tx false 1) ([⟨#[59]⟩]++[]) false
  simp only[Wf,Wc,Wl] at this
  rw[hT]
  simp only[Wf,Wc,Wl]
  exact this) hsz
 have z5:=qhK gy q5
 obtain⟨R,hR⟩ : ∃ v,v=bs (qap false T):=⟨_,rfl⟩
 have hRs:R.size<2 ^ 40:=by rw[hR,qaw]; exact hsz
 have hP:Parts [s,⟨#[91]⟩,bs (qap false (x.tx false 1)),⟨#[93]⟩,⟨#[61]⟩,bs (qap false (y.tx false 1)),⟨#[59]⟩] T:=by rw[hT]; exact (.tok (.tok (.sub (qbI false gx 1) (.tok (.tok (.sub (qbI false gy 1) (.tok .nil)))))))
 have za:Z tS (.call 247 [.dat (.sl [.lit (.string s),.lit (.string ⟨#[91]⟩),.lit (.string (bs (qap false (x.tx false 1)))),.lit (.string ⟨#[93]⟩),.lit (.string ⟨#[61]⟩),.lit (.string (bs (qap false (y.tx false 1)))),.lit (.string ⟨#[59]⟩)] 7 true)] [])=some (.ret (.str R) []):=qdz hP hR (by simp) hRs
 generalize bs (qap false (x.tx false 1))=r2 at *
 generalize bs (qap false (y.tx false 1))=r5 at *
 rw[<- hR]
 refine qac (pf:=F263) rfl rfl ?_
 simp[F263,qaf,z2,z5,za]
theorem qqL {f fb fc:Bool} {x y:E} (gx:x.good) (gy:y.good) {T:List ByteArray} (hT:T=[⟨#[101,102,102,101,99,116]⟩]++(x.tx false 1++([⟨#[44]⟩]++(y.tx false 1++([⟨#[59]⟩]++[]))))) (hsz:(qap false T).length<2 ^ 40) :
  Z tS (.call 263 [.dat (.agg [.lit (.int .i64 5),.lit (.int .i64 0),.lit (.string ⟨#[]⟩),.sl [.lit (.int .i64 x.kind),.lit (.int .i64 x.num),.lit (.string x.str),x.kids,.lit (.int .i64 y.kind),.lit (.int .i64 y.num),.lit (.string y.str),y.kids] 2 f])] [])=some (.ret (.str (bs (qap false T))) []):=by
 have q1:(qap false (x.tx false 1)).length<2 ^ 40:=Wu (by
  have:=qar ([⟨#[101,102,102,101,99,116]⟩]++[]) (x.tx false 1) ([⟨#[44]⟩]++(y.tx false 1++([⟨#[59]⟩]++[]))) false
  simp only[Wf,Wc,Wl] at this
  rw[hT]
  simp only[Wf,Wc,Wl]
  exact this) hsz
 have z1:=qhK gx q1
 have q3:(qap false (y.tx false 1)).length<2 ^ 40:=Wu (by
  have:=qar ([⟨#[101,102,102,101,99,116]⟩]++(x.tx false 1++([⟨#[44]⟩]++[]))) (y.tx false 1) ([⟨#[59]⟩]++[]) false
  simp only[Wf,Wc,Wl] at this
  rw[hT]
  simp only[Wf,Wc,Wl]
  exact this) hsz
 have z3:=qhK gy q3
 obtain⟨R,hR⟩ : ∃ v,v=bs (qap false T):=⟨_,rfl⟩
 have hRs:R.size<2 ^ 40:=by rw[hR,qaw]; exact hsz
 have hP:Parts [⟨#[101,102,102,101,99,116]⟩,bs (qap false (x.tx false 1)),⟨#[44]⟩,bs (qap false (y.tx false 1)),⟨#[59]⟩] T:=by rw[hT]; exact (.tok (.sub (qbI false gx 1) (.tok (.sub (qbI false gy 1) (.tok .nil)))))
 have za:Z tS (.call 247 [.dat (.sl [.lit (.string ⟨#[101,102,102,101,99,116]⟩),.lit (.string (bs (qap false (x.tx false 1)))),.lit (.string ⟨#[44]⟩),.lit (.string (bs (qap false (y.tx false 1)))),.lit (.string ⟨#[59]⟩)] 5 true)] [])=some (.ret (.str R) []):=qdz hP hR (by simp) hRs
 generalize bs (qap false (x.tx false 1))=r1 at *
 generalize bs (qap false (y.tx false 1))=r3 at *
 rw[<- hR]
 refine qac (pf:=F263) rfl rfl ?_
 simp[F263,qaf,z1,z3,za]
theorem qs8 {f fb fc:Bool} {c:E} {p:Ss} (gc:c.good) (hb:qjg p) {T:List ByteArray} (hT:T=[⟨#[119,104,105,108,101]⟩]++(c.tx false 1++(p.btx++[]))) (hsz:(qap false T).length<2 ^ 40) :
  Z tS (.call 263 [.dat (.agg [.lit (.int .i64 4),.lit (.int .i64 0),.lit (.string ⟨#[]⟩),.sl [.lit (.int .i64 c.kind),.lit (.int .i64 c.num),.lit (.string c.str),c.kids,.lit (.int .i64 7),.lit (.int .i64 0),.lit (.string ⟨#[]⟩),kd fb p.fo.len p.fo.cells] 2 f])] [])=some (.ret (.str (bs (qap false T))) []):=by
 have q1:(qap false (c.tx false 1)).length<2 ^ 40:=Wu (by
  have:=qar ([⟨#[119,104,105,108,101]⟩]++[]) (c.tx false 1) (p.btx++[]) false
  simp only[Wf,Wc,Wl] at this
  rw[hT]
  simp only[Wf,Wc,Wl]
  exact this) hsz
 have z1:=qhK gc q1
 have q2:(qap false (p.btx)).length<2 ^ 40:=Wu (by
  have:=qar ([⟨#[119,104,105,108,101]⟩]++(c.tx false 1++[])) (p.btx) ([]) false
  simp only[Wf,Wc,Wl] at this
  rw[hT]
  simp only[Wf,Wc,Wl]
  exact this) hsz
 have z2:=hb.2 7 0 ⟨#[]⟩ fb q2
 obtain⟨R,hR⟩ : ∃ v,v=bs (qap false T):=⟨_,rfl⟩
 have hRs:R.size<2 ^ 40:=by rw[hR,qaw]; exact hsz
 have hP:Parts [⟨#[119,104,105,108,101]⟩,bs (qap false (c.tx false 1)),bs (qap false (p.btx))] T:=by rw[hT]; exact (.tok (.sub (qbI false gc 1) (.sub (qew hb.1) .nil)))
 have za:Z tS (.call 247 [.dat (.sl [.lit (.string ⟨#[119,104,105,108,101]⟩),.lit (.string (bs (qap false (c.tx false 1)))),.lit (.string (bs (qap false (p.btx))))] 3 true)] [])=some (.ret (.str R) []):=qdz hP hR (by simp) hRs
 generalize bs (qap false (c.tx false 1))=r1 at *
 generalize bs (qap false (p.btx))=r2 at *
 rw[<- hR]
 refine qac (pf:=F263) rfl rfl ?_
 simp[F263,qaf,z1,z2,za]
theorem qzD {f fb fc:Bool} {c:E} {p q:Ss} (gc:c.good) (hb:qjg p) (hq:q.fo.len=0) {T:List ByteArray} (hT:T=[⟨#[105,102]⟩]++(c.tx false 1++(p.btx++[]))) (hsz:(qap false T).length<2 ^ 40) :
  Z tS (.call 263 [.dat (.agg [.lit (.int .i64 3),.lit (.int .i64 0),.lit (.string ⟨#[]⟩),.sl [.lit (.int .i64 c.kind),.lit (.int .i64 c.num),.lit (.string c.str),c.kids,.lit (.int .i64 7),.lit (.int .i64 0),.lit (.string ⟨#[]⟩),kd fb p.fo.len p.fo.cells,.lit (.int .i64 7),.lit (.int .i64 0),.lit (.string ⟨#[]⟩),kd fc q.fo.len q.fo.cells] 3 f])] [])=some (.ret (.str (bs (qap false T))) []):=by
 have q1:(qap false (c.tx false 1)).length<2 ^ 40:=Wu (by
  have:=qar ([⟨#[105,102]⟩]++[]) (c.tx false 1) (p.btx++[]) false
  simp only[Wf,Wc,Wl] at this
  rw[hT]
  simp only[Wf,Wc,Wl]
  exact this) hsz
 have z1:=qhK gc q1
 have q2:(qap false (p.btx)).length<2 ^ 40:=Wu (by
  have:=qar ([⟨#[105,102]⟩]++(c.tx false 1++[])) (p.btx) ([]) false
  simp only[Wf,Wc,Wl] at this
  rw[hT]
  simp only[Wf,Wc,Wl]
  exact this) hsz
 have z2:=hb.2 7 0 ⟨#[]⟩ fb q2
 obtain⟨R,hR⟩ : ∃ v,v=bs (qap false T):=⟨_,rfl⟩
 have hRs:R.size<2 ^ 40:=by rw[hR,qaw]; exact hsz
 have hP:Parts [⟨#[105,102]⟩,bs (qap false (c.tx false 1)),bs (qap false (p.btx))] T:=by rw[hT]; exact (.tok (.sub (qbI false gc 1) (.sub (qew hb.1) .nil)))
 have za:Z tS (.call 247 [.dat (.sl [.lit (.string ⟨#[105,102]⟩),.lit (.string (bs (qap false (c.tx false 1)))),.lit (.string (bs (qap false (p.btx))))] 3 true)] [])=some (.ret (.str R) []):=qdz hP hR (by simp) hRs
 generalize bs (qap false (c.tx false 1))=r1 at *
 generalize bs (qap false (p.btx))=r2 at *
 rw[<- hR]
 have hq1 : ∀ cs,kd fc q.fo.len cs = .lit (.slice none 0 0):=fun cs=>by rw[hq]; rfl
 simp only[hq1]
 refine qac (pf:=F263) rfl rfl ?_
 simp[F263,qaf,z1,z2,za,qcF]
theorem qzE {f fb fc:Bool} {c:E} {p q:Ss} (gc:c.good) (hb:qjg p) (hq:0<q.fo.len) (hd:qjg q) {T:List ByteArray} (hT:T=[⟨#[105,102]⟩]++(c.tx false 1++(p.btx++([⟨#[101,108,115,101]⟩]++(q.btx++[]))))) (hsz:(qap false T).length<2 ^ 40) :
  Z tS (.call 263 [.dat (.agg [.lit (.int .i64 3),.lit (.int .i64 0),.lit (.string ⟨#[]⟩),.sl [.lit (.int .i64 c.kind),.lit (.int .i64 c.num),.lit (.string c.str),c.kids,.lit (.int .i64 7),.lit (.int .i64 0),.lit (.string ⟨#[]⟩),kd fb p.fo.len p.fo.cells,.lit (.int .i64 7),.lit (.int .i64 0),.lit (.string ⟨#[]⟩),kd fc q.fo.len q.fo.cells] 3 f])] [])=some (.ret (.str (bs (qap false T))) []):=by
 have q1:(qap false (c.tx false 1)).length<2 ^ 40:=Wu (by
  have:=qar ([⟨#[105,102]⟩]++[]) (c.tx false 1) (p.btx++([⟨#[101,108,115,101]⟩]++(q.btx++[]))) false
  simp only[Wf,Wc,Wl] at this
  rw[hT]
  simp only[Wf,Wc,Wl]
  exact this) hsz
 have z1:=qhK gc q1
 have q2:(qap false (p.btx)).length<2 ^ 40:=Wu (by
  have:=qar ([⟨#[105,102]⟩]++(c.tx false 1++[])) (p.btx) ([⟨#[101,108,115,101]⟩]++(q.btx++[])) false
  simp only[Wf,Wc,Wl] at this
  rw[hT]
  simp only[Wf,Wc,Wl]
  exact this) hsz
 have z2:=hb.2 7 0 ⟨#[]⟩ fb q2
 have q4:(qap false (q.btx)).length<2 ^ 40:=Wu (by
  have:=qar ([⟨#[105,102]⟩]++(c.tx false 1++(p.btx++([⟨#[101,108,115,101]⟩]++[])))) (q.btx) ([]) false
  simp only[Wf,Wc,Wl] at this
  rw[hT]
  simp only[Wf,Wc,Wl]
  exact this) hsz
 have z4:=hd.2 7 0 ⟨#[]⟩ fc q4
 obtain⟨R,hR⟩ : ∃ v,v=bs (qap false T):=⟨_,rfl⟩
 have hRs:R.size<2 ^ 40:=by rw[hR,qaw]; exact hsz
 obtain⟨T1,hT1⟩ : ∃ v,v=[⟨#[105,102]⟩]++(c.tx false 1++(p.btx++[])):=⟨_,rfl⟩
 have hT2:T=T1++([⟨#[101,108,115,101]⟩]++(q.btx++[])):=by rw[hT,hT1]; simp only[Wf,Wc,Wl]
 have s1:(qap false T1).length<2 ^ 40:=Wu (by
  have:=qar [] T1 ([⟨#[101,108,115,101]⟩]++(q.btx++[])) false
  rw[Wc] at this
  rw[hT2]
  exact this) hsz
 obtain⟨R1,hR1⟩ : ∃ v,v=bs (qap false T1):=⟨_,rfl⟩
 have hR1s:R1.size<2 ^ 40:=by rw[hR1,qaw]; exact s1
 have n1 : ∀ t∈T1,t.size≠0:=by
  rw[hT1]
  exact qfv (qkL (by decide)) (qfv (qbI false gc 1) (qfv (qew hb.1) qnR))
 have hP1:Parts [⟨#[105,102]⟩,bs (qap false (c.tx false 1)),bs (qap false (p.btx))] T1:=by rw[hT1]; exact (.tok (.sub (qbI false gc 1) (.sub (qew hb.1) .nil)))
 have za:Z tS (.call 247 [.dat (.sl [.lit (.string ⟨#[105,102]⟩),.lit (.string (bs (qap false (c.tx false 1)))),.lit (.string (bs (qap false (p.btx))))] 3 true)] [])=some (.ret (.str R1) []):=qdz hP1 hR1 (by simp) hR1s
 have hP2:Parts [R1,⟨#[101,108,115,101]⟩,bs (qap false (q.btx))] T:=by rw[hT2,hR1]; exact .sub n1 (.tok (.sub (qew hd.1) .nil))
 have zb:Z tS (.call 247 [.dat (.sl [.lit (.string R1),.lit (.string ⟨#[101,108,115,101]⟩),.lit (.string (bs (qap false (q.btx))))] 3 true)] [])=some (.ret (.str R) []):=qdz hP2 hR (by simp) hRs
 generalize bs (qap false (c.tx false 1))=r1 at *
 generalize bs (qap false (p.btx))=r2 at *
 generalize bs (qap false (q.btx))=r4 at *
 rw[<- hR]
 have hq1:(0:Int)<q.fo.len:=by omega
 refine qac (pf:=F263) rfl rfl ?_
 simp[F263,qaf,z1,z2,z4,za,zb,hq1,hq]
theorem qwA {d:D} (hd:V.one (.dat d)=true) (hcl:V.cells (.dat d)=[.dat d]) :
  Z tS (.call 263 [.dat (.agg [.lit (.int .i64 6),.lit (.int .i64 0),.lit (.string ⟨#[]⟩),d])] [])=some (.ret (.str (bs (qap false [⟨#[115,116,111,112]⟩,⟨#[59]⟩]))) []):=by
 have e:bs (qap false [⟨#[115,116,111,112]⟩,⟨#[59]⟩])=⟨#[115,116,111,112,59]⟩:=by decide
 rw[e]
 refine qac (pf:=F263) rfl rfl ?_
 simp[F263,hd,hcl]
end
section
open F
abbrev sbF(s:ByteArray)(i:Int)(ex:Fr):Fr:=(1,.ptr 0 0)::(3,.str s)::(4,.int i)::ex
abbrev sbS(k n:Int)(s:ByteArray)(d:D):S:=[.cells [.int k,.int n,.str s,.dat d]]
def quZ(s:Ss):Prop := ∀ (cs:List D) (m i:Nat) (f:Bool) (k n:Int) (t:ByteArray) w w',cs.drop (i*4)=s.fo.cells->i+s.fo.len=m->m<2 ^ 40->w'=pw w s.tx->w'.length<2 ^ 40 ->
 Z tS (.loop 0 F248l0 (sbF (bs w) i []) (sbS k n t (.sl cs m f)))=some (.out (.exit 0) (sbF (bs w') m [(9,.bool false)]) (sbS k n t (.sl cs m f)))
def qye:Ss->Prop
 |.block _ b r=>qjg b/\qye r
 |_=>True
theorem qyf {cs:List D} {m i:Nat} {f:Bool} {k0 n0:Int} {s0:ByteArray} {w w1:List UInt8} {T:List ByteArray} {k n:Int} {s:ByteArray} {d:D} {rest:List D} (hd:cs.drop (i*4) = .lit (.int .i64 k) :: .lit (.int .i64 n) :: .lit (.string s)::d::rest)
  (h1:V.one (.dat d)=true) (hcl:V.cells (.dat d)=[.dat d]) (hi:i<m) (hm:m<2 ^ 40) (hT : ∀ t∈T,t.size≠0) (hw:w1=pw w T) (hsz:w1.length<2 ^ 40)
  (zs:Z tS (.call 263 [.dat (.agg [.lit (.int .i64 k),.lit (.int .i64 n),.lit (.string s),d])] [])=some (.ret (.str (bs (qap false T))) []))
  {r:Res} (zr:Z tS (.loop 0 F248l0 (sbF (bs w1) ((i+1:Nat):Int) []) (sbS k0 n0 s0 (.sl cs m f)))=some r) :
  Z tS (.loop 0 F248l0 (sbF (bs w) i []) (sbS k0 n0 s0 (.sl cs m f)))=some r:=by
 have hc:=qx2 hd
 have hlt:(i:Int)<m:=by omega
 have w1':IntKind.i64.wrap ((i:Int)+1)=((i+1:Nat):Int):=by rw[qai _ (by omega)]; omega
 have hle:=qgv T (wl w)
 have zj:=quR (bs w) (bs (qap false T)) (by
  rw[qaw,qaw]
  have:=congrArg List.length hw
  simp only[pw,Wb] at this
  omega)
 rw[qbp,quS w hT,<- hw] at zj
 rw[<- zr]
 conv=>lhs; rw[qaa]
 generalize ((i+1:Nat):Int)=i1 at *
 generalize bs (qap false T)=R at *
 generalize bs w1=W1 at *
 generalize bs w=W0 at *
 simp[qab,qho,qaf,V.len,hc,h1,hcl,hlt,hi,zs,zj,w1',Wa]
theorem qnf{b:Ss}(hg:b.good none)(hl:quZ b):qjg b:=by
 have htg:=qj1 (qhW b none hg).ok
 have hnz : ∀ t∈b.tx,t.size≠0:=fun t ht=>qfx (htg t ht)
 refine⟨hnz,?_⟩
 intro k n s f hsz
 obtain⟨w2,e2⟩ : ∃ v,v=pw [123] b.tx:=⟨_,rfl⟩
 have e3:qap false b.btx=w2++[125]:=by
  rw[<- qdZ,Ss.btx,qcq,qav,e2]
  show pw (pw ([]++(gap (wl []) ⟨#[123]⟩++byl ⟨#[123]⟩)) b.tx) [⟨#[125]⟩]=_
  rw[show ([]++(gap (wl []) ⟨#[123]⟩++byl ⟨#[123]⟩):List UInt8)=[123] by decide,qcq,qdO]
  have : ∀ q,gap q ⟨#[125]⟩=[]:=fun q=>by cases q<;>decide
  rw[this]
  rfl
 rw[e3] at hsz ⊢
 have s2:w2.length<2 ^ 40:=by rw[Wb] at hsz; omega
 have hb:b.fo.len<2 ^ 40:=by
  have h1:=qey b hg
  have h2:=qhj b.tx (wl [123]) hnz
  have h3:=congrArg List.length e2
  simp only[pw,Wb] at h3
  omega
 have hr:bs (w2++[125])=bs w2++⟨#[125]⟩:=(quQ w2 [125]).symm
 have hsz2 : ¬ (9223372036854775807:Int)<((bs w2).size:Int)+1:=by rw[qaw]; omega
 have y1:((⟨#[125]⟩:ByteArray).size:Int)=1:=rfl
 have y2:(⟨#[125]⟩:ByteArray).size=1:=rfl
 have z0:(⟨#[123]⟩:ByteArray)=bs [123]:=rfl
 rw[hr]
 refine qac (pf:=F248) rfl rfl ?_
 cases hbl:b.fo.len with
 |zero=>
  have hn:=qej hbl
  subst hn
  have:w2=[123]:=by rw[e2]; exact qdO _
  subst this
  have y3:((⟨#[123]⟩:ByteArray).size:Int)=1:=rfl
  simp[F248,V.len,qaa,qab,qho,Wa,bs,y1,y2,y3]
 |succ q=>
  have z2:=hl b.fo.cells (q+1) 0 f k n s [123] w2 (by simp) (by omega) (by omega) e2 s2
  have hk:kd f (q+1) b.fo.cells = .sl b.fo.cells (q+1) f:=rfl
  rw[hk]
  simp only[sbF,sbS,Wt,<- z0] at z2
  generalize q+1=M at *
  generalize bs w2=W2 at *
  simp[F248,z2,Wa,y1,y2,hsz2]
theorem qu0 {S r:Ss} {T:List ByteArray} (htx:S.tx=T++r.tx) (hnz : ∀ t∈S.tx,t.size≠0) {cs:List D} {m i:Nat} {f:Bool} {k0 n0:Int} {s0:ByteArray} {w w':List UInt8} {k n:Int} {s:ByteArray} {d:D}
  (hd:cs.drop (i*4) = .lit (.int .i64 k) :: .lit (.int .i64 n) :: .lit (.string s)::d::r.fo.cells) (h1:V.one (.dat d)=true) (hcl:V.cells (.dat d)=[.dat d]) (hm:i+(r.fo.len+1)=m) (hm2:m<2 ^ 40) (hw:w'=pw w S.tx) (hs:w'.length<2 ^ 40)
  (zs:(qap false T).length<2 ^ 40->Z tS (.call 263 [.dat (.agg [.lit (.int .i64 k),.lit (.int .i64 n),.lit (.string s),d])] [])=some (.ret (.str (bs (qap false T))) [])) (ihr:quZ r) :
  Z tS (.loop 0 F248l0 (sbF (bs w) i []) (sbS k0 n0 s0 (.sl cs m f)))=some (.out (.exit 0) (sbF (bs w') m [(9,.bool false)]) (sbS k0 n0 s0 (.sl cs m f))):=by
 obtain⟨w1,e1⟩ : ∃ v,v=pw w T:=⟨_,rfl⟩
 have e2:w'=pw w1 r.tx:=by rw[hw,htx,qav,e1]
 have s1:w1.length<2 ^ 40:=Wu (by rw[e2]; exact qjP _ _) hs
 have hle:=qgv T (wl w)
 have sT:(qap false T).length<2 ^ 40:=by
  have:=congrArg List.length e1
  simp only[pw,Wb] at this
  omega
 have nT : ∀ t∈T,t.size≠0:=fun t ht=>hnz t (by rw[htx]; exact Yr _ ht)
 exact qyf hd h1 hcl (by omega) hm2 nT e1 s1 (zs sT) (ihr cs m (i+1) f k0 n0 s0 w1 w' (qa9 hd) (by omega) hm2 e2 hs)
theorem qyg : ∀ s:Ss,(s.good none->quZ s)/\((∃ k,s.good (some k))->qye s):=by
 intro s
 have nz : ∀ s:Ss,s.good none -> ∀ t∈s.tx,t.size≠0:=fun s h t ht=>qfx (qj1 (qhW s none h).ok t ht)
 induction s with
 |nil=>
  refine⟨fun _ cs m i f k0 n0 s0 w w' hd hm hm2 hw hs=>?_,fun _=>trivial⟩
  rw[Ss.tx,qdO] at hw
  subst hw
  have:i=m:=by simpa [Ss.fo] using hm
  subst this
  simp only[sbF,sbS]
  rw[qaa]
  simp[qab,qho,V.len,Wa]
 |assign g s e r ih=>
  refine⟨fun h cs m i f k0 n0 s0 w w' hd hm hm2 hw hs=>?_,fun _=>trivial⟩
  have hz:=nz _ h
  obtain⟨_,hn,he,hr⟩:=h
  simp only[Ss.fo,qan,qfM,qaA,qaO,qij,qcN,qaI] at hd hm
  exact qu0 (S := .assign g s e r) (T:=[s]++([⟨#[61]⟩]++(e.tx false 1++([⟨#[59]⟩]++[])))) (by simp only[Ss.tx,Wg,Wc,Wl,Wf]; rfl) hz hd rfl rfl (by omega) hm2 hw hs (qqK (fb:=false) (fc:=false) he (by simp only[Wf,Wl,Wg,Wc])) (ih.1 hr)
 |store g s a b r ih=>
  refine⟨fun h cs m i f k0 n0 s0 w w' hd hm hm2 hw hs=>?_,fun _=>trivial⟩
  have hz:=nz _ h
  obtain⟨_,hn,ha,hb,hr⟩:=h
  simp only[Ss.fo,qan,qfM,qaA,qaO,qij,qcN,qaI] at hd hm
  exact qu0 (S := .store g s a b r) (T:=[s]++([⟨#[91]⟩]++(a.tx false 1++([⟨#[93]⟩]++([⟨#[61]⟩]++(b.tx false 1++([⟨#[59]⟩]++[]))))))) (by simp only[Ss.tx,Wg,Wc,Wl,Wf]; rfl) hz hd rfl rfl (by omega) hm2 hw hs (qs7 (fb:=false) (fc:=false) ha hb (by simp only[Wf,Wl,Wg,Wc])) (ih.1 hr)
 |effect g a b r ih=>
  refine⟨fun h cs m i f k0 n0 s0 w w' hd hm hm2 hw hs=>?_,fun _=>trivial⟩
  have hz:=nz _ h
  obtain⟨_,ha,hb,hr⟩:=h
  simp only[Ss.fo,qan,qfM,qaA,qaO,qij,qcN,qaI] at hd hm
  exact qu0 (S := .effect g a b r) (T:=[⟨#[101,102,102,101,99,116]⟩]++(a.tx false 1++([⟨#[44]⟩]++(b.tx false 1++([⟨#[59]⟩]++[]))))) (by simp only[Ss.tx,Wg,Wc,Wl,Wf]; rfl) hz hd rfl rfl (by omega) hm2 hw hs (qqL (fb:=false) (fc:=false) ha hb (by simp only[Wf,Wl,Wg,Wc])) (ih.1 hr)
 |stop r ih=>
  refine⟨fun h cs m i f k0 n0 s0 w w' hd hm hm2 hw hs=>?_,fun _=>trivial⟩
  have hz:=nz _ h
  obtain⟨_,hr⟩:=h
  simp only[Ss.fo,qan,qaA,qaO,qaI,qz9] at hd hm
  exact qu0 (S := .stop r) (T:=[⟨#[115,116,111,112]⟩,⟨#[59]⟩]) rfl hz hd rfl rfl (by omega) hm2 hw hs (fun _=>qwA rfl rfl) (ih.1 hr)
 |cond w0 g c b r ihb ih=>
  refine⟨fun h cs m i f k0 n0 s0 w w' hd hm hm2 hw hs=>?_,fun _=>trivial⟩
  have hz:=nz _ h
  obtain⟨_,hc,hb,hr⟩:=h
  cases w0 with
  |true=>
   obtain⟨fb,b1,rfl,hb1⟩:=qmX hb
   have hrow:=ihb.2 ⟨1,hb⟩
   simp only[Ss.fo,qan,qfM,qaA,qaO,qij,qcN,qaI,if_true] at hd hm
   exact qu0 (S := .cond true g c (.block fb b1 .nil) r) (T:=[⟨#[119,104,105,108,101]⟩]++(c.tx false 1++b1.btx)) (by simp only[Ss.tx,Ss.btx,Wg,Wc,Wl,Wf,qfD,if_true,Wn,if_false]; rfl) hz hd rfl rfl (by omega) hm2 hw hs (qs8 (fc:=false) hc hrow.1 (by simp only[Wf,Wl,Wg,Wc])) (ih.1 hr)
  |false=>
   obtain⟨fb,b1,fc,b2,rfl,hb1,hb2⟩:=qra hb
   have hrow:=ihb.2 ⟨2,hb⟩
   simp only[Ss.fo,qan,qfM,qaA,qaO,qij,qcN,qaI,Wn,if_false] at hd hm
   cases hl:b2.fo.len with
   |zero=>
    have hn:=qej hl
    exact qu0 (S := .cond false g c (.block fb b1 (.block fc b2 .nil)) r) (T:=[⟨#[105,102]⟩]++(c.tx false 1++b1.btx)) (by rw[hn]; simp only[Ss.tx,Ss.btx,Wg,Wc,Wl,Wf,qfD,if_true,Wn,if_false]; rfl) hz hd rfl rfl (by omega) hm2 hw hs (qzD hc hrow.1 hl (by simp only[Wf,Wl,Wg,Wc])) (ih.1 hr)
   |succ q=>
    have he:qfD (.block fc b2 .nil)=true:=by cases b2<;>first|rfl|simp[Ss.fo] at hl
    exact qu0 (S := .cond false g c (.block fb b1 (.block fc b2 .nil)) r) (T:=[⟨#[105,102]⟩]++(c.tx false 1++(b1.btx++([⟨#[101,108,115,101]⟩]++b2.btx)))) (by simp only[Ss.tx,Ss.btx,he,Wg,Wc,Wl,Wf,if_true,Wn,if_false]; rfl) hz hd rfl rfl (by omega) hm2 hw hs (qzE hc hrow.1 (by omega) hrow.2.1 (by simp only[Wf,Wl,Wg,Wc])) (ih.1 hr)
 |block g b r ihb ih=>
  refine⟨fun h=>?_,fun ⟨k,h⟩=>?_⟩
  ·obtain⟨n,hn,_⟩:=h; cases hn
  ·obtain⟨n,hn,hb,hr⟩:=h
   exact⟨qnf hb (ihb.1 hb),ih.2 ⟨n,hr⟩⟩
end
section
open F
abbrev hnD:V := .dat (.sl [.lit (.string ⟨#[97,99,116]⟩),.lit (.string ⟨#[116,105,99,107]⟩),.lit (.string ⟨#[104,105,116]⟩)] 3 true)
theorem qmA:Z tS (.call 152 [] [])=some (.ret hnD []):=by
 refine qac (pf:=F152) rfl rfl ?_
 simp[F152]
theorem qy0:bs (qap false [])=⟨#[]⟩:=rfl
theorem qvL {T T':List ByteArray} {t:ByteArray} {b:Ss} {R R' Q:ByteArray} (hb:qjg b) (hT : ∀ x∈T,x.size≠0) (hR:R=bs (qap false T)) (hQ:Q=bs (qap false b.btx)) (hT':T'=T++(⟨#[111,110]⟩::t::b.btx)) (hR':R'=bs (qap false T')) (hs:R'.size<2 ^ 40) :
  Z tS (.call 247 [.dat (.sl [.lit (.string R),.lit (.string ⟨#[111,110]⟩),.lit (.string t),.lit (.string Q)] 4 true)] [])=some (.ret (.str R') []):=by
 have hP:Parts [R,⟨#[111,110]⟩,t,Q] T':=by
  rw[hR,hQ,hT']
  have:=Parts.sub hT (.tok (t:=⟨#[111,110]⟩) (.tok (t:=t) (.sub (qew hb.1) .nil)))
  rw[Wl] at this
  exact this
 exact qdz hP hR' (by simp) hs
theorem qoS{T:List ByteArray}{t:ByteArray}{b:Ss}(hT : ∀ x∈T,x.size≠0)(ht:t.size≠0)(hb:qjg b) : ∀ x∈T++(⟨#[111,110]⟩::t::b.btx),x.size≠0:=
 qfv hT (qfv (a:=[⟨#[111,110]⟩,t]) (qfv (a:=[⟨#[111,110]⟩]) (qkL (by decide)) (qkL ht)) (qew hb.1))
theorem qmB {A B C:Nd} {i:Nat} (hi:i<3) {g:Hd} (hX:(if i=0 then A else if i=1 then B else C)=g.nd) (hb : ∀ s,g.opt=some s->qjg s) {T T':List ByteArray} (hT : ∀ x∈T,x.size≠0) (hT':T'=T++qfC i g.opt) (hs:(qap false T').length<2 ^ 40) :
  (∀ x∈T',x.size≠0)/\Z tS (.loop 0 F236l0 [(1,.ptr 0 0),(3,.str (bs (qap false T))),(4,.int i)] [qgP A B C])=Z tS (.loop 0 F236l0 [(1,.ptr 0 0),(3,.str (bs (qap false T'))),(4,.int ((i+1:Nat):Int))] [qgP A B C]):=by
 have zh:=qmA
 cases g with
 |none=>
  obtain rfl:T'=T:=by rw[hT']; exact Wl T
  refine⟨hT,?_⟩
  generalize bs (qap false T')=R at *
  conv=>lhs; rw[qaa]
  obtain rfl|rfl|rfl:i=0\/i=1\/i=2:=by omega
  all_goals
   first | (have hX:A=_:=hX; subst hX) | (have hX:B=_:=hX; subst hX) | (have hX:C=_:=hX; subst hX)
   simp[qab,qhn,qgP,Nd.d,Hd.k,Hd.f,Hd.ks,Wa,show IntKind.i64.wrap 1=1 from rfl,show IntKind.i64.wrap 2=2 from rfl,show IntKind.i64.wrap 3=3 from rfl]
 |some f b=>
  have hbb:=hb b rfl
  have hn:T'=T++(⟨#[111,110]⟩::qcW i::b.btx):=hT'
  have q:(qap false b.btx).length<2 ^ 40:=Wu (by
   have:=qar (T++[⟨#[111,110]⟩,qcW i]) b.btx [] false
   rw[Wl,Wf] at this
   rw[hn]
   exact this) hs
  have z:=hbb.2 7 0 ⟨#[]⟩ f q
  have hsz:(qcW i).size≠0:=by
   obtain rfl|rfl|rfl:i=0\/i=1\/i=2:=by omega
   all_goals decide
  refine⟨by rw[hn]; exact qoS hT hsz hbb,?_⟩
  have y:=qvL (t:=qcW i) hbb hT rfl rfl hn rfl (by rw[qaw]; exact hs)
  generalize bs (qap false b.btx)=Q at *
  generalize bs (qap false T)=R at *
  generalize bs (qap false T')=R' at *
  conv=>lhs; rw[qaa]
  obtain rfl|rfl|rfl:i=0\/i=1\/i=2:=by omega
  all_goals
   first | (have hX:A=_:=hX; subst hX) | (have hX:B=_:=hX; subst hX) | (have hX:C=_:=hX; subst hX)
   simp only[qcW,qiR,qi3,bs] at y
   simp[qab,qhn,qgP,Nd.d,Hd.k,Hd.f,Hd.ks,zh,z,y,qaf,Wa,show IntKind.i64.wrap 1=1 from rfl,show IntKind.i64.wrap 2=2 from rfl,show IntKind.i64.wrap 3=3 from rfl]
theorem qsx {a b c:Hd} (hg : ∀ k,qdC (Hd.opts a b c k)) (hsz:(qap false (qaY (Hd.opts a b c))).length<2 ^ 40) :
  Z tS (.call 236 [.dat (ru a.nd b.nd c.nd)] [])=some (.ret (.str (bs (qap false (qaY (Hd.opts a b c))))) []):=by
 have hb : ∀ {s:Ss} (k:Nat),Hd.opts a b c k=some s->qjg s:=fun k h=>qnf ((hg k) _ h).1 ((qyg _).1 ((hg k) _ h).1)
 have e:qaY (Hd.opts a b c)=(qfC 0 a.opt++qfC 1 b.opt)++qfC 2 c.opt:=by rw[Wf]; rfl
 have l2:=qar [] (qfC 0 a.opt++qfC 1 b.opt) (qfC 2 c.opt) false
 have l1:=qar [] (qfC 0 a.opt) (qfC 1 b.opt) false
 rw[Wc] at l1 l2
 rw[<- e] at l2
 obtain⟨t1,y1⟩:=qmB (A:=a.nd) (B:=b.nd) (C:=c.nd) (i:=0) (by omega) (g:=a) rfl (fun s h=>hb 0 h) (T:=[]) (T':=qfC 0 a.opt) qnR rfl (by omega)
 obtain⟨t2,y2⟩:=qmB (A:=a.nd) (B:=b.nd) (C:=c.nd) (i:=1) (by omega) (g:=b) rfl (fun s h=>hb 1 h) t1 rfl (by omega)
 obtain⟨t3,y3⟩:=qmB (A:=a.nd) (B:=b.nd) (C:=c.nd) (i:=2) (by omega) (g:=c) rfl (fun s h=>hb 2 h) t2 rfl (by rw[<- e]; exact hsz)
 rw[<- e] at y3
 have y:=y1.trans (y2.trans y3)
 generalize bs (qap false (qaY (Hd.opts a b c)))=R at *
 have y4:Z tS (.loop 0 F236l0 [(1,.ptr 0 0),(3,.str R),(4,.int ((2+1:Nat):Int))] [qgP a.nd b.nd c.nd])=some (.out (.exit 0) [(1,.ptr 0 0),(3,.str R),(4,.int 3),(6,.bool false)] [qgP a.nd b.nd c.nd]):=by
  rw[qaa]
  simp[qab,qhn]
 have y:=y.trans y4
 rw[qy0] at y
 clear y1 y2 y3 y4 hb
 generalize a.nd=A at *
 generalize b.nd=B at *
 generalize c.nd=C at *
 simp only[Wt,qgP] at y
 refine qac (pf:=F236) rfl rfl ?_
 simp[F236,ru,y,Wa]
end
end Go.Pm
section
namespace Go.Pm.F
def tP:Nat->Option PFun
 |228=>some F228
 |239=>some F239
 |240=>some F240
 |241=>some F241
 |242=>some F242
 |249=>some F249
 |250=>some F250
 |251=>some F251
 |252=>some F252
 |253=>some F253
 |254=>some F254
 |255=>some F255
 |256=>some F256
 |264=>some F264
 |265=>some F265
 |266=>some F266
 |267=>some F267
 |268=>some F268
 |269=>some F269
 |270=>some F270
 |271=>some F271
 |275=>some F275
 |276=>some F276
 |277=>some F277
 |278=>some F278
 |279=>some F279
 |280=>some F280
 |281=>some F281
 |284=>some F284
 |285=>some F285
 |286=>some F286
 |287=>some F287
 |289=>some F289
 |290=>some F290
 |292=>some F292
 |297=>some F297
 |303=>some F303
 |304=>some F304
 |307=>some F307
 |308=>some F308
 |309=>some F309
 |_=>none
end Go.Pm.F
end
namespace Go.Pm
section
open F
theorem qeX(c:UInt8):Z tP (.call 264 [.dat (.lit (.int .u8 c.toNat))] [])=some (.ret (.bool (qaQ c)) []):=by
 refine qac (pf:=F264) rfl rfl ?_
 by_cases h1:(97:Int)<=c.toNat
 ·have h1':97<=c.toNat:=by omega
  by_cases h2:(c.toNat:Int)<=122
  ·have h2':c.toNat<=122:=by omega
   simp[F264,qaQ,h1,h1',h2,h2']
  ·have h2' : ¬ c.toNat<=122:=by omega
   simp[F264,qaQ,h1,h1',h2,h2']
 ·have h1' : ¬ 97<=c.toNat:=by omega
  simp[F264,qaQ,h1,h1']
theorem qgx(c:UInt8):Z tP (.call 266 [.dat (.lit (.int .u8 c.toNat))] [])=some (.ret (.bool (qaq c)) []):=by
 refine qac (pf:=F266) rfl rfl ?_
 by_cases h1:(48:Int)<=c.toNat
 ·have h1':48<=c.toNat:=by omega
  by_cases h2:(c.toNat:Int)<=57
  ·have h2':c.toNat<=57:=by omega
   simp[F266,qaq,h1,h1',h2,h2']
  ·have h2' : ¬ c.toNat<=57:=by omega
   simp[F266,qaq,h1,h1',h2,h2']
 ·have h1' : ¬ 48<=c.toNat:=by omega
  simp[F266,qaq,h1,h1']
theorem qqo {d:D} {l:List ByteArray} (hd:RowS d l) (hl:l.length<2 ^ 40) (x:ByteArray) : ∀ (m i:Nat),i+m=l.length ->
  (x∉l.drop i->Z tP (.loop 0 F284l0 [(0,.dat d),(1,.str x),(7,.int l.length),(8,.int i)] [])=some (.out (.exit 0) [(0,.dat d),(1,.str x),(7,.int l.length),(8,.int l.length),(9,.bool false)] [])) /\
  (x∈l.drop i -> ∃ (j:Nat),Z tP (.loop 0 F284l0 [(0,.dat d),(1,.str x),(7,.int l.length),(8,.int i)] [])=some (.out .ret [(4,.int j)] []))
 |0,i,hi=>by
  obtain rfl:i=l.length:=by omega
  have ho:=hd.one
  have hc:=hd.cells
  refine⟨fun _=>?_,fun h=>by simp at h⟩
  rw[qaa]
  simp[qab,qfo,ho,hc]
 |m+1,i,hi=>by
  have hlt:i<l.length:=by omega
  have hlt':(i:Int)<l.length:=by omega
  have ho:=hd.one
  have hcl:=hd.cells
  have ha:=hd.at_ i hlt
  have hc:=qeA l i hlt
  have w1:=qai ((i:Int)+1) (by omega)
  have hdr:l.drop i=l[i]::l.drop (i+1):=Ww hlt
  obtain⟨ih1,ih2⟩:=qqo hd hl x m (i+1) (by omega)
  simp only[WE,Wt] at ih1 ih2
  rw[hdr]
  generalize l[i]=y at hc ⊢
  by_cases hx:x=y
  ·subst hx
   refine⟨fun h=>absurd (WO ..) h,fun _=>⟨i,?_⟩⟩
   rw[qaa]
   simp[qab,qfo,hlt',ha,hc,qaT,ho,hcl]
  ·refine⟨fun h=>?_,fun h=>?_⟩
   ·have z:=ih1 (fun h'=>h (WA _ h'))
    rw[qaa]
    simp[qab,qfo,hlt',ha,hc,qaT,hx,w1,z,ho,hcl]
   ·rcases Wo.1 h with h|h
    ·exact absurd h hx
    ·obtain⟨j,z⟩:=ih2 h
     refine⟨j,?_⟩
     rw[qaa]
     simp[qab,qfo,hlt',ha,hc,qaT,hx,w1,z,ho,hcl]
theorem qoW{d:D}{l:List ByteArray}(hd:RowS d l)(hl:l.length<2 ^ 40)(x:ByteArray):Z tP (.call 276 [.dat d,.str x] [])=some (.ret (.bool (decide (x∈l))) []):=by
 have ho:=hd.one
 have hc:=hd.cells
 have hn:=hd.len
 obtain⟨i1,i2⟩:=qqo hd hl x l.length 0 (by omega)
 simp only[Yo,WJ] at i1 i2
 by_cases h:x∈l
 ·obtain⟨j,z⟩:=i2 h
  have z2:Z tP (.call 284 [.dat d,.str x] [])=some (.ret (.int j) []):=by
   refine qac (pf:=F284) rfl rfl ?_
   simp[F284,ho,hc,hn,z]
  have hj:(0:Int)<=j:=by omega
  refine qac (pf:=F276) rfl rfl ?_
  simp[F276,ho,hc,z2,h,hj]
 ·have z:=i1 h
  have z2:Z tP (.call 284 [.dat d,.str x] [])=some (.ret (.int (-1)) []):=by
   refine qac (pf:=F284) rfl rfl ?_
   simp[F284,ho,hc,hn,z]
  refine qac (pf:=F276) rfl rfl ?_
  simp[F276,ho,hc,z2,h]
end
section
open F
def kwL:List (List UInt8 × Int):=[([111,110],2),([97,99,116],2),([116,105,99,107],2),([105,102],2),([101,108,115,101],2),([119,104,105,108,101],2),([101,102,102,101,99,116],2),([115,116,111,112],2),([116,114,117,101],2),([102,97,108,115,101],2),([115,101,108,102],2),([111,116,104,101,114],2),([120],3),([121],3),([118,120],3),([118,121],3),([97],3),([98],3),([104,105,116],3),([115,116,105,108,108],3)]
def kwM:List (Value × V):=kwL.map fun x=>(.string ⟨x.1.toArray⟩,.int x.2)
theorem qoA(s:ByteArray):Z tP (.call 239 [.str s] [])=some (.ret (.agg [.str s,.mp 0]) [.map kwM]):=by
 exact qmf (n:=2) (by kernel_rfl)
theorem qvb(w:ByteArray):qd9 .s (.string w) kwM=some (if w∈fieldNames then some (.int 3) else if w∈wordNames then some (.int 2) else none):=by
 have key : ∀ (l:List (List UInt8 × Int)),qd9 .s (.string w) (l.map fun x=>(Value.string ⟨x.1.toArray⟩,V.int x.2))=some ((l.find? fun x=>decide (bs x.1=w)).map fun x => .int x.2):=fun l=>by
  induction l with
  |nil=>rfl
  |cons x l ih=>
   simp only[Wv,qd9,qb6,ih,List.find?_cons]
   by_cases h:bs x.1=w
   ·have h':(w==(⟨x.1.toArray⟩:ByteArray))=true:=by rw[beq_iff_eq]; exact h.symm
    have h2:((⟨x.1.toArray⟩:ByteArray)==w)=true:=by rw[beq_iff_eq]; exact h
    simp[h,h',h2]
   ·have h':(w==(⟨x.1.toArray⟩:ByteArray))=false:=by rw[beq_eq_false_iff_ne]; exact fun e=>h e.symm
    have h2:((⟨x.1.toArray⟩:ByteArray)==w)=false:=by rw[beq_eq_false_iff_ne]; exact h
    simp[h,h',h2]
 rw[kwM,key]
 congr 1
 by_cases h1:w∈fieldNames
 ·rw[if_pos h1]
  simp only[fieldNames,Wo,Wx,or_false] at h1
  rcases h1 with rfl|rfl|rfl|rfl|rfl|rfl|rfl|rfl<;>rfl
 rw[if_neg h1]
 by_cases h2:w∈wordNames
 ·rw[if_pos h2]
  have hne:w≠qi3:=fun e=>h1 (by rw[e]; decide)
  simp only[wordNames,Wo,Wx,or_false] at h2
  rcases h2 with rfl|rfl|rfl|h2|rfl|rfl|rfl|rfl|rfl|rfl|rfl|rfl|rfl
  case inr.inr.inr.inl=>exact absurd h2 hne
  all_goals rfl
 rw[if_neg h2]
 have:kwL.find? (fun x=>decide (bs x.1=w))=none:=by
  rw[YL]
  intro x hx
  have hall : ∀ x∈kwL,bs x.1∈fieldNames\/bs x.1∈wordNames:=by decide
  rw[decide_eq_true_eq]
  rintro rfl
  rcases hall x hx with h|h
  ·exact h1 h
  ·exact h2 h
 rw[this]
 rfl
abbrev pO(s:ByteArray)(m:Nat)(Q:V)(i a c:Int):Ob := .cells [.str s,.mp m,Q,.int i,.int a,.int c]
inductive LxS(s:ByteArray):S->Prop
 |nil (i a c:Int):LxS s [pO s 1 (.dat (.lit (.slice none 0 0))) i a c,.map kwM]
 |gr (cs:List D) (n t:Nat) (i a c:Int):LxS s [pO s 1 (.gsl cs n 5 2) i a c,.map kwM,.tip t]
theorem qbd:qhS kwM=[]:=rfl
theorem qbU(r:Nat->Nat):qr8 r kwM=kwM:=rfl
attribute [local simp] qbd qbU
theorem qjq (s:ByteArray) (hl:s.size<2 ^ 40) {σ : S} (hσ : LxS s σ) : ∀ (m i:Nat) (cm:Bool),i+m=s.size ->
  (i+qaD cm ((byl s).drop i)=s.size /\ ∃ v,Z tP (.loop σ.length F251l0 [(0,.ptr 0 0),(1,.int i),(5,.bool cm)] σ)=some (.out (.exit 0) [(0,.ptr 0 0),(1,.int s.size),(5,v),(13,.bool false)] σ)) \/
  Z tP (.loop σ.length F251l0 [(0,.ptr 0 0),(1,.int i),(5,.bool cm)] σ)=some (.out .ret [(4,.int ((i+qaD cm ((byl s).drop i):Nat)))] σ)
 |0,i,cm,hi=>by
  obtain rfl:i=s.size:=by omega
  have hd:(byl s).drop s.size=[]:=WM (by rw[qau]; exact Wj _)
  refine .inl ⟨by rw[hd]; simp[qaD],.bool cm,?_⟩
  rw[qaa]
  cases hσ <;> simp[qab,qdl,V.len,Wa]
 |m+1,i,cm,hi=>by
  obtain⟨c,h1,h2⟩:=qiY (s:=s) (i:=i) (by omega)
  have hd:=qd0 h2
  have hlt:(i:Int)<s.size:=by omega
  have w1:=qai ((i:Int)+1) (by omega)
  have ih:=fun cm=>qjq s hl hσ m (i+1) cm (by omega)
  have fin : ∀ cm',qaD cm ((byl s).drop i)=1+qaD cm' ((byl s).drop (i+1)) ->
    Z tP (.loop σ.length F251l0 [(0,.ptr 0 0),(1,.int i),(5,.bool cm)] σ)=Z tP (.loop σ.length F251l0 [(0,.ptr 0 0),(1,.int (i+1)),(5,.bool cm')] σ) ->
    (i+qaD cm ((byl s).drop i)=s.size /\ ∃ v,Z tP (.loop σ.length F251l0 [(0,.ptr 0 0),(1,.int i),(5,.bool cm)] σ)=some (.out (.exit 0) [(0,.ptr 0 0),(1,.int s.size),(5,v),(13,.bool false)] σ)) \/
    Z tP (.loop σ.length F251l0 [(0,.ptr 0 0),(1,.int i),(5,.bool cm)] σ)=some (.out .ret [(4,.int ((i+qaD cm ((byl s).drop i):Nat)))] σ):=fun cm' e z=>by
   rw[e,z]
   have ih:=ih cm'
   rw[show i+(1+qaD cm' ((byl s).drop (i+1)))=i+1+qaD cm' ((byl s).drop (i+1)) by omega]
   simpa using ih
  by_cases h10:c.toNat=10
  ·refine fin false (by rw[hd]; simp[qaD,h10]; omega) ?_
   rw[qaa]
   cases hσ <;> simp[qab,qdl,V.len,h1,hlt,h10,w1,Wa]
  have h10' : ¬ (c.toNat:Int)=10:=by omega
  by_cases hc:cm=true\/c.toNat=32\/c.toNat=9
  ·refine fin cm (by rw[hd]; simp only[qaD,if_neg h10,if_pos hc]; omega) ?_
   rw[qaa]
   cases cm
   ·have h9:c.toNat=32\/c.toNat=9:=by simpa using hc
    rcases h9 with h9|h9<;>cases hσ <;> simp[qab,qdl,V.len,h1,hlt,h10',h9,w1,Wa]
   ·cases hσ <;> simp[qab,qdl,V.len,h1,hlt,h10',w1,Wa]
  have hc':=hc
  simp only[not_or,Bool.not_eq_true] at hc'
  obtain⟨rfl,h32,h9⟩:=hc'
  have h32' : ¬ (c.toNat:Int)=32:=by omega
  have h9' : ¬ (c.toNat:Int)=9:=by omega
  by_cases h35:c.toNat=35
  ·refine fin true (by rw[hd]; simp only[qaD,if_neg h10,if_neg hc,if_pos h35]; omega) ?_
   rw[qaa]
   cases hσ <;> simp[qab,qdl,V.len,h1,hlt,h35,w1,Wa]
  ·have h35' : ¬ (c.toNat:Int)=35:=by omega
   have e:qaD false ((byl s).drop i)=0:=by rw[hd]; simp only[qaD,if_neg h10,if_neg hc,if_neg h35]
   rw[e]
   refine .inr ?_
   rw[qaa]
   cases hσ <;> simp[qab,qdl,V.len,h1,hlt,h10',h32',h9',h35',Wa]
theorem qpP(s:ByteArray)(hl:s.size<2 ^ 40){σ : S}(hσ : LxS s σ){i:Nat}(hi:i<=s.size):Z tP (.call 251 [.ptr 0 0,.int i] σ)=some (.ret (.int ((i+qaD false ((byl s).drop i):Nat))) σ):=by
 rcases qjq s hl hσ (s.size-i) i false (by omega) with ⟨h,v,z⟩|z
 ·rw[h]
  refine qac (pf:=F251) rfl rfl ?_
  cases hσ <;> simp only[We,Wk,Nat.reduceAdd] at z<;>simp[F251,z,Wa]
 ·generalize i+qaD false ((byl s).drop i)=j at z ⊢
  refine qac (pf:=F251) rfl rfl ?_
  cases hσ <;> simp only[We,Wk,Nat.reduceAdd] at z<;>simp[F251,z,Wa]
end
section
open F
attribute [local simp] qbd qbU
abbrev tk5:Ob := .cells [.int 0,.str ⟨#[]⟩,.int 0,.int 0,.int 0]
theorem qjr (s:ByteArray) (hl:s.size<2 ^ 40) {σ : S} (hσ : LxS s σ) (a:Int) : ∀ (m i:Nat),i+m=s.size ->
  Z tP (.loop σ.length F265l0 [(0,.ptr 0 0),(1,.int a),(4,.ptr σ.length 0),(5,.int i)] (σ ++ [tk5]))=some (.out (.exit 0) [(0,.ptr 0 0),(1,.int a),(4,.ptr σ.length 0),(5,.int ((i+qbl qaz ((byl s).drop i):Nat))),(34,.bool false)] (σ ++ [tk5]))
 |0,i,hi=>by
  obtain rfl:i=s.size:=by omega
  have hd:(byl s).drop s.size=[]:=WM (by rw[qau]; exact Wj _)
  rw[qaa,hd]
  cases hσ <;> simp[qab,qfj,V.len,qbl,Wa]
 |m+1,i,hi=>by
  obtain⟨c,h1,h2⟩:=qiY (s:=s) (i:=i) (by omega)
  have hd:=qd0 h2
  have hlt:(i:Int)<s.size:=by omega
  have w1:=qai ((i:Int)+1) (by omega)
  have zl:=qeX c
  have zd:=qgx c
  have ih:=qjr s hl hσ a m (i+1) (by omega)
  simp only[WE,Wt] at ih
  by_cases hc:qaz c=true
  ·have e:(i:Int)+((qbl qaz ((byl s).drop (i+1)):Int)+1)=i+1+qbl qaz ((byl s).drop (i+1)):=by omega
   rw[qaa,hd]
   simp only[qaz,Yl] at hc
   by_cases hcl:qaQ c=true
   ·cases hσ <;> simp only[Wg,Wc,We,Wk,Nat.reduceAdd] at ih<;>simp[qab,qfj,V.len,qbl,h1,hlt,w1,zl,zd,hcl,ih,qaz,e,Wa]
   ·have hcd:qaq c=true:=by rcases hc with h|h; exact absurd h hcl; exact h
    cases hσ <;> simp only[Wg,Wc,We,Wk,Nat.reduceAdd] at ih<;>simp[qab,qfj,V.len,qbl,h1,hlt,w1,zl,zd,hcl,hcd,ih,qaz,e,Wa]
  ·simp only[qaz,Yl,not_or] at hc
   rw[qaa,hd]
   cases hσ <;> simp[qab,qfj,V.len,qbl,h1,hlt,w1,zl,zd,hc.1,hc.2,qaz,Wa]
abbrev ptD(k:Int)(t:ByteArray)(a v c:Int):V := .dat (.agg [.lit (.int .i64 k),.lit (.string t),.lit (.int .i64 a),.lit (.int .i64 v),.lit (.int .i64 c)])
def pkW(w:ByteArray):Int:=if w∈fieldNames then 3 else if w∈wordNames then 2 else if 8<w.size then 6 else 1
def pcW(w:ByteArray):Int:=if w∈fieldNames\/w∈wordNames then 0 else if 8<w.size then 2 else 0
theorem qvc(s:ByteArray)(hl:s.size<2 ^ 40){σ : S}(hσ : LxS s σ){i:Nat}(hi:i<=s.size):Z tP (.call 265 [.ptr 0 0,.int i] σ)=some (.ret (ptD (pkW (s.extract i (i+qbl qaz ((byl s).drop i)))) (s.extract i (i+qbl qaz ((byl s).drop i))) i 0 (pcW (s.extract i (i+qbl qaz ((byl s).drop i))))) σ):=by
 have z:=qjr s hl hσ i (s.size-i) i (by omega)
 have hr:=qfb qaz ((byl s).drop i)
 rw[WY,qau] at hr
 generalize hq:i+qbl qaz ((byl s).drop i)=q at z ⊢
 have q1:(i:Int)<=q:=by omega
 have q2:(q:Int)<=s.size:=by omega
 have q3:(i:Int)<=s.size:=by omega
 have hk:=qvb (s.extract i q)
 have hws:(s.extract i q).size<=s.size:=by rw[ByteArray.size_extract]; omega
 obtain⟨w,hw⟩ : ∃ w,s.extract i q=w:=⟨_,rfl⟩
 rw[hw] at hk hws ⊢
 refine qac (pf:=F265) rfl rfl ?_
 unfold pkW pcW
 by_cases h1:w∈fieldNames
 ·rw[if_pos h1] at hk
  cases hσ <;> simp only[Wg,Wc,We,Wk,Nat.reduceAdd] at z<;>simp[F265,z,qa4,bound,q1,q2,q3,hw,hk,h1,qdW,qcd,qaP,Wa]
 by_cases h2:w∈wordNames
 ·rw[if_neg h1,if_pos h2] at hk
  cases hσ <;> simp only[Wg,Wc,We,Wk,Nat.reduceAdd] at z<;>simp[F265,z,qa4,bound,q1,q2,q3,hw,hk,h1,h2,qdW,qcd,qaP,Wa]
 rw[if_neg h1,if_neg h2] at hk
 by_cases h3:8<w.size
 ·have h3':(8:Int)<w.size:=by omega
  cases hσ <;> simp only[Wg,Wc,We,Wk,Nat.reduceAdd] at z<;>simp[F265,z,qa4,bound,q1,q2,q3,hw,hk,h1,h2,h3,h3',V.len,qdW,qcd,qaP,Wa]
 ·have h3' : ¬ (8:Int)<w.size:=by omega
  cases hσ <;> simp only[Wg,Wc,We,Wk,Nat.reduceAdd] at z<;>simp[F265,z,qa4,bound,q1,q2,q3,hw,hk,h1,h2,h3,h3',V.len,qdW,qcd,qaP,Wa]
def qr3(v:Nat)(l:List UInt8):Nat:=l.foldl (fun v c=>min (10*v+(c.toNat-48)) 2147483648) v
theorem qvd(l:List UInt8) : ∀ n,qr3 (min n 2147483648) l=min (l.foldl (fun v c=>10*v+(c.toNat-48)) n) 2147483648:=by
 induction l with
 |nil=>intro n; rfl
 |cons c l ih=>
  intro n
  have:=ih (10*n+(c.toNat-48))
  simp only[qr3,Ya] at this ⊢
  rw[<- this]
  congr 1
  omega
theorem qr4(l:List UInt8):qr3 0 l=min (digV l) 2147483648:=qvd l 0
theorem qlg (s:ByteArray) (hl:s.size<2 ^ 40) {σ : S} (hσ : LxS s σ) (a:Int) : ∀ (m i v:Nat),i+m=s.size->v<=2147483648 ->
  Z tP (.loop σ.length F267l0 [(0,.ptr 0 0),(1,.int a),(4,.ptr σ.length 0),(5,.int i),(6,.int v)] (σ ++ [tk5]))=some (.out (.exit 0) [(0,.ptr 0 0),(1,.int a),(4,.ptr σ.length 0),(5,.int ((i+qbl qaq ((byl s).drop i):Nat))),(6,.int (qr3 v (((byl s).drop i).take (qbl qaq ((byl s).drop i))))),(24,.bool false)] (σ ++ [tk5]))
 |0,i,v,hi,hv=>by
  obtain rfl:i=s.size:=by omega
  have hd:(byl s).drop s.size=[]:=WM (by rw[qau]; exact Wj _)
  rw[qaa,hd]
  cases hσ <;> simp[qab,qgY,V.len,qbl,qr3,Wa]
 |m+1,i,v,hi,hv=>by
  obtain⟨c,h1,h2⟩:=qiY (s:=s) (i:=i) (by omega)
  have hd:=qd0 h2
  have hlt:(i:Int)<s.size:=by omega
  have w1:=qai ((i:Int)+1) (by omega)
  have zd:=qgx c
  by_cases hc:qaq c=true
  ·have hc2:48<=c.toNat/\c.toNat<=57:=by simpa [qaq] using hc
   have ih:=qlg s hl hσ a m (i+1) (min (10*v+(c.toNat-48)) 2147483648) (by omega) (Nat.min_le_right _ _)
   have e:(i:Int)+((qbl qaq ((byl s).drop (i+1)):Int)+1)=i+1+qbl qaq ((byl s).drop (i+1)):=by omega
   have es:qr3 v (((byl s).drop i).take (qbl qaq ((byl s).drop i)))=qr3 (min (10*v+(c.toNat-48)) 2147483648) (((byl s).drop (i+1)).take (qbl qaq ((byl s).drop (i+1)))):=by
    rw[hd]; simp[qbl,hc,qr3]
   rw[es]
   have er:i+qbl qaq ((byl s).drop i)=i+1+qbl qaq ((byl s).drop (i+1)):=by
    rw[hd]; simp[qbl,hc]; omega
   rw[er]
   have u0 : ∀ d:Nat,d<10->IntKind.u8.wrap (d:Int)=d:=by decide
   have u1:IntKind.u8.wrap ((c.toNat:Int)-48)=c.toNat-48:=by
    rw[show ((c.toNat:Int)-48)=((c.toNat-48:Nat):Int) by omega]; exact u0 _ (by omega)
   have u2:IntKind.i64.wrap ((c.toNat:Int)-48)=c.toNat-48:=qai _ (by omega)
   have u3:IntKind.i64.wrap (10*(v:Int))=10*v:=qai _ (by omega)
   have u4:IntKind.i64.wrap (10*(v:Int)+((c.toNat:Int)-48))=10*v+(c.toNat-48):=qai _ (by omega)
   have u5:(if 2147483648<10*(v:Int)+(c.toNat-48) then 2147483648 else 10*(v:Int)+(c.toNat-48))=((min (10*v+(c.toNat-48)) 2147483648:Nat):Int):=by split<;>omega
   generalize min (10*v+(c.toNat-48)) 2147483648=v' at ih u5 ⊢
   rw[<- ih,qaa]
   cases hσ <;> simp[qab,qgY,V.len,h1,hlt,w1,zd,hc,u1,u2,u3,u4,u5,qoM,qhT,Wa]
  ·have e0:qbl qaq ((byl s).drop i)=0:=by rw[hd]; simp[qbl,hc]
   rw[e0,qaa]
   cases hσ <;> simp[qab,qgY,V.len,h1,hlt,zd,hc,qr3,Wa]
end
section
open F
attribute [local simp] qbd qbU
theorem qy1 (s:ByteArray) (hl:s.size<2 ^ 40) {σ : S} (hσ : LxS s σ) {i:Nat} (hi:i<=s.size):Z tP (.call 267 [.ptr 0 0,.int i] σ) =
  some (.ret (ptD (if 2147483647<digV (((byl s).drop i).take (qbl qaq ((byl s).drop i))) then 6 else 4) (s.extract i (i+qbl qaq ((byl s).drop i))) i (min (digV (((byl s).drop i).take (qbl qaq ((byl s).drop i)))) 2147483648:Nat) (if 2147483647<digV (((byl s).drop i).take (qbl qaq ((byl s).drop i))) then 6 else 0)) σ):=by
 have z:=qlg s hl hσ i (s.size-i) i 0 (by omega) (by omega)
 rw[qr4] at z
 have hr:=qfb qaq ((byl s).drop i)
 rw[WY,qau] at hr
 generalize digV (((byl s).drop i).take (qbl qaq ((byl s).drop i)))=n at z ⊢
 generalize hq:i+qbl qaq ((byl s).drop i)=q at z ⊢
 have q1:(i:Int)<=q:=by omega
 have q2:(q:Int)<=s.size:=by omega
 have q3:(i:Int)<=s.size:=by omega
 obtain⟨w,hw⟩ : ∃ w,s.extract i q=w:=⟨_,rfl⟩
 rw[hw]
 refine qac (pf:=F267) rfl rfl ?_
 by_cases hn:2147483647<n
 ·have e:min n 2147483648=2147483648:=by omega
  rw[e] at z ⊢
  rw[if_pos hn,if_pos hn]
  simp only[Yo,Wt] at z
  cases hσ <;> simp only[Wg,Wc,We,Wk,Nat.reduceAdd] at z<;>simp[F267,z,qa4,bound,q1,q2,q3,hw,Wa]
 ·have e:min n 2147483648=n:=by omega
  have hn' : ¬ (2147483647:Int)<n:=by omega
  rw[e] at z ⊢
  rw[if_neg hn,if_neg hn]
  simp only[Yo] at z
  cases hσ <;> simp only[Wg,Wc,We,Wk,Nat.reduceAdd] at z<;>simp[F267,z,qa4,bound,q1,q2,q3,hw,hn',Wa]
def quc:ByteArray:=⟨#[123,125,91,93,40,41,61,59,44,60,62,43,45,42,47,33]⟩
theorem qvM(c:UInt8):decide (0<=firstIdx quc c)=decide (c.toNat∈symB):=by
 have h : ∀ n:_root_.Fin 256,decide (0<=firstIdx quc n.val.toUInt8)=decide (n.val.toUInt8.toNat∈symB):=by decide +kernel
 have:=h ⟨c.toNat,c.toNat_lt⟩
 simpa using this
theorem qy2(c:UInt8):Z tP (.call 268 [.str quc,.dat (.lit (.int .u8 c.toNat))] [])=some (.ret (.int (firstIdx quc c)) []):=by
 have z:Z tP (.call 275 [.str quc,.dat (.lit (.int .u8 c.toNat))] [])=some (.ret (.int (firstIdx quc c)) []):=by
  refine qac (pf:=F275) rfl rfl ?_
  simp[F275]
 refine qac (pf:=F268) rfl rfl ?_
 simp[F268,z]
def kindT(t:Tk):Int:=if t.bad≠0 then 6 else if t.s=⟨#[]⟩ then 0 else if qaX qaQ t.s then (if t.s∈fieldNames then 3 else if t.s∈wordNames then 2 else 1) else if qaX qaq t.s then 4 else 5
def qhV(t:Tk):ByteArray:=if t.bad=12 then ⟨#[]⟩ else t.s
def valT(t:Tk):Nat:=if qaX qaq t.s then min (digV (byl t.s)) 2147483648 else 0
abbrev ptk(t:Tk):V:=ptD (kindT t) (qhV t) t.at_ (valT t) t.bad
end
section
open F
attribute [local simp] qbd qbU
theorem qea(p:UInt8->Bool)(c:UInt8)(r:List UInt8):qaX p (bs (c::r))=p c:=by rw[qbw,qbp]; rfl
theorem qp0{c:UInt8}(h:qaQ c=true):qaq c=false:=by
 simp only[qaQ,qaq,Wq,decide_eq_true_eq,Yf,decide_eq_false_iff_not] at h ⊢
 omega
theorem qnt{p:UInt8->Bool}{c:UInt8}(r:List UInt8)(h:p c=true):(c::r).take (qbl p (c::r))=c::r.take (qbl p r):=by simp[qbl,h]
theorem qsb(s:ByteArray){σ : S}(hσ : LxS s σ):Z tP (.call 250 [.ptr 0 0,.int s.size] σ)=some (.ret (ptD 0 ⟨#[]⟩ s.size 0 0) σ):=by
 refine qac (pf:=F250) rfl rfl ?_
 cases hσ <;> simp[F250,V.len,Wa]
theorem qsc(s:ByteArray){σ : S}(hσ : LxS s σ){i:Nat}(hi:i<s.size){c:UInt8}(h1:s[i]?=some c)(hc:qaQ c=true){v:D}(ho:V.one (.dat v)=true){k n x e:Int}{t:ByteArray}(z:Z tP (.call 265 [.ptr 0 0,.int i] σ)=some (.ret (ptD k t n x e) σ)):Z tP (.call 250 [.ptr 0 0,.int i] σ)=some (.ret (ptD k t n x e) σ):=by
 have zl:=qeX c
 have hne : ¬ (i:Int)=s.size:=by omega
 have hne' : ¬ i=s.size:=by omega
 refine qac (pf:=F250) rfl rfl ?_
 cases hσ <;> simp[F250,V.len,h1,hne,hne',zl,hc,z,Wa]
theorem qsd(s:ByteArray){σ : S}(hσ : LxS s σ){i:Nat}(hi:i<s.size){c:UInt8}(h1:s[i]?=some c)(hl:qaQ c=false)(hc:qaq c=true){k n x e:Int}{t:ByteArray}(z:Z tP (.call 267 [.ptr 0 0,.int i] σ)=some (.ret (ptD k t n x e) σ)):Z tP (.call 250 [.ptr 0 0,.int i] σ)=some (.ret (ptD k t n x e) σ):=by
 have zl:=qeX c
 have zd:=qgx c
 have hne : ¬ (i:Int)=s.size:=by omega
 have hne' : ¬ i=s.size:=by omega
 refine qac (pf:=F250) rfl rfl ?_
 cases hσ <;> simp[F250,V.len,h1,hne,hne',zl,zd,hl,hc,z,Wa]
theorem qp1(s:ByteArray)(hs:s.size<2 ^ 40){σ : S}(hσ : LxS s σ){i:Nat}(hi:i+2<=s.size){c:UInt8}(h1:s[i]?=some c)(hl:qaQ c=false)(hc:qaq c=false){p:ByteArray}(hx:s.extract i (i+2)=p)(hp:p∈qdv):Z tP (.call 250 [.ptr 0 0,.int i] σ)=some (.ret (ptD 5 p i 0 0) σ):=by
 have zl:=qeX c
 have zd:=qgx c
 have hne : ¬ (i:Int)=s.size:=by omega
 have hne' : ¬ i=s.size:=by omega
 have w2:=qai ((i:Int)+2) (by omega)
 have hle:(i:Int)+2<=s.size:=by omega
 have b1:(i:Int)<=s.size:=by omega
 have b2:(i:Int)<=(i:Int)+2:=by omega
 have b3:(0:Int)<=(i:Int)+2:=by omega
 have b4:((i:Int)+2).toNat=i+2:=by omega
 simp only[qdv,bs,Wo,Wx,or_false] at hp
 refine qac (pf:=F250) rfl rfl ?_
 rcases hp with rfl|rfl|rfl|rfl|rfl|rfl<;>cases hσ <;> simp[F250,V.len,h1,hne,hne',zl,zd,hl,hc,w2,hle,qa4,bound,b1,b2,b3,b4,hx,qaT,Wa]
theorem qse(s:ByteArray)(hs:s.size<2 ^ 40){σ : S}(hσ : LxS s σ){i:Nat}(hi:i<s.size){c:UInt8}(h1:s[i]?=some c)(hl:qaQ c=false)(hc:qaq c=false)(hp:i+2<=s.size->s.extract i (i+2)∉qdv){x:ByteArray}(hx:s.extract i (i+1)=x):Z tP (.call 250 [.ptr 0 0,.int i] σ)=some (.ret (if c.toNat∈symB then ptD 5 x i 0 0 else ptD 6 ⟨#[]⟩ i 0 12) σ):=by
 have zl:=qeX c
 have zd:=qgx c
 have zx:=qy2 c
 have hm:=qvM c
 obtain⟨j,hj0⟩ : ∃ j,firstIdx quc c=j:=⟨_,rfl⟩
 rw[hj0] at zx hm
 simp only[quc] at zx
 have hne : ¬ (i:Int)=s.size:=by omega
 have hne' : ¬ i=s.size:=by omega
 have w1:=qai ((i:Int)+1) (by omega)
 have w2:=qai ((i:Int)+2) (by omega)
 have a1:(i:Int)+1<=s.size:=by omega
 have a2:(i:Int)<=(i:Int)+1:=by omega
 have a3:(0:Int)<=(i:Int)+1:=by omega
 have a4:((i:Int)+1).toNat=i+1:=by omega
 have b1:(i:Int)<=s.size:=by omega
 have b2:(i:Int)<=(i:Int)+2:=by omega
 have b3:(0:Int)<=(i:Int)+2:=by omega
 have b4:((i:Int)+2).toNat=i+2:=by omega
 by_cases hle:i+2<=s.size
 ·have hle':(i:Int)+2<=s.size:=by omega
  have hp':=hp hle
  generalize hy:s.extract i (i+2)=y at hp'
  simp only[qdv,bs,Wo,Wx,or_false,not_or] at hp'
  obtain⟨n1,n2,n3,n4,n5,n6⟩:=hp'
  refine qac (pf:=F250) rfl rfl ?_
  by_cases hk:c.toNat∈symB
  ·have hj:(0:Int)<=j:=by simpa [hk] using hm
   rw[if_pos hk]
   cases hσ <;> simp[F250,V.len,h1,hne,hne',zl,zd,zx,hl,hc,w1,w2,hle',qa4,bound,a1,a2,a3,a4,b1,b2,b3,b4,hx,hy,n1,n2,n3,n4,n5,n6,hj,qaT,Wa]
  ·have hj : ¬ (0:Int)<=j:=by simpa [hk] using hm
   rw[if_neg hk]
   cases hσ <;> simp[F250,V.len,h1,hne,hne',zl,zd,zx,hl,hc,w1,w2,hle',qa4,bound,a1,a2,a3,a4,b1,b2,b3,b4,hx,hy,n1,n2,n3,n4,n5,n6,hj,qaT,Wa]
 ·have hle' : ¬ (i:Int)+2<=s.size:=by omega
  refine qac (pf:=F250) rfl rfl ?_
  by_cases hk:c.toNat∈symB
  ·have hj:(0:Int)<=j:=by simpa [hk] using hm
   rw[if_pos hk]
   cases hσ <;> simp[F250,V.len,h1,hne,hne',zl,zd,zx,hl,hc,w1,w2,hle',qa4,bound,a1,a2,a3,a4,hx,hj,qaT,Wa]
  ·have hj : ¬ (0:Int)<=j:=by simpa [hk] using hm
   rw[if_neg hk]
   cases hσ <;> simp[F250,V.len,h1,hne,hne',zl,zd,zx,hl,hc,w1,w2,hle',qa4,bound,hj,qaT,Wa]
end
section
open F
theorem qvj{c:UInt8}{r:List UInt8}:bs (c::r)≠⟨#[]⟩:=fun h=>by
 have:=congrArg ByteArray.size h
 rw[qaw,We] at this
 exact absurd this (by show ¬ r.length+1=0; omega)
theorem qua(s:ByteArray)(hl:s.size<2 ^ 40){σ : S}(hσ : LxS s σ){i:Nat}(hi:i<=s.size):Z tP (.call 250 [.ptr 0 0,.int i] σ)=some (.ret (ptk (tokAt 12 2 6 s i)) σ):=by
 by_cases hend:i=s.size
 ·subst hend
  have hd:(byl s).drop s.size=[]:=WM (by rw[qau]; exact Wj _)
  have e:tokAt 12 2 6 s s.size=⟨s.size,⟨#[]⟩,0⟩:=by rw[qdg,hd]; rfl
  rw[e]
  exact qsb s hσ
 have hi':i<s.size:=by omega
 obtain⟨c,h1,h2⟩:=qiY hi'
 have hd:=qd0 h2
 rw[qdg,hd]
 by_cases hlet:qaQ c=true
 ·have hw:qaz c=true:=by simp[qaz,hlet]
  have ht:=qnt ((byl s).drop (i+1)) hw
  have htok:tokL 12 2 6 (c::(byl s).drop (i+1))=(c::((byl s).drop (i+1)).take (qbl qaz ((byl s).drop (i+1))),if 8<qbl qaz (c::(byl s).drop (i+1))/\bs (c::((byl s).drop (i+1)).take (qbl qaz ((byl s).drop (i+1))))∉fieldNames/\bs (c::((byl s).drop (i+1)).take (qbl qaz ((byl s).drop (i+1))))∉wordNames then 2 else 0):=by
   simp only[tokL,hlet,if_true,ht]
  have z:=qvc s hl hσ hi
  rw[qbS,hd,ht] at z
  have hsz:(bs (c::((byl s).drop (i+1)).take (qbl qaz ((byl s).drop (i+1))))).size=qbl qaz (c::(byl s).drop (i+1)):=by
   rw[qaw,<- ht,WU,Nat.min_eq_left (qfb _ _)]
  rw[htok]
  have s1:=qea qaQ c (((byl s).drop (i+1)).take (qbl qaz ((byl s).drop (i+1))))
  have s2:=qea qaq c (((byl s).drop (i+1)).take (qbl qaz ((byl s).drop (i+1))))
  have hne:=qvj (c:=c) (r:=((byl s).drop (i+1)).take (qbl qaz ((byl s).drop (i+1))))
  rw[hlet] at s1
  rw[qp0 hlet] at s2
  rw[<- hsz]
  generalize bs (c::((byl s).drop (i+1)).take (qbl qaz ((byl s).drop (i+1))))=w at *
  have e:ptk ⟨i,w,if 8<w.size/\w∉fieldNames/\w∉wordNames then 2 else 0⟩=ptD (pkW w) w i 0 (pcW w):=by
   have hb:((if 8<w.size/\w∉fieldNames/\w∉wordNames then 2 else 0:Nat):Int)=pcW w:=by
    unfold pcW
    by_cases a:w∈fieldNames<;>by_cases b:w∈wordNames<;>by_cases d:8<w.size<;>simp[a,b,d]
   have hk:kindT ⟨i,w,if 8<w.size/\w∉fieldNames/\w∉wordNames then 2 else 0⟩=pkW w:=by
    unfold pkW kindT
    by_cases a:w∈fieldNames<;>by_cases b:w∈wordNames<;>by_cases d:8<w.size<;>simp[a,b,d,hne,s1]
   have hx:qhV ⟨i,w,if 8<w.size/\w∉fieldNames/\w∉wordNames then 2 else 0⟩=w:=by
    unfold qhV
    by_cases a:8<w.size/\w∉fieldNames/\w∉wordNames<;>simp[a]
   unfold ptk
   rw[hk,hx,hb]
   simp[valT,s2]
  rw[e]
  exact qsc s hσ hi' h1 hlet (v := .lit (.bool true)) rfl z
 have hlet':qaQ c=false:=by simpa using hlet
 by_cases hdig:qaq c=true
 ·have ht:=qnt ((byl s).drop (i+1)) hdig
  have htok:tokL 12 2 6 (c::(byl s).drop (i+1))=(c::((byl s).drop (i+1)).take (qbl qaq ((byl s).drop (i+1))),if 2147483647<digV (c::((byl s).drop (i+1)).take (qbl qaq ((byl s).drop (i+1)))) then 6 else 0):=by
   simp only[tokL,hlet',hdig,if_true,Wn,if_false,ht]
  have z:=qy1 s hl hσ hi
  rw[qbS,hd,ht] at z
  rw[htok]
  have s1:=qea qaQ c (((byl s).drop (i+1)).take (qbl qaq ((byl s).drop (i+1))))
  have s2:=qea qaq c (((byl s).drop (i+1)).take (qbl qaq ((byl s).drop (i+1))))
  have hne:=qvj (c:=c) (r:=((byl s).drop (i+1)).take (qbl qaq ((byl s).drop (i+1))))
  rw[hlet'] at s1
  rw[hdig] at s2
  have hbl:=qbp (c::((byl s).drop (i+1)).take (qbl qaq ((byl s).drop (i+1))))
  generalize c::((byl s).drop (i+1)).take (qbl qaq ((byl s).drop (i+1)))=l at *
  have e:ptk ⟨i,bs l,if 2147483647<digV l then 6 else 0⟩=ptD (if 2147483647<digV l then 6 else 4) (bs l) i (min (digV l) 2147483648:Nat) (if 2147483647<digV l then 6 else 0):=by
   unfold ptk kindT qhV valT
   by_cases a:2147483647<digV l<;>simp[a,hne,s1,s2,hbl]
  rw[e]
  exact qsd s hσ hi' h1 hlet' hdig z
 have hdig':qaq c=false:=by simpa using hdig
 by_cases hp:bs ((c::(byl s).drop (i+1)).take 2)∈qdv
 ·have htok:tokL 12 2 6 (c::(byl s).drop (i+1))=((c::(byl s).drop (i+1)).take 2,0):=by
   simp only[tokL,hlet',hdig',if_pos hp,Wn,if_false]
  have hsz:=qfy hp
  rw[qaw,WU,We,WY,qau] at hsz
  have z:=qp1 s hl hσ (i:=i) (by omega) h1 hlet' hdig' (p:=bs ((c::(byl s).drop (i+1)).take 2)) (by rw[qbS,hd]) hp
  rw[htok,z]
  have e:ptk ⟨i,bs ((c::(byl s).drop (i+1)).take 2),0⟩=ptD 5 (bs ((c::(byl s).drop (i+1)).take 2)) i 0 0:=by
   generalize bs ((c::(byl s).drop (i+1)).take 2)=w at hp
   simp only[qdv,Wo,Wx,or_false] at hp
   rcases hp with rfl|rfl|rfl|rfl|rfl|rfl<;>rfl
  rw[e]
 ·have z:=qse s hl hσ hi' h1 hlet' hdig' (fun h=>by rw[qbS,hd]; exact hp) (x:=bs [c]) (by rw[qbS,hd]; rfl)
  rw[z]
  have s1:=qea qaQ c []
  have s2:=qea qaq c []
  by_cases hs:c.toNat∈symB
  ·have htok:tokL 12 2 6 (c::(byl s).drop (i+1))=([c],0):=by simp only[tokL,hlet',hdig',if_neg hp,if_pos hs,Wn,if_false]
   rw[htok,if_pos hs]
   have e:ptk ⟨i,bs [c],0⟩=ptD 5 (bs [c]) i 0 0:=by
    unfold ptk kindT qhV valT
    simp[s1,s2,hlet',hdig',qvj]
   rw[e]
  ·have htok:tokL 12 2 6 (c::(byl s).drop (i+1))=([c],12):=by simp only[tokL,hlet',hdig',if_neg hp,if_neg hs,Wn,if_false]
   rw[htok,if_neg hs]
   have e:ptk ⟨i,bs [c],12⟩=ptD 6 ⟨#[]⟩ i 0 12:=by
    unfold ptk kindT qhV valT
    simp[s2,hdig']
   rw[e]
end
section
@[simp] def qxy:Nat->PC->PC
 |n+1,.seq a b => .seq a (qxy n b)
 |0,_ => .skip
 |_,p=>p
end
section
open F
attribute [local simp] qbd qbU
theorem qqg(s:ByteArray):Z tP (.call 241 [.ptr 0 0] [pO s 1 (.dat (.lit (.slice none 0 0))) 0 0 12,.map kwM])=some (.ret (.fn 249 [] [.ptr 2 0]) [pO s 1 (.dat (.lit (.slice none 0 0))) 0 0 12,.map kwM,.cells [.ptr 0 0]]):=by
 refine qac (pf:=F241) rfl rfl ?_
 simp[F241,Wa]
abbrev lp8:Ob := .loop ⟨[(2,.ptr 2 0),(3,.ptr 3 0),(4,.ptr 4 0),(5,.ptr 5 0),(19,.fn 249 [] [.ptr 1 0])],[20],F228a0,F228b0,0,none⟩
abbrev TT0(s:ByteArray):S:=[lp8,.cells [.ptr 6 0],qxR,.cells [.int 0],.cells [.int 0],.cells [.ptr 6 0],pO s 7 (.dat (.lit (.slice none 0 0))) 0 0 12,.map kwM]
abbrev TT1(s:ByteArray)(cs:List D)(n:Nat):S:=[lp8,.cells [.ptr 6 0],qxR,.cells [.int 0],.cells [.int 0],.cells [.ptr 6 0],pO s 7 (.gsl cs n 5 8) 0 0 12,.map kwM,.tip cs.length]
abbrev lpR:Ob := .loop ⟨[(2,.ptr 1 0),(3,.ptr 2 0),(4,.ptr 3 0),(5,.ptr 4 0),(19,.fn 249 [] [.ptr 5 0])],[20],F228a0,F228b0,0,none⟩
abbrev Q0(s:ByteArray):S:=[lpR,qxR,.cells [.int 0],.cells [.int 0],.cells [.ptr 6 0],.cells [.ptr 6 0],pO s 7 (.dat (.lit (.slice none 0 0))) 0 0 12,.map kwM]
abbrev Q1(s:ByteArray)(cs:List D)(n:Nat):S:=[lpR,qxR,.cells [.int 0],.cells [.int 0],.cells [.ptr 6 0],.cells [.ptr 6 0],pO s 7 (.gsl cs n 5 8) 0 0 12,.map kwM,.tip cs.length]
def qhJ(k:Int)(t:ByteArray)(a v c:Int):List D:=[.lit (.int .i64 k),.lit (.string t),.lit (.int .i64 a),.lit (.int .i64 v),.lit (.int .i64 c)]
section
variable{s:ByteArray}{k a v c:Int}{t:ByteArray}
theorem qCC:Z tP (.round [.yld 0,ptD k t a v c] (Q0 s))=some (.ret (.bool true) (Q1 s (qhJ k t a v c) 1)):=by
 have r1:qao 1 48=true:=by simp only[qao,decide_eq_true_eq]; omega
 rw[qcx]
 simp[qbs,qiA,qiB,qjw,qjx,qcU,Lp.ended,Ex.isNormal,V.len,qbH,qkr,r1,qhJ,dkey,qcd,qaP,Wa]
theorem qCD{cs:List D}{n:Nat}(hc:cs.length=n*5)(h0:0<n)(hn:n<2 ^ 30):Z tP (.round [.yld 0,ptD k t a v c] (Q1 s cs n))=some (.ret (.bool true) (Q1 s (cs++qhJ k t a v c) (n+1))):=by
 have r1:qao (n+1) 48=true:=by simp only[qao,decide_eq_true_eq]; omega
 have hne : ¬ n=0:=by omega
 rw[qcx]
 simp[qbs,qiA,qiB,qjw,qjx,qcU,Lp.ended,Ex.isNormal,V.len,qbH,qkr,r1,hc,hne,qhJ,dkey,qcd,qaP,Wa]
end
abbrev tkO(k:Int)(t:ByteArray)(a v c:Int):Ob := .cells [.int k,.str t,.int a,.int v,.int c]
section
variable{s:ByteArray}{i j:Nat}{k a v c:Int}{t:ByteArray}
theorem qsy
  (zs:Z tP (.call 251 [.ptr 0 0,.int i] [pO s 1 (.dat (.lit (.slice none 0 0))) 0 0 12,.map kwM])=some (.ret (.int j) [pO s 1 (.dat (.lit (.slice none 0 0))) 0 0 12,.map kwM]))
  (zc:Z tP (.call 250 [.ptr 0 0,.int j] [pO s 1 (.dat (.lit (.slice none 0 0))) 0 0 12,.map kwM])=some (.ret (ptD k t a v c) [pO s 1 (.dat (.lit (.slice none 0 0))) 0 0 12,.map kwM]))
  (ha:IntKind.i64.wrap (a+t.size)=a+t.size) (h0:decide (k=0)=false) (h6:decide (k=6)=false) :
  Z tP (.loop 8 F249l0 [(0,.yld 0),(1,.ptr 1 0),(3,.int i)] (TT0 s))=Z tP (.loop 8 F249l0 [(0,.yld 0),(1,.ptr 1 0),(3,.int (a+t.size))] (TT1 s (qhJ k t a v c) 1)):=by
 have zr:=qCC (s:=s) (k:=k) (a:=a) (v:=v) (c:=c) (t:=t)
 simp only[pO,ptD,qhJ] at zs zc zr
 conv=>lhs; rw[qaa]
 simp[qab,qfi,zs,zc,zr,V.len,ha,h0,h6,qhJ,qcd,qaP,Wa]
 exact qah (by simp[Wa])
theorem qsz
  (zs:Z tP (.call 251 [.ptr 0 0,.int i] [pO s 1 (.dat (.lit (.slice none 0 0))) 0 0 12,.map kwM])=some (.ret (.int j) [pO s 1 (.dat (.lit (.slice none 0 0))) 0 0 12,.map kwM]))
  (zc:Z tP (.call 250 [.ptr 0 0,.int j] [pO s 1 (.dat (.lit (.slice none 0 0))) 0 0 12,.map kwM])=some (.ret (ptD k t a v c) [pO s 1 (.dat (.lit (.slice none 0 0))) 0 0 12,.map kwM]))
  (h:k=0\/k=6) :
  Z tP (.loop 8 F249l0 [(0,.yld 0),(1,.ptr 1 0),(3,.int i)] (TT0 s))=some (.out .ret [(0,.yld 0),(1,.ptr 1 0),(4,.ptr 8 0),(23,.bool true)] [lp8,.cells [.ptr 6 0],qxR,.cells [.int 0],.cells [.int 0],.cells [.ptr 6 0],pO s 7 (.gsl (qhJ k t a v c) 1 5 9) 0 0 12,.map kwM,tkO k t a v c,.tip 5]):=by
 have zr:=qCC (s:=s) (k:=k) (a:=a) (v:=v) (c:=c) (t:=t)
 simp only[pO,ptD,qhJ] at zs zc zr
 rw[qaa]
 rcases h with rfl|rfl<;>simp[qab,qfi,zs,zc,zr,V.len,qhJ,qcd,qaP,Wa]
theorem qsA {cs:List D} {n:Nat} (hc:cs.length=n*5) (hn0:0<n) (hn:n<2 ^ 30)
  (zs:Z tP (.call 251 [.ptr 0 0,.int i] [pO s 1 (.gsl cs n 5 2) 0 0 12,.map kwM,.tip cs.length])=some (.ret (.int j) [pO s 1 (.gsl cs n 5 2) 0 0 12,.map kwM,.tip cs.length]))
  (zc:Z tP (.call 250 [.ptr 0 0,.int j] [pO s 1 (.gsl cs n 5 2) 0 0 12,.map kwM,.tip cs.length])=some (.ret (ptD k t a v c) [pO s 1 (.gsl cs n 5 2) 0 0 12,.map kwM,.tip cs.length]))
  (ha:IntKind.i64.wrap (a+t.size)=a+t.size) (h0:decide (k=0)=false) (h6:decide (k=6)=false) :
  Z tP (.loop 8 F249l0 [(0,.yld 0),(1,.ptr 1 0),(3,.int i)] (TT1 s cs n))=Z tP (.loop 8 F249l0 [(0,.yld 0),(1,.ptr 1 0),(3,.int (a+t.size))] (TT1 s (cs++qhJ k t a v c) (n+1))):=by
 have zr:=qCD (s:=s) (k:=k) (a:=a) (v:=v) (c:=c) (t:=t) hc hn0 hn
 simp only[pO,ptD,qhJ] at zs zc zr
 conv=>lhs; rw[qaa]
 simp[qab,qfi,zs,zc,zr,V.len,ha,h0,h6,qhJ,qcd,qaP,Wa]
 exact qah (by simp[Wa])
theorem qsB {cs:List D} {n:Nat} (hc:cs.length=n*5) (hn0:0<n) (hn:n<2 ^ 30)
  (zs:Z tP (.call 251 [.ptr 0 0,.int i] [pO s 1 (.gsl cs n 5 2) 0 0 12,.map kwM,.tip cs.length])=some (.ret (.int j) [pO s 1 (.gsl cs n 5 2) 0 0 12,.map kwM,.tip cs.length]))
  (zc:Z tP (.call 250 [.ptr 0 0,.int j] [pO s 1 (.gsl cs n 5 2) 0 0 12,.map kwM,.tip cs.length])=some (.ret (ptD k t a v c) [pO s 1 (.gsl cs n 5 2) 0 0 12,.map kwM,.tip cs.length]))
  (h:k=0\/k=6) :
  Z tP (.loop 8 F249l0 [(0,.yld 0),(1,.ptr 1 0),(3,.int i)] (TT1 s cs n))=some (.out .ret [(0,.yld 0),(1,.ptr 1 0),(4,.ptr 9 0),(23,.bool true)] (TT1 s (cs++qhJ k t a v c) (n+1)++[tkO k t a v c])):=by
 have zr:=qCD (s:=s) (k:=k) (a:=a) (v:=v) (c:=c) (t:=t) hc hn0 hn
 simp only[pO,ptD,qhJ] at zs zc zr
 rw[qaa]
 rcases h with rfl|rfl<;>simp[qab,qfi,zs,zc,zr,V.len,qhJ,qcd,qaP,Wa]
end
end
section
open F
attribute [local simp] qbd qbU
abbrev ptT(t:Tk):List D:=qhJ (kindT t) (qhV t) t.at_ (valT t) t.bad
def ptC:List Tk->List D
 |[]=>[]
 |t::r=>ptT t++ptC r
theorem qgJ(t:Tk):(kindT t=0\/kindT t=6)↔(t.bad≠0\/t.s.size=0):=by
 have he:t.s=⟨#[]⟩↔t.s.size=0:=⟨fun h=>by rw[h]; rfl,fun h=>by
  have:=qdF t.s
  have hb:byl t.s=[]:=WL (by rw[qau]; exact h)
  rw[hb] at this
  exact this.symm⟩
 unfold kindT
 by_cases hb:t.bad=0
 ·by_cases h0:t.s=⟨#[]⟩
  ·simp[hb,h0]
   rfl
  ·have h0' : ¬ t.s.size=0:=fun h=>h0 (he.2 h)
   simp only[hb,h0,h0',ne_eq,not_true_eq_false,if_false,false_or,or_self,iff_false]
   split<;>(try split)<;>(try split)<;>omega
 ·simp[hb]
theorem qaW{t:Tk}(h:t.bad=0):qhV t=t.s:=by unfold qhV; rw[h]; rfl
theorem qtu(s:ByteArray){i:Nat}(hi:i<=s.size):qix s (s.size-i) false i=i+qaD false ((byl s).drop i)/\i+qaD false ((byl s).drop i)<=s.size:=by
 refine⟨qil s _ false i (Wj _),?_⟩
 have:=qgK ((byl s).drop i) false
 rw[WY,qau] at this
 omega
theorem qn9(s:ByteArray)(n:Nat){i:Nat}(hi:i<=s.size){t:Tk}(ht:tokAt 12 2 6 s (i+qaD false ((byl s).drop i))=t):qc3 12 2 6 s (n+1) i=if t.bad≠0\/t.s.size=0 then [t] else t::qc3 12 2 6 s n (t.at_+t.s.size):=by
 rw[qc3,(qtu s hi).1,ht]
theorem quI(s:ByteArray){i:Nat}(hi:i<=s.size){t:Tk}(ht:tokAt 12 2 6 s (i+qaD false ((byl s).drop i))=t)(h : ¬ (t.bad≠0\/t.s.size=0)):i<t.at_+t.s.size/\t.at_+t.s.size<=s.size:=by
 obtain⟨_,h2⟩:=qtu s hi
 have hij:i<=i+qaD false ((byl s).drop i):=by omega
 generalize i+qaD false ((byl s).drop i)=j at ht h2 hij
 by_cases hj:j<s.size
 ·have hp:=qgL hj 12 2 6
  have ha:t.at_=j:=by rw[<- ht,qdg]
  rw[ht] at hp
  omega
 ·obtain rfl:j=s.size:=by omega
  have hd:(byl s).drop s.size=[]:=WM (by rw[qau]; exact Wj _)
  exfalso
  apply h
  rw[<- ht,qdg,hd]
  exact .inr rfl
theorem qj3 (s:ByteArray) (hl:s.size<2 ^ 29) : ∀ (n i:Nat) (cs:List D) (m:Nat),s.size-i<n->i<=s.size->0<m->cs.length=m*5->m+(s.size-i)<2 ^ 30 ->
  ∃ k t a v c,Z tP (.loop 8 F249l0 [(0,.yld 0),(1,.ptr 1 0),(3,.int i)] (TT1 s cs m))=some (.out .ret [(0,.yld 0),(1,.ptr 1 0),(4,.ptr 9 0),(23,.bool true)] (TT1 s (cs++ptC (qc3 12 2 6 s n i)) (m+(qc3 12 2 6 s n i).length)++[tkO k t a v c]))
 |0,i,cs,m,h,_,_,_,_=>by omega
 |n+1,i,cs,m,hn,hi,h0,hc,hm=>by
  obtain⟨j1,j2⟩:=qtu s hi
  have zs:=qpP s (by omega) (LxS.gr cs m cs.length 0 0 12) hi
  have zc:=qua s (by omega) (LxS.gr cs m cs.length 0 0 12) j2
  obtain⟨t,ht⟩ : ∃ t,tokAt 12 2 6 s (i+qaD false ((byl s).drop i))=t:=⟨_,rfl⟩
  rw[qn9 s n hi ht]
  rw[ht] at zc
  by_cases hend:t.bad≠0\/t.s.size=0
  ·rw[if_pos hend]
   have z:=qsB hc h0 (by omega) zs zc ((qgJ t).2 hend)
   simp only[ptC,Wl,Ws]
   exact⟨_,_,_,_,_,z⟩
  ·rw[if_neg hend]
   obtain⟨q1,q2⟩:=quI s hi ht hend
   have hb:t.bad=0:=by simp only[not_or,ne_eq,Decidable.not_not] at hend; exact hend.1
   have hk : ¬ (kindT t=0\/kindT t=6):=fun h=>hend ((qgJ t).1 h)
   simp only[not_or] at hk
   have z:=qsA hc h0 (by omega) zs zc (by rw[qaW hb,qai _ (by omega)]) (decide_eq_false hk.1) (decide_eq_false hk.2)
   have hT:qhJ (kindT t) t.s t.at_ (valT t) t.bad=ptT t:=by show _=qhJ (kindT t) (qhV t) t.at_ (valT t) t.bad; rw[qaW hb]
   rw[qaW hb,hT] at z
   obtain⟨k,x,a,v,c,ih⟩:=qj3 s hl n (t.at_+t.s.size) (cs++ptT t) (m+1) (by omega) q2 (by omega) (by rw[Wb,hc]; simp only[qhJ,We,Wk]; omega) (by omega)
   refine⟨k,x,a,v,c,z.trans ?_⟩
   have e1:((t.at_:Int)+t.s.size)=((t.at_+t.s.size:Nat):Int):=by omega
   rw[e1,ih]
   simp only[ptC,Wf,We]
   rw[show m+1+(qc3 12 2 6 s n (t.at_+t.s.size)).length=m+((qc3 12 2 6 s n (t.at_+t.s.size)).length+1) by omega]
theorem qrh(s:ByteArray)(hl:s.size<2 ^ 29):Z tP (.call 249 [.yld 0,.ptr 1 0] (TT0 s))=some (.ret (.tup []) (TT1 s (ptC (toks s)) (toks s).length)):=by
 obtain⟨j1,j2⟩:=qtu s (i:=0) (by omega)
 have zs:=qpP s (by omega) (LxS.nil 0 0 12) (i:=0) (by omega)
 have zc:=qua s (by omega) (LxS.nil 0 0 12) j2
 obtain⟨t,ht⟩ : ∃ t,tokAt 12 2 6 s (0+qaD false ((byl s).drop 0))=t:=⟨_,rfl⟩
 have hn:=qn9 s s.size (i:=0) (by omega) ht
 rw[show toks s=qc3 12 2 6 s (s.size+1) 0 from rfl,hn]
 rw[ht] at zc
 by_cases hend:t.bad≠0\/t.s.size=0
 ·rw[if_pos hend]
  have z:=qsz zs zc ((qgJ t).2 hend)
  simp only[Yo] at z
  refine qac (pf:=F249) rfl rfl ?_
  simp[F249,z,ptC,qhJ,Wa]
 ·rw[if_neg hend]
  obtain⟨q1,q2⟩:=quI s (i:=0) (by omega) ht hend
  have hb:t.bad=0:=by simp only[not_or,ne_eq,Decidable.not_not] at hend; exact hend.1
  have hk : ¬ (kindT t=0\/kindT t=6):=fun h=>hend ((qgJ t).1 h)
  simp only[not_or] at hk
  have z:=qsy zs zc (by rw[qaW hb,qai _ (by omega)]) (decide_eq_false hk.1) (decide_eq_false hk.2)
  have hT:qhJ (kindT t) t.s t.at_ (valT t) t.bad=ptT t:=by show _=qhJ (kindT t) (qhV t) t.at_ (valT t) t.bad; rw[qaW hb]
  rw[qaW hb,hT] at z
  obtain⟨k,x,a,v,c,ih⟩:=qj3 s hl s.size (t.at_+t.s.size) (ptT t) 1 (by omega) q2 (by omega) (by simp only[qhJ,We,Wk]) (by omega)
  have e1:((t.at_:Int)+t.s.size)=((t.at_+t.s.size:Nat):Int):=by omega
  rw[e1,ih] at z
  simp only[Yo] at z
  have e2:ptT t++ptC (qc3 12 2 6 s s.size (t.at_+t.s.size))=ptC (t::qc3 12 2 6 s s.size (t.at_+t.s.size)):=rfl
  rw[e2] at z
  have e3:1+(qc3 12 2 6 s s.size (t.at_+t.s.size)).length=(t::qc3 12 2 6 s s.size (t.at_+t.s.size)).length:=by rw[We]; omega
  rw[e3] at z
  generalize t::qc3 12 2 6 s s.size (t.at_+t.s.size)=T at z ⊢
  refine qac (pf:=F249) rfl rfl ?_
  simp[F249,z,Wa]
end
section
open F
attribute [local simp] qbd qbU dkey
abbrev PS(s:ByteArray)(T:List Tk)(i a c:Int):S:=[pO s 1 (.gsl (ptC T) T.length 5 2) i a c,.map kwM,.tip (ptC T).length]
theorem qng : ∀ (T:List Tk) (i:Nat),(ptC T).drop (i*5)=ptC (T.drop i)
 |[],i=>by simp[ptC]
 |t::T,0=>by simp
 |t::T,i+1=>by
  rw[show (i+1)*5=i*5+5 by omega]
  simp only[ptC,qhJ,Wg,Wc,Ye]
  exact qng T i
theorem qu1{T:List Tk}{i:Nat}{t:Tk}{r:List Tk}(h:T.drop i=t::r):cutCells (ptC T) (i*5) 5=some [.lit (.int .i64 (kindT t)),.lit (.string (qhV t)),.lit (.int .i64 t.at_),.lit (.int .i64 (valT t)),.lit (.int .i64 t.bad)]:=by
 unfold cutCells
 rw[qng,h]
 simp[ptC,qhJ]
section
variable{s:ByteArray}{T:List Tk}{i:Nat}{a c:Int}{t:Tk}{r:List Tk}
theorem qnh(h:T.drop i=t::r):i<T.length:=by
 have:=congrArg List.length h
 rw[WY,We] at this
 omega
theorem qbT(h:T.drop i=t::r)(hb:t.bad=0):Z tP (.call 252 [.ptr 0 0] (PS s T i a c))=some (.ret (ptk t) (PS s T i a c)):=by
 have hlt:(i:Int)<T.length:=by have:=qnh h; omega
 have hc:=qu1 h
 have hk : ¬ kindT t=6:=fun e=>by
  unfold kindT at e
  rw[if_neg (by simp[hb])] at e
  revert e
  split<;>(try split)<;>(try split)<;>omega
 refine qac (pf:=F252) rfl rfl ?_
 simp[F252,qaf,hlt,hc,hk,Wa]
end
end
section
open F
attribute [local simp] qbd qbU dkey
def WfQ(T:List Tk):Prop := ∀ i t,T.drop i=[t]->t.bad≠0\/t.s=⟨#[]⟩
section
variable{s:ByteArray}{T:List Tk}{i:Nat}{a c:Int}{t:Tk}{r:List Tk}
theorem WfQ.next(hw:WfQ T)(h:T.drop i=t::r)(hb:t.bad=0)(hs:t.s≠⟨#[]⟩):T.drop (i+1)=r/\r≠[]:=by
 refine⟨by rw[<- List.drop_drop,h]; rfl,?_⟩
 rintro rfl
 rcases hw i t h with h1|h1
 ·exact h1 hb
 ·exact hs h1
theorem qlU(hb:t.bad=0):(kindT t=0)=(t.s=⟨#[]⟩):=by
 have:=qgJ t
 apply propext
 constructor
 ·intro h
  rcases this.1 (.inl h) with h1|h1
  ·exact absurd hb h1
  ·have hbl:byl t.s=[]:=WL (by rw[qau]; exact h1)
   have:=qdF t.s
   rw[hbl] at this
   exact this.symm
 ·intro h
  unfold kindT
  rw[if_neg (by simp[hb]),if_pos h]
theorem qci(h:T.drop i=t::r)(hb:t.bad=0){d:D}{l:List ByteArray}(hd:RowS d l)(hl:l.length<2 ^ 40)(hn:(⟨#[]⟩:ByteArray)∉l):Z tP (.call 269 [.ptr 0 0,.dat d] (PS s T i a c))=some (.ret (.bool (decide (t.s∈l))) (PS s T i a c)):=by
 have zp:=qbT (s:=s) (a:=a) (c:=c) h hb
 have zc:=qoW hd hl t.s
 have ho:=hd.one
 have hcl:=hd.cells
 have ht:=qaW hb
 have hk:=qlU hb
 simp only[PS,pO,ptk,ptD,ht] at zp
 refine qac (pf:=F269) rfl rfl ?_
 by_cases h0:t.s=⟨#[]⟩
 ·have hk0:decide (kindT t=0)=true:=decide_eq_true (hk.mpr h0)
  have hm:t.s∉l:=by rw[h0]; exact hn
  simp[F269,zp,zc,ho,hcl,hk0,hm,Wa]
 ·have hk0:decide (kindT t=0)=false:=decide_eq_false (fun e=>h0 (hk.mp e))
  simp[F269,zp,zc,ho,hcl,hk0,Wa]
theorem qcj(h:T.drop i=t::r)(hb:t.bad=0)(hl:T.length<2 ^ 40):Z tP (.call 277 [.ptr 0 0] (PS s T i a c))=some (.ret (ptk t) (PS s T ((i+1:Nat):Int) a c)):=by
 have zp:=qbT (s:=s) (a:=a) (c:=c) h hb
 have hlt:=qnh h
 have w1:=qai ((i:Int)+1) (by omega)
 simp only[PS,pO,ptk,ptD] at zp
 refine qac (pf:=F277) rfl rfl ?_
 simp[F277,zp,w1,Wa]
theorem qj2(h:T.drop i=t::r)(hb:t.bad=0)(hl:T.length<2 ^ 40)(hx:t.s≠⟨#[]⟩):Z tP (.call 253 [.ptr 0 0,.str t.s] (PS s T i a c))=some (.ret (.tup []) (PS s T ((i+1:Nat):Int) a c)):=by
 have zi:=qci (s:=s) (a:=a) (c:=c) h hb (qaN [t.s] true) (by simp) (by simp; exact fun e=>hx e.symm)
 have hlt:=qnh h
 have w1:=qai ((i:Int)+1) (by omega)
 simp only[PS,pO,strC,Wv,WB,Ws,Wm,decide_true] at zi
 refine qac (pf:=F253) rfl rfl ?_
 simp[F253,zi,w1,Wa]
end
end
section
open F
attribute [local simp] qbd qbU dkey
def fnP:Nat->Nat
 |1=>279|2=>287|3=>290|4=>292|5=>297|6=>304|7=>308|_=>309
def clF:Nat->Nat
 |1=>286|2=>289|5=>303|_=>307
def qjL:Nat->List ByteArray
 |1=>[⟨#[124,124]⟩] | 2=>[⟨#[38,38]⟩] | 5=>[⟨#[43]⟩,⟨#[45]⟩] | _=>[⟨#[42]⟩,⟨#[47]⟩]
def qgB(p:Nat):Prop:=p=1\/p=2\/p=5\/p=6
abbrev CS(s:ByteArray)(T:List Tk)(lv:Int)(i a c:Int):S:=[.cells [.ptr 2 0],.cells [.int lv],pO s 3 (.gsl (ptC T) T.length 5 4) i a c,.map kwM,.tip (ptC T).length]
abbrev BS(s:ByteArray)(T:List Tk)(lv:Int)(i a c:Int):S:=[pO s 3 (.gsl (ptC T) T.length 5 4) i a c,.cells [.ptr 0 0],.cells [.int lv],.map kwM,.tip (ptC T).length]
abbrev ndO(e:E):Ob := .cells [.int e.kind,.int e.num,.str e.str,.dat e.kids]
abbrev nd0:Ob := .cells [.int 0,.int 0,.str ⟨#[]⟩,.dat (.lit (.slice none 0 0))]
abbrev BL(s:ByteArray)(T:List Tk)(lv:Int)(i a c:Int)(e:E):S:=[pO s 3 (.gsl (ptC T) T.length 5 4) i a c,.cells [.ptr 0 0],.cells [.int lv],.map kwM,.tip (ptC T).length,nd0,ndO e]
abbrev bqF(g:Nat)(d:D):Fr:=[(0,.ptr 0 0),(1,.fn g [] [.ptr 1 0,.ptr 2 0]),(2,.dat d),(6,.ptr 5 0),(7,.ptr 6 0)]
section
variable{s:ByteArray}{T:List Tk}{i i':Nat}{lv:Int}{t:Tk}{r:List Tk}{p:Nat}
theorem qqD(hp:qgB p){e:E}(z:Z tP (.call (fnP (p+1)) [.ptr 0 0,.int lv] (PS s T i 0 12))=some (.ret e.node (PS s T i' 0 12))):Z tP (.call (clF p) [.ptr 0 0,.ptr 1 0] (CS s T lv i 0 12))=some (.ret e.node (CS s T lv i' 0 12)):=by
 simp only[PS,pO] at z
 rcases hp with rfl|rfl|rfl|rfl
 ·refine qac (pf:=F286) rfl rfl ?_
  simp only[fnP] at z
  simp[F286,z,Wa]
 ·refine qac (pf:=F289) rfl rfl ?_
  simp only[fnP] at z
  simp[F289,z,Wa]
 ·refine qac (pf:=F303) rfl rfl ?_
  simp only[fnP] at z
  simp[F303,z,Wa]
 ·refine qac (pf:=F307) rfl rfl ?_
  simp only[fnP] at z
  simp[F307,z,Wa]
theorem qsX{g:Nat}{d:D}{l:List ByteArray}(hd:RowS d l)(hl:l.length<2 ^ 40)(hn:(⟨#[]⟩:ByteArray)∉l)(h:T.drop i=t::r)(hb:t.bad=0)(hm:t.s∉l)(e:E):Z tP (.loop 5 F285l0 (bqF g d) (BL s T lv i 0 12 e))=some (.out (.exit 0) (bqF g d++[(13,.bool false)]) (BL s T lv i 0 12 e)):=by
 have zi:=qci (s:=s) (a:=0) (c:=12) h hb hd hl hn
 have ho:=hd.one
 have hcl:=hd.cells
 simp only[PS,pO,hm,decide_false] at zi
 rw[qaa]
 simp[qab,qjz,zi,ho,hcl,Wa]
theorem qqE {g:Nat} {d:D} {l:List ByteArray} (hd:RowS d l) (hl:l.length<2 ^ 40) (hT:T.length<2 ^ 40) (hn:(⟨#[]⟩:ByteArray)∉l) (h:T.drop i=t::r) (hb:t.bad=0) (hm:t.s∈l) {o:Bop} (ho':t.s=o.str) (e e':E)
  (z:Z tP (.call g [.ptr 0 0,.ptr 1 0] (CS s T lv ((i+1:Nat):Int) 0 12))=some (.ret e'.node (CS s T lv i' 0 12))):Z tP (.loop 5 F285l0 (bqF g d) (BL s T lv i 0 12 e))=Z tP (.loop 5 F285l0 (bqF g d) (BL s T lv i' 0 12 (.bin true o e e'))):=by
 have zi:=qci (s:=s) (a:=0) (c:=12) h hb hd hl hn
 have zt:=qcj (s:=s) (a:=0) (c:=12) h hb hT
 have ho:=hd.one
 have hcl:=hd.cells
 have htx:=qaW hb
 simp only[PS,pO,hm,decide_true] at zi
 simp only[PS,pO,ptk,ptD,htx,ho'] at zt
 simp only[CS,pO] at z
 simp only[WE,Wt] at z zt
 conv=>lhs; rw[qaa]
 simp[qab,qjz,zi,zt,z,ho,hcl,qcd,qaP,qcT,qeG,qdM,still,V.same,Wa]
 rfl
end
end
section
open F
attribute [local simp] qbd qbU dkey
theorem qxE{p:Nat}(hp:qgB p){y:ByteArray}{o:Bop}(h:qrN p y=some o):y=o.str/\y∈qjL p:=by
 have h1:o.str=y:=by have:=List.find?_some h; simpa using this
 have h2:=List.mem_of_find?_eq_some h
 subst h1
 refine⟨rfl,?_⟩
 rcases hp with rfl|rfl|rfl|rfl<;>simp only[Wo,Wx,or_false] at h2
 ·subst h2; decide
 ·subst h2; decide
 ·rcases h2 with rfl|rfl<;>decide
 ·rcases h2 with rfl|rfl<;>decide
theorem qxF{p:Nat}(hp:qgB p){y:ByteArray}(h:qrN p y=none):y∉qjL p:=by
 have h2:=YL.1 h
 rcases hp with rfl|rfl|rfl|rfl<;>simp only[Wo,Wx,or_false] at h2
 ·intro hm
  exact h2 .or rfl (by simpa [qjL,Bop.str,eq_comm] using hm)
 ·intro hm
  exact h2 .and rfl (by simpa [qjL,Bop.str,eq_comm] using hm)
 ·intro hm
  simp only[qjL,Wo,Wx,or_false] at hm
  rcases hm with rfl|rfl
  ·exact h2 .add (.inl rfl) (by decide)
  ·exact h2 .sub (.inr rfl) (by decide)
 ·intro hm
  simp only[qjL,Wo,Wx,or_false] at hm
  rcases hm with rfl|rfl
  ·exact h2 .mul (.inl rfl) (by decide)
  ·exact h2 .div (.inr rfl) (by decide)
theorem quO{p:Nat}(hp:qgB p):(⟨#[]⟩:ByteArray)∉qjL p/\(qjL p).length<2 ^ 40:=by
 rcases hp with rfl|rfl|rfl|rfl<;>exact⟨by decide,by decide⟩
end
section
open F
attribute [local simp] qbd qbU dkey
section
variable{s:ByteArray}{T:List Tk}{lv i i' i2:Nat}{g:Nat}{d:D}{e e':E}{a c:Int}
theorem qC7 (ho:V.one (.dat d)=true) (hc:V.cells (.dat d)=[.dat d])
  (z:Z tP (.call g [.ptr 0 0,.ptr 1 0] (CS s T lv i 0 12))=some (.ret e.node (CS s T lv i' 0 12)))
  (zl:Z tP (.loop 5 F285l0 (bqF g d) (BL s T lv i' 0 12 e))=some (.out (.exit 0) (bqF g d++[(13,.bool false)]) (BL s T lv i2 0 12 e'))) :
  Z tP (.call 285 [.ptr 0 0,.fn g [] [.ptr 1 0,.ptr 2 0],.dat d] (BS s T lv i 0 12))=some (.ret e'.node (BS s T lv i2 0 12)):=by
 simp only[CS,BL,pO,ndO] at z zl
 refine qac (pf:=F285) rfl rfl ?_
 simp[F285,z,zl,ho,hc,Wa]
theorem qC8 {p:Nat} (hp:qgB p) (z:Z tP (.call 285 [.ptr 0 0,.fn (clF p) [] [.ptr 1 0,.ptr 2 0],.dat (.sl (strC (qjL p)) (qjL p).length true)] (BS s T lv i 0 12))=some (.ret e.node (BS s T lv i' 0 12))) :
  Z tP (.call (fnP p) [.ptr 0 0,.int lv] (PS s T i 0 12))=some (.ret e.node (PS s T i' 0 12)):=by
 simp only[BS,pO] at z
 rcases hp with rfl|rfl|rfl|rfl
 ·refine qac (pf:=F279) rfl rfl ?_
  simp only[clF,qjL,strC,Wv,WB,We,Wk] at z
  simp[F279,z,Wa]
 ·refine qac (pf:=F287) rfl rfl ?_
  simp only[clF,qjL,strC,Wv,WB,We,Wk] at z
  simp[F287,z,Wa]
 ·refine qac (pf:=F297) rfl rfl ?_
  simp only[clF,qjL,strC,Wv,WB,We,Wk] at z
  simp[F297,z,Wa]
 ·refine qac (pf:=F304) rfl rfl ?_
  simp only[clF,qjL,strC,Wv,WB,We,Wk] at z
  simp[F304,z,Wa]
end
end
end Go.Pm
