/- Chapter 13's printer: statements, each kind. Chapter 13's printer: every row of statements. Chapter 13's printer: Print, whole. The abstract machine's programs: tables of functions. Chapter 13's reference printer: expressions. The abstract machine's programs: tables of functions. Chapter 13's parser: letters, digits, symbols, rows of texts. Chapter 13's parser: the lexer's reserved words; white space and comments. Chapter 13's parser: words and integers. Chapter 13's parser: a token. Chapter 13's parser: the token at an offset. -/
import Derived.Test.YtjdbkncfebebnaaDoorPmOd
import Derived.Test.YtjdbkncfebebnaaDoorPmYh
import Derived.Test.YtjdbkncfebebnaaDoorPmF4
import Derived.Test.YtjdbkncfebebnaaDoorPmFx
import Derived.Test.YtjdbkncfebebnaaDoorPmF3
import Derived.Test.YtjdbkncfebebnaaDoorPmEt
set_option linter.unusedSimpArgs false
set_option linter.unusedVariables false
section SOh
namespace Go.Pm
open F
set_option maxHeartbeats 8000000
attribute [local simp] qfj qhJ
def qjB (b:Ss):Prop := ∀ (k n:Int) (s:ByteArray) (f:Bool) w w',w'=pw w (⟨#[123]⟩::(b.tx++[⟨#[125]⟩]))->w'.length<2 ^ 40->Z tQ (.call 244 [.ptr 0 0,.dat (.agg [.lit (.int .i64 k),.lit (.int .i64 n),.lit (.string s),kd f b.fo.len b.fo.cells])] (PW w))=some (.ret (.tup []) (PW w'))
theorem qon {f fb fc:Bool} {s:ByteArray} {e:E} (hs:s.size≠0) (he:qe3 e 1 1) {w w':List UInt8} (hw:w'=pw w ([s,⟨#[61]⟩]++((e.tx false 1)++([⟨#[59]⟩])))) (hsz:w'.length<2 ^ 40) :
  Z tQ (.call 260 [.ptr 0 0,.dat (.agg [.lit (.int .i64 1),.lit (.int .i64 0),.lit (.string s),.sl [.lit (.int .i64 e.kind),.lit (.int .i64 e.num),.lit (.string e.str),e.kids] 1 f])] (PW w))=some (.ret (.tup []) (PW w')):=by
 obtain⟨w1,e1⟩ : ∃ v,v=pw w [s,⟨#[61]⟩]:=⟨_,rfl⟩
 obtain⟨w2,e2⟩ : ∃ v,v=pw w1 (e.tx false 1):=⟨_,rfl⟩
 have e3:w'=pw w2 [⟨#[59]⟩]:=by rw[hw,qat,<- e1,qat,<- e2]
 have s3:=hsz
 have s2:=qak e3 s3
 have s1:=qak e2 s2
 have z1:=qe9 e1 (hs) (by decide) s1
 have z2:=he w1 w2 e2 s2
 have z3:=qbz e3 (by decide) s3
 have f0:=qdN (k:=1) (n:=0) (s:=s)  (a:=e.kind) (b:=e.num) (t:=e.str) (u:=e.kids) (r:=[]) (m:=1) (f:=f) (by omega) (by omega) (qaJ e)
 simp only[PW,PW'] at z1 z2 z3 ⊢
 clear e1 e2 e3 s1 s2 s3 hw hsz
 refine qaa (pf:=F260) rfl rfl ?_
 simp[F260,f0,z1,z2,z3,List.range_succ]
theorem qpZ {f fb fc:Bool} {s:ByteArray} {x y:E} (hs:s.size≠0) (hx:qe3 x 1 1) (hy:qe3 y 1 1) {w w':List UInt8} (hw:w'=pw w ([s,⟨#[91]⟩]++((x.tx false 1)++([⟨#[93]⟩,⟨#[61]⟩]++((y.tx false 1)++([⟨#[59]⟩])))))) (hsz:w'.length<2 ^ 40) :
  Z tQ (.call 260 [.ptr 0 0,.dat (.agg [.lit (.int .i64 2),.lit (.int .i64 0),.lit (.string s),.sl [.lit (.int .i64 x.kind),.lit (.int .i64 x.num),.lit (.string x.str),x.kids,.lit (.int .i64 y.kind),.lit (.int .i64 y.num),.lit (.string y.str),y.kids] 2 f])] (PW w))=some (.ret (.tup []) (PW w')):=by
 obtain⟨w1,e1⟩ : ∃ v,v=pw w [s,⟨#[91]⟩]:=⟨_,rfl⟩
 obtain⟨w2,e2⟩ : ∃ v,v=pw w1 (x.tx false 1):=⟨_,rfl⟩
 obtain⟨w3,e3⟩ : ∃ v,v=pw w2 [⟨#[93]⟩,⟨#[61]⟩]:=⟨_,rfl⟩
 obtain⟨w4,e4⟩ : ∃ v,v=pw w3 (y.tx false 1):=⟨_,rfl⟩
 have e5:w'=pw w4 [⟨#[59]⟩]:=by rw[hw,qat,<- e1,qat,<- e2,qat,<- e3,qat,<- e4]
 have s5:=hsz
 have s4:=qak e5 s5
 have s3:=qak e4 s4
 have s2:=qak e3 s3
 have s1:=qak e2 s2
 have z1:=qe9 e1 (hs) (by decide) s1
 have z2:=hx w1 w2 e2 s2
 have z3:=qe9 e3 (by decide) (by decide) s3
 have z4:=hy w3 w4 e4 s4
 have z5:=qbz e5 (by decide) s5
 have f0:=qdN (k:=2) (n:=0) (s:=s)  (a:=x.kind) (b:=x.num) (t:=x.str) (u:=x.kids) (r:=[.lit (.int .i64 y.kind),.lit (.int .i64 y.num),.lit (.string y.str),y.kids]) (m:=2) (f:=f) (by omega) (by omega) (qaJ x)
 have f1:=qfX (k:=2) (n:=0) (s:=s) (x0 := .lit (.int .i64 x.kind)) (x1 := .lit (.int .i64 x.num)) (x2 := .lit (.string x.str)) (x3:=x.kids) (a:=y.kind) (b:=y.num) (t:=y.str) (u:=y.kids) (r:=[]) (m:=2) (f:=f) (by omega) (by omega) (qaJ y)
 simp only[PW,PW'] at z1 z2 z3 z4 z5 ⊢
 clear e1 e2 e3 e4 e5 s1 s2 s3 s4 s5 hw hsz
 refine qaa (pf:=F260) rfl rfl ?_
 simp[F260,f0,f1,z1,z2,z3,z4,z5,List.range_succ]
theorem qoo {f fb fc:Bool} {x y:E} (hx:qe3 x 1 1) (hy:qe3 y 1 1) {w w':List UInt8} (hw:w'=pw w ([⟨#[101,102,102,101,99,116]⟩]++((x.tx false 1)++([⟨#[44]⟩]++((y.tx false 1)++([⟨#[59]⟩])))))) (hsz:w'.length<2 ^ 40) :
  Z tQ (.call 260 [.ptr 0 0,.dat (.agg [.lit (.int .i64 5),.lit (.int .i64 0),.lit (.string ⟨#[]⟩),.sl [.lit (.int .i64 x.kind),.lit (.int .i64 x.num),.lit (.string x.str),x.kids,.lit (.int .i64 y.kind),.lit (.int .i64 y.num),.lit (.string y.str),y.kids] 2 f])] (PW w))=some (.ret (.tup []) (PW w')):=by
 obtain⟨w1,e1⟩ : ∃ v,v=pw w [⟨#[101,102,102,101,99,116]⟩]:=⟨_,rfl⟩
 obtain⟨w2,e2⟩ : ∃ v,v=pw w1 (x.tx false 1):=⟨_,rfl⟩
 obtain⟨w3,e3⟩ : ∃ v,v=pw w2 [⟨#[44]⟩]:=⟨_,rfl⟩
 obtain⟨w4,e4⟩ : ∃ v,v=pw w3 (y.tx false 1):=⟨_,rfl⟩
 have e5:w'=pw w4 [⟨#[59]⟩]:=by rw[hw,qat,<- e1,qat,<- e2,qat,<- e3,qat,<- e4]
 have s5:=hsz
 have s4:=qak e5 s5
 have s3:=qak e4 s4
 have s2:=qak e3 s3
 have s1:=qak e2 s2
 have z1:=qbz e1 (by decide) s1
 have z2:=hx w1 w2 e2 s2
 have z3:=qbz e3 (by decide) s3
 have z4:=hy w3 w4 e4 s4
 have z5:=qbz e5 (by decide) s5
 have f0:=qdN (k:=5) (n:=0) (s:=⟨#[]⟩)  (a:=x.kind) (b:=x.num) (t:=x.str) (u:=x.kids) (r:=[.lit (.int .i64 y.kind),.lit (.int .i64 y.num),.lit (.string y.str),y.kids]) (m:=2) (f:=f) (by omega) (by omega) (qaJ x)
 have f1:=qfX (k:=5) (n:=0) (s:=⟨#[]⟩) (x0 := .lit (.int .i64 x.kind)) (x1 := .lit (.int .i64 x.num)) (x2 := .lit (.string x.str)) (x3:=x.kids) (a:=y.kind) (b:=y.num) (t:=y.str) (u:=y.kids) (r:=[]) (m:=2) (f:=f) (by omega) (by omega) (qaJ y)
 simp only[PW,PW'] at z1 z2 z3 z4 z5 ⊢
 clear e1 e2 e3 e4 e5 s1 s2 s3 s4 s5 hw hsz
 refine qaa (pf:=F260) rfl rfl ?_
 simp[F260,f0,f1,z1,z2,z3,z4,z5,List.range_succ]
theorem qp0 {f fb fc:Bool} {c:E} {p:Ss} (hc:qe3 c 1 1) (hb:qjB p) {w w':List UInt8} (hw:w'=pw w ([⟨#[119,104,105,108,101]⟩]++((c.tx false 1)++((⟨#[123]⟩::(p.tx++[⟨#[125]⟩])))))) (hsz:w'.length<2 ^ 40) :
  Z tQ (.call 260 [.ptr 0 0,.dat (.agg [.lit (.int .i64 4),.lit (.int .i64 0),.lit (.string ⟨#[]⟩),.sl [.lit (.int .i64 c.kind),.lit (.int .i64 c.num),.lit (.string c.str),c.kids,.lit (.int .i64 7),.lit (.int .i64 0),.lit (.string ⟨#[]⟩),kd fb p.fo.len p.fo.cells] 2 f])] (PW w))=some (.ret (.tup []) (PW w')):=by
 obtain⟨w1,e1⟩ : ∃ v,v=pw w [⟨#[119,104,105,108,101]⟩]:=⟨_,rfl⟩
 obtain⟨w2,e2⟩ : ∃ v,v=pw w1 (c.tx false 1):=⟨_,rfl⟩
 have e3:w'=pw w2 (⟨#[123]⟩::(p.tx++[⟨#[125]⟩])):=by rw[hw,qat,<- e1,qat,<- e2]
 have s3:=hsz
 have s2:=qak e3 s3
 have s1:=qak e2 s2
 have z1:=qbz e1 (by decide) s1
 have z2:=hc w1 w2 e2 s2
 have z3:=hb 7 0 ⟨#[]⟩ fb w2 w' e3 s3
 have f0:=qdN (k:=4) (n:=0) (s:=⟨#[]⟩)  (a:=c.kind) (b:=c.num) (t:=c.str) (u:=c.kids) (r:=[.lit (.int .i64 7),.lit (.int .i64 0),.lit (.string ⟨#[]⟩),kd fb p.fo.len p.fo.cells]) (m:=2) (f:=f) (by omega) (by omega) (qaJ c)
 have f1:=qfX (k:=4) (n:=0) (s:=⟨#[]⟩) (x0 := .lit (.int .i64 c.kind)) (x1 := .lit (.int .i64 c.num)) (x2 := .lit (.string c.str)) (x3:=c.kids) (a:=7) (b:=0) (t:=⟨#[]⟩) (u:=kd fb p.fo.len p.fo.cells) (r:=[]) (m:=2) (f:=f) (by omega) (by omega) (qkq _ _ _)
 simp only[PW,PW'] at z1 z2 z3 ⊢
 clear e1 e2 e3 s1 s2 s3 hw hsz
 refine qaa (pf:=F260) rfl rfl ?_
 simp[F260,f0,f1,z1,z2,z3,List.range_succ]
theorem quc {f fb fc:Bool} {c:E} {p q:Ss} (hc:qe3 c 1 1) (hb:qjB p) (hq:q.fo.len=0) {w w':List UInt8} (hw:w'=pw w ([⟨#[105,102]⟩]++((c.tx false 1)++((⟨#[123]⟩::(p.tx++[⟨#[125]⟩])))))) (hsz:w'.length<2 ^ 40) :
  Z tQ (.call 260 [.ptr 0 0,.dat (.agg [.lit (.int .i64 3),.lit (.int .i64 0),.lit (.string ⟨#[]⟩),.sl [.lit (.int .i64 c.kind),.lit (.int .i64 c.num),.lit (.string c.str),c.kids,.lit (.int .i64 7),.lit (.int .i64 0),.lit (.string ⟨#[]⟩),kd fb p.fo.len p.fo.cells,.lit (.int .i64 7),.lit (.int .i64 0),.lit (.string ⟨#[]⟩),kd fc q.fo.len q.fo.cells] 3 f])] (PW w))=some (.ret (.tup []) (PW w')):=by
 obtain⟨w1,e1⟩ : ∃ v,v=pw w [⟨#[105,102]⟩]:=⟨_,rfl⟩
 obtain⟨w2,e2⟩ : ∃ v,v=pw w1 (c.tx false 1):=⟨_,rfl⟩
 have e3:w'=pw w2 (⟨#[123]⟩::(p.tx++[⟨#[125]⟩])):=by rw[hw,qat,<- e1,qat,<- e2]
 have s3:=hsz
 have s2:=qak e3 s3
 have s1:=qak e2 s2
 have z1:=qbz e1 (by decide) s1
 have z2:=hc w1 w2 e2 s2
 have z3:=hb 7 0 ⟨#[]⟩ fb w2 w' e3 s3
 have f0:=qdN (k:=3) (n:=0) (s:=⟨#[]⟩)  (a:=c.kind) (b:=c.num) (t:=c.str) (u:=c.kids) (r:=[.lit (.int .i64 7),.lit (.int .i64 0),.lit (.string ⟨#[]⟩),kd fb p.fo.len p.fo.cells,.lit (.int .i64 7),.lit (.int .i64 0),.lit (.string ⟨#[]⟩),kd fc q.fo.len q.fo.cells]) (m:=3) (f:=f) (by omega) (by omega) (qaJ c)
 have f1:=qfX (k:=3) (n:=0) (s:=⟨#[]⟩) (x0 := .lit (.int .i64 c.kind)) (x1 := .lit (.int .i64 c.num)) (x2 := .lit (.string c.str)) (x3:=c.kids) (a:=7) (b:=0) (t:=⟨#[]⟩) (u:=kd fb p.fo.len p.fo.cells) (r:=[.lit (.int .i64 7),.lit (.int .i64 0),.lit (.string ⟨#[]⟩),kd fc q.fo.len q.fo.cells]) (m:=3) (f:=f) (by omega) (by omega) (qkq _ _ _)
 have f2:=qqm (k:=3) (n:=0) (s:=⟨#[]⟩) (x0 := .lit (.int .i64 c.kind)) (x1 := .lit (.int .i64 c.num)) (x2 := .lit (.string c.str)) (x3:=c.kids) (y0 := .lit (.int .i64 7)) (y1 := .lit (.int .i64 0)) (y2 := .lit (.string ⟨#[]⟩)) (y3:=kd fb p.fo.len p.fo.cells) (a:=7) (b:=0) (t:=⟨#[]⟩) (u:=kd fc q.fo.len q.fo.cells) (r:=[]) (m:=3) (f:=f) (by omega) (by omega) (qkq _ _ _)
 have hq1 : ∀ cs,kd fc q.fo.len cs = .lit (.slice none 0 0):=fun cs=>by rw[hq]; rfl
 simp only[hq1] at f0 f1 f2 ⊢
 simp only[PW,PW'] at z1 z2 z3 ⊢
 clear e1 e2 e3 s1 s2 s3 hw hsz
 refine qaa (pf:=F260) rfl rfl ?_
 simp[F260,f0,f1,f2,z1,z2,z3,List.range_succ,qnU]
theorem qud {f fb fc:Bool} {c:E} {p q:Ss} (hc:qe3 c 1 1) (hb:qjB p) (hq:0<q.fo.len) (hd:qjB q) {w w':List UInt8} (hw:w'=pw w ([⟨#[105,102]⟩]++((c.tx false 1)++((⟨#[123]⟩::(p.tx++[⟨#[125]⟩]))++([⟨#[101,108,115,101]⟩]++((⟨#[123]⟩::(q.tx++[⟨#[125]⟩])))))))) (hsz:w'.length<2 ^ 40) :
  Z tQ (.call 260 [.ptr 0 0,.dat (.agg [.lit (.int .i64 3),.lit (.int .i64 0),.lit (.string ⟨#[]⟩),.sl [.lit (.int .i64 c.kind),.lit (.int .i64 c.num),.lit (.string c.str),c.kids,.lit (.int .i64 7),.lit (.int .i64 0),.lit (.string ⟨#[]⟩),kd fb p.fo.len p.fo.cells,.lit (.int .i64 7),.lit (.int .i64 0),.lit (.string ⟨#[]⟩),kd fc q.fo.len q.fo.cells] 3 f])] (PW w))=some (.ret (.tup []) (PW w')):=by
 obtain⟨w1,e1⟩ : ∃ v,v=pw w [⟨#[105,102]⟩]:=⟨_,rfl⟩
 obtain⟨w2,e2⟩ : ∃ v,v=pw w1 (c.tx false 1):=⟨_,rfl⟩
 obtain⟨w3,e3⟩ : ∃ v,v=pw w2 (⟨#[123]⟩::(p.tx++[⟨#[125]⟩])):=⟨_,rfl⟩
 obtain⟨w4,e4⟩ : ∃ v,v=pw w3 [⟨#[101,108,115,101]⟩]:=⟨_,rfl⟩
 have e5:w'=pw w4 (⟨#[123]⟩::(q.tx++[⟨#[125]⟩])):=by rw[hw,qat,<- e1,qat,<- e2,qat,<- e3,qat,<- e4]
 have s5:=hsz
 have s4:=qak e5 s5
 have s3:=qak e4 s4
 have s2:=qak e3 s3
 have s1:=qak e2 s2
 have z1:=qbz e1 (by decide) s1
 have z2:=hc w1 w2 e2 s2
 have z3:=hb 7 0 ⟨#[]⟩ fb w2 w3 e3 s3
 have z4:=qbz e4 (by decide) s4
 have z5:=hd 7 0 ⟨#[]⟩ fc w4 w' e5 s5
 have f0:=qdN (k:=3) (n:=0) (s:=⟨#[]⟩)  (a:=c.kind) (b:=c.num) (t:=c.str) (u:=c.kids) (r:=[.lit (.int .i64 7),.lit (.int .i64 0),.lit (.string ⟨#[]⟩),kd fb p.fo.len p.fo.cells,.lit (.int .i64 7),.lit (.int .i64 0),.lit (.string ⟨#[]⟩),kd fc q.fo.len q.fo.cells]) (m:=3) (f:=f) (by omega) (by omega) (qaJ c)
 have f1:=qfX (k:=3) (n:=0) (s:=⟨#[]⟩) (x0 := .lit (.int .i64 c.kind)) (x1 := .lit (.int .i64 c.num)) (x2 := .lit (.string c.str)) (x3:=c.kids) (a:=7) (b:=0) (t:=⟨#[]⟩) (u:=kd fb p.fo.len p.fo.cells) (r:=[.lit (.int .i64 7),.lit (.int .i64 0),.lit (.string ⟨#[]⟩),kd fc q.fo.len q.fo.cells]) (m:=3) (f:=f) (by omega) (by omega) (qkq _ _ _)
 have f2:=qqm (k:=3) (n:=0) (s:=⟨#[]⟩) (x0 := .lit (.int .i64 c.kind)) (x1 := .lit (.int .i64 c.num)) (x2 := .lit (.string c.str)) (x3:=c.kids) (y0 := .lit (.int .i64 7)) (y1 := .lit (.int .i64 0)) (y2 := .lit (.string ⟨#[]⟩)) (y3:=kd fb p.fo.len p.fo.cells) (a:=7) (b:=0) (t:=⟨#[]⟩) (u:=kd fc q.fo.len q.fo.cells) (r:=[]) (m:=3) (f:=f) (by omega) (by omega) (qkq _ _ _)
 have hq1:(0:Int)<q.fo.len:=by omega
 simp only[PW,PW'] at z1 z2 z3 z4 z5 ⊢
 clear e1 e2 e3 e4 e5 s1 s2 s3 s4 s5 hw hsz
 refine qaa (pf:=F260) rfl rfl ?_
 simp[F260,f0,f1,f2,z1,z2,z3,z4,z5,List.range_succ,hq1,hq]
theorem qsi {f fb:Bool} {d:D} (hd:V.one (.dat d)=true) (hcl:V.cells (.dat d)=[.dat d]) {w w':List UInt8} (hw:w'=pw w [⟨#[115,116,111,112]⟩,⟨#[59]⟩]) (hsz:w'.length<2 ^ 40) :
  Z tQ (.call 260 [.ptr 0 0,.dat (.agg [.lit (.int .i64 6),.lit (.int .i64 0),.lit (.string ⟨#[]⟩),d])] (PW w))=some (.ret (.tup []) (PW w')):=by
 have z1:=qe9 hw (by decide) (by decide) hsz
 simp only[PW,PW'] at z1 ⊢
 refine qaa (pf:=F260) rfl rfl ?_
 simp[F260,z1,hd,hcl,List.range_succ]
end Go.Pm
end SOh
section SOi
namespace Go.Pm
open F
set_option maxHeartbeats 8000000
attribute [local simp] qfj qhJ
def qsX (s:Ss):Prop := ∀ (cs:List D) (m i:Nat) (f:Bool) w w',cs.drop (i*4)=s.fo.cells->i+s.fo.len=m->m<2 ^ 40->w'=pw w s.tx->w'.length<2 ^ 40 ->
 Z tQ (.loop 2 F244l0 [(0,.ptr 0 0),(10,.dat (.sl cs m f)),(11,.int m),(12,.int i)] (PW w))=some (.out (.exit 0) [(0,.ptr 0 0),(10,.dat (.sl cs m f)),(11,.int m),(12,.int m),(13,.bool false)] (PW w'))
def qsY:Ss->Prop
 | .block _ b r=>qjB b/\qsY r
 | _=>True
theorem qfc {cs:List D} {m i:Nat} {f:Bool} {w w1:List UInt8} {k n:Int} {s:ByteArray} {d:D} {rest:List D} (hd:cs.drop (i*4) = .lit (.int .i64 k) :: .lit (.int .i64 n) :: .lit (.string s)::d::rest)
  (h1:V.one (.dat d)=true) (hcl:V.cells (.dat d)=[.dat d]) (hi:i<m) (hm:m<2 ^ 40)
  (zs:Z tQ (.call 260 [.ptr 0 0,.dat (.agg [.lit (.int .i64 k),.lit (.int .i64 n),.lit (.string s),d])] (PW w))=some (.ret (.tup []) (PW w1)))
  {r:Res} (zr:Z tQ (.loop 2 F244l0 [(0,.ptr 0 0),(10,.dat (.sl cs m f)),(11,.int m),(12,.int ((i+1:Nat):Int))] (PW w1))=some r) :
  Z tQ (.loop 2 F244l0 [(0,.ptr 0 0),(10,.dat (.sl cs m f)),(11,.int m),(12,.int i)] (PW w))=some r:=by
 have hc:=qvW hd
 have hlt:(i:Int)<m:=by omega
 have w1':IntKind.i64.wrap ((i:Int)+1)=((i+1:Nat):Int):=by rw[qag _ (by omega)]; omega
 rw[<- zr]
 simp only[PW,PW'] at zs ⊢
 conv=>lhs; rw[qac]
 generalize ((i+1:Nat):Int)=i1 at *
 simp[qae,qgd,qan,hc,h1,hcl,hlt,hi,zs,w1',List.range_succ]
 all_goals exact qam (by simp[gcF,h1,hcl,List.range_succ])
theorem qlu {b:Ss} (hg:b.good none) (hl:qsX b):qjB b:=by
 intro k n s f w w' hw hsz
 obtain⟨w1,e1⟩ : ∃ v,v=pw w [⟨#[123]⟩]:=⟨_,rfl⟩
 obtain⟨w2,e2⟩ : ∃ v,v=pw w1 b.tx:=⟨_,rfl⟩
 have e3:w'=pw w2 [⟨#[125]⟩]:=by rw[hw,e2,e1,<- qat,<- qat]; rfl
 have s3:=hsz
 have s2:=qak e3 s3
 have s1:=qak e2 s2
 have htg:=qqq (qh7 b none hg).ok
 have hb:b.fo.len<2 ^ 40:=by
  have h1:=qeW b hg
  have h2:=qiM b.tx (wl w1) (fun t ht=>qjv (htg t ht))
  have h3:=congrArg List.length e2
  simp only[pw,List.length_append] at h3
  omega
 have z1:=qbz e1 (by decide) s1
 have z3:=qbz e3 (by decide) s3
 refine qaa (pf:=F244) rfl rfl ?_
 cases hbl:b.fo.len with
 | zero=>
  have hn:=qgr hbl
  subst hn
  have:w2=w1:=by rw[e2]; exact qlR w1
  subst this
  simp only[PW,PW'] at z1 z3 ⊢
  simp[F244,z1,z3,qnU,qac,qae,qgd,List.range_succ]
 | succ q=>
  have z2:=hl b.fo.cells (q+1) 0 f w1 w2 (by simp) (by omega) (by omega) e2 s2
  have hk:kd f (q+1) b.fo.cells = .sl b.fo.cells (q+1) f:=rfl
  rw[hk]
  generalize q+1=M at *
  have z2':Z tQ (.loop 2 F244l0 [(0,.ptr 0 0),(10,.dat (.sl b.fo.cells M f)),(11,.int M),(12,.int 0)] (PW w1++[.cells [.int k,.int n,.str s,.dat (.sl b.fo.cells M f)]]))=_:=(qam (by simp[gcF,List.range_succ])).trans z2
  simp only[PW,PW',List.cons_append,List.nil_append] at z1 z2' z3 ⊢
  simp[F244,z1,z2',z3,qtM,List.range_succ]
theorem qoI {cs:List D} {m:Nat} {f:Bool} {w:List UInt8}:Z tQ (.loop 2 F244l0 [(0,.ptr 0 0),(10,.dat (.sl cs m f)),(11,.int m),(12,.int m)] (PW w))=some (.out (.exit 0) [(0,.ptr 0 0),(10,.dat (.sl cs m f)),(11,.int m),(12,.int m),(13,.bool false)] (PW w)):=by
 rw[qac]
 simp[qae,qgd,List.range_succ]
theorem pe1 {e:E} (h:e.good):qe3 e 1 1:=qj6 e h 1 1 rfl (by omega)
theorem qsZ : ∀ s:Ss,(s.good none->qsX s)/\((∃ k,s.good (some k))->qsY s):=by
 intro s
 induction s with
 | nil=>
  refine⟨fun _ cs m i f w w' hd hm hm2 hw hs=>?_,fun _=>trivial⟩
  rw[Ss.tx,qlR] at hw
  subst hw
  have:i=m:=by simpa [Ss.fo] using hm
  subst this
  exact qoI
 | assign g s e r ih=>
  refine⟨fun h cs m i f w w' hd hm hm2 hw hs=>?_,fun _=>trivial⟩
  obtain⟨_,hn,he,hr⟩:=h
  simp only[Ss.fo,qav,qkr,qaN,qbd,qmO,qf5,qa1] at hd hm
  obtain⟨w1,e1⟩ : ∃ v,v=pw w ([s,⟨#[61]⟩]++(e.tx false 1++[⟨#[59]⟩])):=⟨_,rfl⟩
  have e2:w'=pw w1 r.tx:=by
   rw[hw,e1,<- qat]
   simp only[Ss.tx,List.cons_append,List.nil_append,List.append_assoc]
   rfl
  exact qfc hd rfl rfl (by omega) hm2 (qon (fb:=false) (fc:=false) (qjv hn.1) (pe1 he) e1 (qak e2 hs)) (ih.1 hr cs m (i+1) f w1 w' (qbr hd) (by omega) hm2 e2 hs)
 | store g s a b r ih=>
  refine⟨fun h cs m i f w w' hd hm hm2 hw hs=>?_,fun _=>trivial⟩
  obtain⟨_,hn,ha,hb,hr⟩:=h
  simp only[Ss.fo,qav,qkr,qaN,qbd,qmO,qf5,qa1] at hd hm
  obtain⟨w1,e1⟩ : ∃ v,v=pw w ([s,⟨#[91]⟩]++(a.tx false 1++([⟨#[93]⟩,⟨#[61]⟩]++(b.tx false 1++[⟨#[59]⟩])))):=⟨_,rfl⟩
  have e2:w'=pw w1 r.tx:=by
   rw[hw,e1,<- qat]
   simp only[Ss.tx,List.cons_append,List.nil_append,List.append_assoc]
   rfl
  exact qfc hd rfl rfl (by omega) hm2 (qpZ (fb:=false) (fc:=false) (qiw hn) (pe1 ha) (pe1 hb) e1 (qak e2 hs)) (ih.1 hr cs m (i+1) f w1 w' (qbr hd) (by omega) hm2 e2 hs)
 | effect g a b r ih=>
  refine⟨fun h cs m i f w w' hd hm hm2 hw hs=>?_,fun _=>trivial⟩
  obtain⟨_,ha,hb,hr⟩:=h
  simp only[Ss.fo,qav,qkr,qaN,qbd,qmO,qf5,qa1] at hd hm
  obtain⟨w1,e1⟩ : ∃ v,v=pw w ([⟨#[101,102,102,101,99,116]⟩]++(a.tx false 1++([⟨#[44]⟩]++(b.tx false 1++[⟨#[59]⟩])))):=⟨_,rfl⟩
  have e2:w'=pw w1 r.tx:=by
   rw[hw,e1,<- qat]
   simp only[Ss.tx,List.cons_append,List.nil_append,List.append_assoc]
   rfl
  exact qfc hd rfl rfl (by omega) hm2 (qoo (fb:=false) (fc:=false) (pe1 ha) (pe1 hb) e1 (qak e2 hs)) (ih.1 hr cs m (i+1) f w1 w' (qbr hd) (by omega) hm2 e2 hs)
 | stop r ih=>
  refine⟨fun h cs m i f w w' hd hm hm2 hw hs=>?_,fun _=>trivial⟩
  obtain⟨_,hr⟩:=h
  simp only[Ss.fo,qav,qaN,qbd,qa1,qws] at hd hm
  obtain⟨w1,e1⟩ : ∃ v,v=pw w [⟨#[115,116,111,112]⟩,⟨#[59]⟩]:=⟨_,rfl⟩
  have e2:w'=pw w1 r.tx:=by
   rw[hw,e1,<- qat]
   rfl
  exact qfc hd rfl rfl (by omega) hm2 (qsi (f:=false) (fb:=false) rfl rfl e1 (qak e2 hs)) (ih.1 hr cs m (i+1) f w1 w' (qbr hd) (by omega) hm2 e2 hs)
 | cond w0 g c b r ihb ih=>
  refine⟨fun h cs m i f w w' hd hm hm2 hw hs=>?_,fun _=>trivial⟩
  obtain⟨_,hc,hb,hr⟩:=h
  cases w0 with
  | true=>
   obtain⟨fb,b1,rfl,hb1⟩:=qn4 hb
   have hrow:=ihb.2 ⟨1,hb⟩
   simp only[Ss.fo,qav,qkr,qaN,qbd,qmO,qf5,qa1,if_true] at hd hm
   obtain⟨w1,e1⟩ : ∃ v,v=pw w ([⟨#[119,104,105,108,101]⟩]++(c.tx false 1++(⟨#[123]⟩::(b1.tx++[⟨#[125]⟩])))):=⟨_,rfl⟩
   have e2:w'=pw w1 r.tx:=by
    rw[hw,e1,<- qat]
    simp only[Ss.tx,List.cons_append,List.nil_append,List.append_assoc,qgl,if_true,Bool.false_eq_true,if_false]
    rfl
   exact qfc hd rfl rfl (by omega) hm2 (qp0 (fc:=false) (pe1 hc) hrow.1 e1 (qak e2 hs)) (ih.1 hr cs m (i+1) f w1 w' (qbr hd) (by omega) hm2 e2 hs)
  | false=>
   obtain⟨fb,b1,fc,b2,rfl,hb1,hb2⟩:=qr7 hb
   have hrow:=ihb.2 ⟨2,hb⟩
   simp only[Ss.fo,qav,qkr,qaN,qbd,qmO,qf5,qa1,Bool.false_eq_true,if_false] at hd hm
   cases hl:b2.fo.len with
   | zero=>
    have hn:=qgr hl
    obtain⟨w1,e1⟩ : ∃ v,v=pw w ([⟨#[105,102]⟩]++(c.tx false 1++(⟨#[123]⟩::(b1.tx++[⟨#[125]⟩])))):=⟨_,rfl⟩
    have e2:w'=pw w1 r.tx:=by
     rw[hw,e1,<- qat,hn]
     simp only[Ss.tx,List.cons_append,List.nil_append,List.append_assoc,qgl,if_true,Bool.false_eq_true,if_false]
     rfl
    exact qfc hd rfl rfl (by omega) hm2 (quc (pe1 hc) hrow.1 hl e1 (qak e2 hs)) (ih.1 hr cs m (i+1) f w1 w' (qbr hd) (by omega) hm2 e2 hs)
   | succ q=>
    have he:qgl (.block fc b2 .nil)=true:=by cases b2<;>first | rfl | simp[Ss.fo] at hl
    obtain⟨w1,e1⟩ : ∃ v,v=pw w ([⟨#[105,102]⟩]++(c.tx false 1++((⟨#[123]⟩::(b1.tx++[⟨#[125]⟩]))++([⟨#[101,108,115,101]⟩]++(⟨#[123]⟩::(b2.tx++[⟨#[125]⟩])))))):=⟨_,rfl⟩
    have e2:w'=pw w1 r.tx:=by
     rw[hw,e1,<- qat]
     simp only[Ss.tx,he,List.cons_append,List.nil_append,List.append_assoc,if_true,Bool.false_eq_true,if_false]
     rfl
    exact qfc hd rfl rfl (by omega) hm2 (qud (pe1 hc) hrow.1 (by omega) hrow.2.1 e1 (qak e2 hs)) (ih.1 hr cs m (i+1) f w1 w' (qbr hd) (by omega) hm2 e2 hs)
 | block g b r ihb ih=>
  refine⟨fun h=>?_,fun ⟨k,h⟩=>?_⟩
  ·obtain⟨n,hn,_⟩:=h; cases hn
  ·obtain⟨n,hn,hb,hr⟩:=h
   exact⟨qlu hb (ihb.1 hb),ih.2 ⟨n,hr⟩⟩
end Go.Pm
end SOi
section SOj
namespace Go.Pm
open F
set_option maxHeartbeats 8000000
attribute [local simp] qfj qhJ
theorem qd6 {w:List UInt8} (h:w≠[]) (hl:w.length<2 ^ 40):Z tQ (.call 245 [.ptr 0 0] (PW w))=some (.ret (.str (bs w)) [.cellsT 4 [.ptr 0 0,.own 1 w.length 1,.dat (.lit (.int .u8 (qdM w).toNat))],.dead]):=by
 have h0:0<w.length:=by cases w with | nil=>exact absurd rfl h | cons=>simp
 have hv:=qiE w
 have hb:=qiF w
 have hle:w.length<=1099511627776:=by omega
 refine qaa (pf:=F245) rfl rfl ?_
 simp[F245,h0,hv,hb,hle,bs,V.len,List.range_succ]
theorem qnZ:Z tQ (.call 245 [.ptr 0 0] PE)=some (.ret (.str ⟨#[]⟩) PE):=by
 refine qaa (pf:=F245) rfl rfl ?_
 simp[F245,V.len,List.range_succ]
theorem qfn {t u:ByteArray} {w':List UInt8} (hw:w'=pw [] [t,u]) (ht:t.size≠0) (hu:u.size≠0) (h:w'.length<2 ^ 40):Z tQ (.call 243 [.ptr 0 0,.dat (.sl [.lit (.string t),.lit (.string u)] 2 true)] PE)=some (.ret (.tup []) (PW w')):=by
 subst hw
 exact qtH true (t:=t) (ts:=[u]) ht (fun x hx=>by rw[List.mem_singleton.1 hx]; exact hu) (by simp) h
theorem qrP:Z tQ (.call 231 [.dat (.agg [.lit (.int .i64 0),.lit (.int .i64 0),.lit (.string ⟨#[]⟩),.lit (.slice none 0 0),.lit (.int .i64 0),.lit (.int .i64 0),.lit (.string ⟨#[]⟩),.lit (.slice none 0 0),.lit (.int .i64 0),.lit (.int .i64 0),.lit (.string ⟨#[]⟩),.lit (.slice none 0 0)])] [])=some (.ret (.str ⟨#[]⟩) []):=by
 have z1:=qnZ
 simp only[PE] at z1
 refine qaa (pf:=F231) rfl rfl ?_
 simp[F231,z1,qac,qae,qci,List.range_succ,show IntKind.i64.wrap 1=1 from rfl,show IntKind.i64.wrap 2=2 from rfl,show IntKind.i64.wrap 3=3 from rfl]
theorem qrQ {f0:Bool} {b0:Ss} (h0:qjB b0) {w:List UInt8} (hw:w=pw [] ([⟨#[111,110]⟩,⟨#[97,99,116]⟩]++((⟨#[123]⟩::(b0.tx++[⟨#[125]⟩]))))) (hsz:w.length<2 ^ 40):Z tQ (.call 231 [.dat (.agg [.lit (.int .i64 7),.lit (.int .i64 0),.lit (.string ⟨#[]⟩),kd f0 b0.fo.len b0.fo.cells,.lit (.int .i64 0),.lit (.int .i64 0),.lit (.string ⟨#[]⟩),.lit (.slice none 0 0),.lit (.int .i64 0),.lit (.int .i64 0),.lit (.string ⟨#[]⟩),.lit (.slice none 0 0)])] [])=some (.ret (.str (bs w)) []):=by
 obtain⟨w1,e1⟩ : ∃ v,v=pw [] [⟨#[111,110]⟩,⟨#[97,99,116]⟩]:=⟨_,rfl⟩
 have e2:w=pw w1 (⟨#[123]⟩::(b0.tx++[⟨#[125]⟩])):=by rw[hw,qat,<- e1]
 have s2:=hsz
 have s1:=qak e2 s2
 have z1:=qfn e1 (by decide) (by decide) s1
 have z2:=h0 7 0 ⟨#[]⟩ f0 w1 w e2 s2
 have hne:w≠[]:=by
  rw[e2]
  apply qew
  rw[e1,qeE]
  simp[qe8]
 have zs:=qd6 hne hsz
 simp only[PW,PW',PE] at z1 z2 zs
 clear e1 e2 s1 s2 hw hsz
 refine qaa (pf:=F231) rfl rfl ?_
 simp[F231,z1,z2,zs,qac,qae,qci,List.range_succ,show IntKind.i64.wrap 1=1 from rfl,show IntKind.i64.wrap 2=2 from rfl,show IntKind.i64.wrap 3=3 from rfl]
theorem qrR {f1:Bool} {b1:Ss} (h1:qjB b1) {w:List UInt8} (hw:w=pw [] ([⟨#[111,110]⟩,⟨#[116,105,99,107]⟩]++((⟨#[123]⟩::(b1.tx++[⟨#[125]⟩]))))) (hsz:w.length<2 ^ 40):Z tQ (.call 231 [.dat (.agg [.lit (.int .i64 0),.lit (.int .i64 0),.lit (.string ⟨#[]⟩),.lit (.slice none 0 0),.lit (.int .i64 7),.lit (.int .i64 0),.lit (.string ⟨#[]⟩),kd f1 b1.fo.len b1.fo.cells,.lit (.int .i64 0),.lit (.int .i64 0),.lit (.string ⟨#[]⟩),.lit (.slice none 0 0)])] [])=some (.ret (.str (bs w)) []):=by
 obtain⟨w1,e1⟩ : ∃ v,v=pw [] [⟨#[111,110]⟩,⟨#[116,105,99,107]⟩]:=⟨_,rfl⟩
 have e2:w=pw w1 (⟨#[123]⟩::(b1.tx++[⟨#[125]⟩])):=by rw[hw,qat,<- e1]
 have s2:=hsz
 have s1:=qak e2 s2
 have z1:=qfn e1 (by decide) (by decide) s1
 have z2:=h1 7 0 ⟨#[]⟩ f1 w1 w e2 s2
 have hne:w≠[]:=by
  rw[e2]
  apply qew
  rw[e1,qeE]
  simp[qe8]
 have zs:=qd6 hne hsz
 simp only[PW,PW',PE] at z1 z2 zs
 clear e1 e2 s1 s2 hw hsz
 refine qaa (pf:=F231) rfl rfl ?_
 simp[F231,z1,z2,zs,qac,qae,qci,List.range_succ,show IntKind.i64.wrap 1=1 from rfl,show IntKind.i64.wrap 2=2 from rfl,show IntKind.i64.wrap 3=3 from rfl]
theorem qrS {f0:Bool} {b0:Ss} (h0:qjB b0) {f1:Bool} {b1:Ss} (h1:qjB b1) {w:List UInt8} (hw:w=pw [] ([⟨#[111,110]⟩,⟨#[97,99,116]⟩]++((⟨#[123]⟩::(b0.tx++[⟨#[125]⟩]))++([⟨#[111,110]⟩,⟨#[116,105,99,107]⟩]++((⟨#[123]⟩::(b1.tx++[⟨#[125]⟩]))))))) (hsz:w.length<2 ^ 40):Z tQ (.call 231 [.dat (.agg [.lit (.int .i64 7),.lit (.int .i64 0),.lit (.string ⟨#[]⟩),kd f0 b0.fo.len b0.fo.cells,.lit (.int .i64 7),.lit (.int .i64 0),.lit (.string ⟨#[]⟩),kd f1 b1.fo.len b1.fo.cells,.lit (.int .i64 0),.lit (.int .i64 0),.lit (.string ⟨#[]⟩),.lit (.slice none 0 0)])] [])=some (.ret (.str (bs w)) []):=by
 obtain⟨w1,e1⟩ : ∃ v,v=pw [] [⟨#[111,110]⟩,⟨#[97,99,116]⟩]:=⟨_,rfl⟩
 obtain⟨w2,e2⟩ : ∃ v,v=pw w1 (⟨#[123]⟩::(b0.tx++[⟨#[125]⟩])):=⟨_,rfl⟩
 obtain⟨w3,e3⟩ : ∃ v,v=pw w2 [⟨#[111,110]⟩,⟨#[116,105,99,107]⟩]:=⟨_,rfl⟩
 have e4:w=pw w3 (⟨#[123]⟩::(b1.tx++[⟨#[125]⟩])):=by rw[hw,qat,<- e1,qat,<- e2,qat,<- e3]
 have s4:=hsz
 have s3:=qak e4 s4
 have s2:=qak e3 s3
 have s1:=qak e2 s2
 have z1:=qfn e1 (by decide) (by decide) s1
 have z2:=h0 7 0 ⟨#[]⟩ f0 w1 w2 e2 s2
 have z3:=qe9 e3 (by decide) (by decide) s3
 have z4:=h1 7 0 ⟨#[]⟩ f1 w3 w e4 s4
 have hne:w≠[]:=by
  rw[e4]
  apply qew
  rw[e3]
  apply qew
  rw[e2]
  apply qew
  rw[e1,qeE]
  simp[qe8]
 have zs:=qd6 hne hsz
 simp only[PW,PW',PE] at z1 z2 z3 z4 zs
 clear e1 e2 e3 e4 s1 s2 s3 s4 hw hsz
 refine qaa (pf:=F231) rfl rfl ?_
 simp[F231,z1,z2,z3,z4,zs,qac,qae,qci,List.range_succ,show IntKind.i64.wrap 1=1 from rfl,show IntKind.i64.wrap 2=2 from rfl,show IntKind.i64.wrap 3=3 from rfl]
theorem qrT {f2:Bool} {b2:Ss} (h2:qjB b2) {w:List UInt8} (hw:w=pw [] ([⟨#[111,110]⟩,⟨#[104,105,116]⟩]++((⟨#[123]⟩::(b2.tx++[⟨#[125]⟩]))))) (hsz:w.length<2 ^ 40):Z tQ (.call 231 [.dat (.agg [.lit (.int .i64 0),.lit (.int .i64 0),.lit (.string ⟨#[]⟩),.lit (.slice none 0 0),.lit (.int .i64 0),.lit (.int .i64 0),.lit (.string ⟨#[]⟩),.lit (.slice none 0 0),.lit (.int .i64 7),.lit (.int .i64 0),.lit (.string ⟨#[]⟩),kd f2 b2.fo.len b2.fo.cells])] [])=some (.ret (.str (bs w)) []):=by
 obtain⟨w1,e1⟩ : ∃ v,v=pw [] [⟨#[111,110]⟩,⟨#[104,105,116]⟩]:=⟨_,rfl⟩
 have e2:w=pw w1 (⟨#[123]⟩::(b2.tx++[⟨#[125]⟩])):=by rw[hw,qat,<- e1]
 have s2:=hsz
 have s1:=qak e2 s2
 have z1:=qfn e1 (by decide) (by decide) s1
 have z2:=h2 7 0 ⟨#[]⟩ f2 w1 w e2 s2
 have hne:w≠[]:=by
  rw[e2]
  apply qew
  rw[e1,qeE]
  simp[qe8]
 have zs:=qd6 hne hsz
 simp only[PW,PW',PE] at z1 z2 zs
 clear e1 e2 s1 s2 hw hsz
 refine qaa (pf:=F231) rfl rfl ?_
 simp[F231,z1,z2,zs,qac,qae,qci,List.range_succ,show IntKind.i64.wrap 1=1 from rfl,show IntKind.i64.wrap 2=2 from rfl,show IntKind.i64.wrap 3=3 from rfl]
theorem qrU {f0:Bool} {b0:Ss} (h0:qjB b0) {f2:Bool} {b2:Ss} (h2:qjB b2) {w:List UInt8} (hw:w=pw [] ([⟨#[111,110]⟩,⟨#[97,99,116]⟩]++((⟨#[123]⟩::(b0.tx++[⟨#[125]⟩]))++([⟨#[111,110]⟩,⟨#[104,105,116]⟩]++((⟨#[123]⟩::(b2.tx++[⟨#[125]⟩]))))))) (hsz:w.length<2 ^ 40):Z tQ (.call 231 [.dat (.agg [.lit (.int .i64 7),.lit (.int .i64 0),.lit (.string ⟨#[]⟩),kd f0 b0.fo.len b0.fo.cells,.lit (.int .i64 0),.lit (.int .i64 0),.lit (.string ⟨#[]⟩),.lit (.slice none 0 0),.lit (.int .i64 7),.lit (.int .i64 0),.lit (.string ⟨#[]⟩),kd f2 b2.fo.len b2.fo.cells])] [])=some (.ret (.str (bs w)) []):=by
 obtain⟨w1,e1⟩ : ∃ v,v=pw [] [⟨#[111,110]⟩,⟨#[97,99,116]⟩]:=⟨_,rfl⟩
 obtain⟨w2,e2⟩ : ∃ v,v=pw w1 (⟨#[123]⟩::(b0.tx++[⟨#[125]⟩])):=⟨_,rfl⟩
 obtain⟨w3,e3⟩ : ∃ v,v=pw w2 [⟨#[111,110]⟩,⟨#[104,105,116]⟩]:=⟨_,rfl⟩
 have e4:w=pw w3 (⟨#[123]⟩::(b2.tx++[⟨#[125]⟩])):=by rw[hw,qat,<- e1,qat,<- e2,qat,<- e3]
 have s4:=hsz
 have s3:=qak e4 s4
 have s2:=qak e3 s3
 have s1:=qak e2 s2
 have z1:=qfn e1 (by decide) (by decide) s1
 have z2:=h0 7 0 ⟨#[]⟩ f0 w1 w2 e2 s2
 have z3:=qe9 e3 (by decide) (by decide) s3
 have z4:=h2 7 0 ⟨#[]⟩ f2 w3 w e4 s4
 have hne:w≠[]:=by
  rw[e4]
  apply qew
  rw[e3]
  apply qew
  rw[e2]
  apply qew
  rw[e1,qeE]
  simp[qe8]
 have zs:=qd6 hne hsz
 simp only[PW,PW',PE] at z1 z2 z3 z4 zs
 clear e1 e2 e3 e4 s1 s2 s3 s4 hw hsz
 refine qaa (pf:=F231) rfl rfl ?_
 simp[F231,z1,z2,z3,z4,zs,qac,qae,qci,List.range_succ,show IntKind.i64.wrap 1=1 from rfl,show IntKind.i64.wrap 2=2 from rfl,show IntKind.i64.wrap 3=3 from rfl]
theorem qrV {f1:Bool} {b1:Ss} (h1:qjB b1) {f2:Bool} {b2:Ss} (h2:qjB b2) {w:List UInt8} (hw:w=pw [] ([⟨#[111,110]⟩,⟨#[116,105,99,107]⟩]++((⟨#[123]⟩::(b1.tx++[⟨#[125]⟩]))++([⟨#[111,110]⟩,⟨#[104,105,116]⟩]++((⟨#[123]⟩::(b2.tx++[⟨#[125]⟩]))))))) (hsz:w.length<2 ^ 40):Z tQ (.call 231 [.dat (.agg [.lit (.int .i64 0),.lit (.int .i64 0),.lit (.string ⟨#[]⟩),.lit (.slice none 0 0),.lit (.int .i64 7),.lit (.int .i64 0),.lit (.string ⟨#[]⟩),kd f1 b1.fo.len b1.fo.cells,.lit (.int .i64 7),.lit (.int .i64 0),.lit (.string ⟨#[]⟩),kd f2 b2.fo.len b2.fo.cells])] [])=some (.ret (.str (bs w)) []):=by
 obtain⟨w1,e1⟩ : ∃ v,v=pw [] [⟨#[111,110]⟩,⟨#[116,105,99,107]⟩]:=⟨_,rfl⟩
 obtain⟨w2,e2⟩ : ∃ v,v=pw w1 (⟨#[123]⟩::(b1.tx++[⟨#[125]⟩])):=⟨_,rfl⟩
 obtain⟨w3,e3⟩ : ∃ v,v=pw w2 [⟨#[111,110]⟩,⟨#[104,105,116]⟩]:=⟨_,rfl⟩
 have e4:w=pw w3 (⟨#[123]⟩::(b2.tx++[⟨#[125]⟩])):=by rw[hw,qat,<- e1,qat,<- e2,qat,<- e3]
 have s4:=hsz
 have s3:=qak e4 s4
 have s2:=qak e3 s3
 have s1:=qak e2 s2
 have z1:=qfn e1 (by decide) (by decide) s1
 have z2:=h1 7 0 ⟨#[]⟩ f1 w1 w2 e2 s2
 have z3:=qe9 e3 (by decide) (by decide) s3
 have z4:=h2 7 0 ⟨#[]⟩ f2 w3 w e4 s4
 have hne:w≠[]:=by
  rw[e4]
  apply qew
  rw[e3]
  apply qew
  rw[e2]
  apply qew
  rw[e1,qeE]
  simp[qe8]
 have zs:=qd6 hne hsz
 simp only[PW,PW',PE] at z1 z2 z3 z4 zs
 clear e1 e2 e3 e4 s1 s2 s3 s4 hw hsz
 refine qaa (pf:=F231) rfl rfl ?_
 simp[F231,z1,z2,z3,z4,zs,qac,qae,qci,List.range_succ,show IntKind.i64.wrap 1=1 from rfl,show IntKind.i64.wrap 2=2 from rfl,show IntKind.i64.wrap 3=3 from rfl]
theorem qrW {f0:Bool} {b0:Ss} (h0:qjB b0) {f1:Bool} {b1:Ss} (h1:qjB b1) {f2:Bool} {b2:Ss} (h2:qjB b2) {w:List UInt8} (hw:w=pw [] ([⟨#[111,110]⟩,⟨#[97,99,116]⟩]++((⟨#[123]⟩::(b0.tx++[⟨#[125]⟩]))++([⟨#[111,110]⟩,⟨#[116,105,99,107]⟩]++((⟨#[123]⟩::(b1.tx++[⟨#[125]⟩]))++([⟨#[111,110]⟩,⟨#[104,105,116]⟩]++((⟨#[123]⟩::(b2.tx++[⟨#[125]⟩]))))))))) (hsz:w.length<2 ^ 40):Z tQ (.call 231 [.dat (.agg [.lit (.int .i64 7),.lit (.int .i64 0),.lit (.string ⟨#[]⟩),kd f0 b0.fo.len b0.fo.cells,.lit (.int .i64 7),.lit (.int .i64 0),.lit (.string ⟨#[]⟩),kd f1 b1.fo.len b1.fo.cells,.lit (.int .i64 7),.lit (.int .i64 0),.lit (.string ⟨#[]⟩),kd f2 b2.fo.len b2.fo.cells])] [])=some (.ret (.str (bs w)) []):=by
 obtain⟨w1,e1⟩ : ∃ v,v=pw [] [⟨#[111,110]⟩,⟨#[97,99,116]⟩]:=⟨_,rfl⟩
 obtain⟨w2,e2⟩ : ∃ v,v=pw w1 (⟨#[123]⟩::(b0.tx++[⟨#[125]⟩])):=⟨_,rfl⟩
 obtain⟨w3,e3⟩ : ∃ v,v=pw w2 [⟨#[111,110]⟩,⟨#[116,105,99,107]⟩]:=⟨_,rfl⟩
 obtain⟨w4,e4⟩ : ∃ v,v=pw w3 (⟨#[123]⟩::(b1.tx++[⟨#[125]⟩])):=⟨_,rfl⟩
 obtain⟨w5,e5⟩ : ∃ v,v=pw w4 [⟨#[111,110]⟩,⟨#[104,105,116]⟩]:=⟨_,rfl⟩
 have e6:w=pw w5 (⟨#[123]⟩::(b2.tx++[⟨#[125]⟩])):=by rw[hw,qat,<- e1,qat,<- e2,qat,<- e3,qat,<- e4,qat,<- e5]
 have s6:=hsz
 have s5:=qak e6 s6
 have s4:=qak e5 s5
 have s3:=qak e4 s4
 have s2:=qak e3 s3
 have s1:=qak e2 s2
 have z1:=qfn e1 (by decide) (by decide) s1
 have z2:=h0 7 0 ⟨#[]⟩ f0 w1 w2 e2 s2
 have z3:=qe9 e3 (by decide) (by decide) s3
 have z4:=h1 7 0 ⟨#[]⟩ f1 w3 w4 e4 s4
 have z5:=qe9 e5 (by decide) (by decide) s5
 have z6:=h2 7 0 ⟨#[]⟩ f2 w5 w e6 s6
 have hne:w≠[]:=by
  rw[e6]
  apply qew
  rw[e5]
  apply qew
  rw[e4]
  apply qew
  rw[e3]
  apply qew
  rw[e2]
  apply qew
  rw[e1,qeE]
  simp[qe8]
 have zs:=qd6 hne hsz
 simp only[PW,PW',PE] at z1 z2 z3 z4 z5 z6 zs
 clear e1 e2 e3 e4 e5 e6 s1 s2 s3 s4 s5 s6 hw hsz
 refine qaa (pf:=F231) rfl rfl ?_
 simp[F231,z1,z2,z3,z4,z5,z6,zs,qac,qae,qci,List.range_succ,show IntKind.i64.wrap 1=1 from rfl,show IntKind.i64.wrap 2=2 from rfl,show IntKind.i64.wrap 3=3 from rfl]
theorem qrX {a b c:Hd} (hg : ∀ k,qgM (Hd.opts a b c k)) (hsz:(qe8 false (qb9 (Hd.opts a b c))).length<2 ^ 40) :
  Z tQ (.call 231 [.dat (ru a.nd b.nd c.nd)] [])=some (.ret (.str (bs (qe8 false (qb9 (Hd.opts a b c))))) []):=by
 have hb : ∀ {s:Ss} (k:Nat),Hd.opts a b c k=some s->qjB s:=fun k h=>qlu ((hg k) _ h).1 ((qsZ _).1 ((hg k) _ h).1)
 rw[<- qeE] at hsz ⊢
 cases a<;>cases b<;>cases c
 ·exact qrP
 ·refine qrT (hb 2 rfl) ?_ hsz
  simp only[qb9,qkB,Hd.opts,Hd.opt,qd8,onS,qh9,qiO,List.nil_append,List.append_nil,List.cons_append,List.append_assoc]
  rfl
 ·refine qrR (hb 1 rfl) ?_ hsz
  simp only[qb9,qkB,Hd.opts,Hd.opt,qd8,onS,qh9,qiO,List.nil_append,List.append_nil,List.cons_append,List.append_assoc]
  rfl
 ·refine qrV (hb 1 rfl) (hb 2 rfl) ?_ hsz
  simp only[qb9,qkB,Hd.opts,Hd.opt,qd8,onS,qh9,qiO,List.nil_append,List.append_nil,List.cons_append,List.append_assoc]
  rfl
 ·refine qrQ (hb 0 rfl) ?_ hsz
  simp only[qb9,qkB,Hd.opts,Hd.opt,qd8,onS,qh9,qiO,List.nil_append,List.append_nil,List.cons_append,List.append_assoc]
  rfl
 ·refine qrU (hb 0 rfl) (hb 2 rfl) ?_ hsz
  simp only[qb9,qkB,Hd.opts,Hd.opt,qd8,onS,qh9,qiO,List.nil_append,List.append_nil,List.cons_append,List.append_assoc]
  rfl
 ·refine qrS (hb 0 rfl) (hb 1 rfl) ?_ hsz
  simp only[qb9,qkB,Hd.opts,Hd.opt,qd8,onS,qh9,qiO,List.nil_append,List.append_nil,List.cons_append,List.append_assoc]
  rfl
 ·refine qrW (hb 0 rfl) (hb 1 rfl) (hb 2 rfl) ?_ hsz
  simp only[qb9,qkB,Hd.opts,Hd.opt,qd8,onS,qh9,qiO,List.nil_append,List.append_nil,List.cons_append,List.append_assoc]
  rfl
end Go.Pm
end SOj
section STS
namespace Go.Pm.F
def tS:Nat->Option PFun
 | _=>none
end Go.Pm.F
end STS
section SSb
namespace Go.Pm
open F
set_option maxHeartbeats 8000000
inductive Parts:List ByteArray->List ByteArray->Prop
 | nil:Parts [] []
 | tok {t:ByteArray} {l ts:List ByteArray} (h:Parts l ts):Parts (t::l) (t::ts)
 | sub {a l ts:List ByteArray} (ha : ∀ t∈a,t.size≠0) (h:Parts l ts):Parts (bs (qe8 false a)::l) (a++ts)
end Go.Pm
end SSb
section STP
namespace Go.Pm.F
def tP:Nat->Option PFun
 | 228=>some F228
 | 239=>some F239
 | 240=>some F240
 | 241=>some F241
 | 242=>some F242
 | 249=>some F249
 | 250=>some F250
 | 251=>some F251
 | 252=>some F252
 | 253=>some F253
 | 254=>some F254
 | 255=>some F255
 | 256=>some F256
 | 264=>some F264
 | 265=>some F265
 | 266=>some F266
 | 267=>some F267
 | 268=>some F268
 | 269=>some F269
 | 270=>some F270
 | 271=>some F271
 | 275=>some F275
 | 276=>some F276
 | 277=>some F277
 | 278=>some F278
 | 279=>some F279
 | 280=>some F280
 | 281=>some F281
 | 284=>some F284
 | 285=>some F285
 | 286=>some F286
 | 287=>some F287
 | 289=>some F289
 | 290=>some F290
 | 292=>some F292
 | 297=>some F297
 | 303=>some F303
 | 304=>some F304
 | 307=>some F307
 | 308=>some F308
 | 309=>some F309
 | _=>none
end Go.Pm.F
end STP
section SKa
namespace Go.Pm
open F
set_option maxHeartbeats 2000000
theorem qes (c:UInt8):Z tP (.call 264 [.dat (.lit (.int .u8 c.toNat))] [])=some (.ret (.bool (qaQ c)) []):=by
 refine qaa (pf:=F264) rfl rfl ?_
 by_cases h1:(97:Int)<=c.toNat
 ·have h1':97<=c.toNat:=by omega
  by_cases h2:(c.toNat:Int)<=122
  ·have h2':c.toNat<=122:=by omega
   simp[F264,qaQ,h1,h1',h2,h2']
  ·have h2' : ¬ c.toNat<=122:=by omega
   simp[F264,qaQ,h1,h1',h2,h2']
 ·have h1' : ¬ 97<=c.toNat:=by omega
  simp[F264,qaQ,h1,h1']
theorem qfQ (c:UInt8):Z tP (.call 266 [.dat (.lit (.int .u8 c.toNat))] [])=some (.ret (.bool (qas c)) []):=by
 refine qaa (pf:=F266) rfl rfl ?_
 by_cases h1:(48:Int)<=c.toNat
 ·have h1':48<=c.toNat:=by omega
  by_cases h2:(c.toNat:Int)<=57
  ·have h2':c.toNat<=57:=by omega
   simp[F266,qas,h1,h1',h2,h2']
  ·have h2' : ¬ c.toNat<=57:=by omega
   simp[F266,qas,h1,h1',h2,h2']
 ·have h1' : ¬ 48<=c.toNat:=by omega
  simp[F266,qas,h1,h1']
theorem qnv {d:D} {l:List ByteArray} (hd:RowS d l) (hl:l.length<2 ^ 40) (x:ByteArray) : ∀ (m i:Nat),i+m=l.length ->
  (x∉l.drop i->Z tP (.loop 0 F284l0 [(0,.dat d),(1,.str x),(7,.int l.length),(8,.int i)] [])=some (.out (.exit 0) [(0,.dat d),(1,.str x),(7,.int l.length),(8,.int l.length),(9,.bool false)] [])) /\
  (x∈l.drop i -> ∃ (j:Nat),Z tP (.loop 0 F284l0 [(0,.dat d),(1,.str x),(7,.int l.length),(8,.int i)] [])=some (.out .ret [(4,.int j)] []))
 | 0,i,hi=>by
  obtain rfl:i=l.length:=by omega
  have ho:=hd.one
  have hc:=hd.cells
  refine⟨fun _=>?_,fun h=>by simp at h⟩
  rw[qac]
  simp[qae,qeR,ho,hc]
 | m+1,i,hi=>by
  have hlt:i<l.length:=by omega
  have hlt':(i:Int)<l.length:=by omega
  have ho:=hd.one
  have hcl:=hd.cells
  have ha:=hd.at_ i hlt
  have hc:=qg7 l i hlt
  have w1:=qag ((i:Int)+1) (by omega)
  have hdr:l.drop i=l[i]::l.drop (i+1):=List.drop_eq_getElem_cons hlt
  obtain⟨ih1,ih2⟩:=qnv hd hl x m (i+1) (by omega)
  simp only[Int.natCast_add,Int.cast_ofNat_Int] at ih1 ih2
  rw[hdr]
  generalize l[i]=y at hc ⊢
  by_cases hx:x=y
  ·subst hx
   refine⟨fun h=>absurd (List.mem_cons_self ..) h,fun _=>⟨i,?_⟩⟩
   rw[qac]
   simp[qae,qeR,hlt',ha,hc,qbU,ho,hcl]
  ·refine⟨fun h=>?_,fun h=>?_⟩
   ·have z:=ih1 (fun h'=>h (List.mem_cons_of_mem _ h'))
    rw[qac]
    simp[qae,qeR,hlt',ha,hc,qbU,hx,w1,z,ho,hcl]
   ·rcases List.mem_cons.1 h with h | h
    ·exact absurd h hx
    ·obtain⟨j,z⟩:=ih2 h
     refine⟨j,?_⟩
     rw[qac]
     simp[qae,qeR,hlt',ha,hc,qbU,hx,w1,z,ho,hcl]
theorem qmq {d:D} {l:List ByteArray} (hd:RowS d l) (hl:l.length<2 ^ 40) (x:ByteArray):Z tP (.call 276 [.dat d,.str x] [])=some (.ret (.bool (decide (x∈l))) []):=by
 have ho:=hd.one
 have hc:=hd.cells
 have hn:=hd.len
 obtain⟨i1,i2⟩:=qnv hd hl x l.length 0 (by omega)
 simp only[Int.natCast_zero,List.drop_zero] at i1 i2
 by_cases h:x∈l
 ·obtain⟨j,z⟩:=i2 h
  have z2:Z tP (.call 284 [.dat d,.str x] [])=some (.ret (.int j) []):=by
   refine qaa (pf:=F284) rfl rfl ?_
   simp[F284,ho,hc,hn,z]
  have hj:(0:Int)<=j:=by omega
  refine qaa (pf:=F276) rfl rfl ?_
  simp[F276,ho,hc,z2,h,hj]
 ·have z:=i1 h
  have z2:Z tP (.call 284 [.dat d,.str x] [])=some (.ret (.int (-1)) []):=by
   refine qaa (pf:=F284) rfl rfl ?_
   simp[F284,ho,hc,hn,z]
  refine qaa (pf:=F276) rfl rfl ?_
  simp[F276,ho,hc,z2,h]
end Go.Pm
end SKa
section SKb
namespace Go.Pm
open F
set_option maxHeartbeats 4000000
def kwL:List (List UInt8 × Int):=[([111,110],2),([97,99,116],2),([116,105,99,107],2),([105,102],2),([101,108,115,101],2),([119,104,105,108,101],2),([101,102,102,101,99,116],2),([115,116,111,112],2),([116,114,117,101],2),([102,97,108,115,101],2),([115,101,108,102],2),([111,116,104,101,114],2),([120],3),([121],3),([118,120],3),([118,121],3),([97],3),([98],3),([104,105,116],3),([115,116,105,108,108],3)]
def kwM:List (Value × V):=kwL.map fun x=>(.string ⟨x.1.toArray⟩,.int x.2)
theorem qij (s:ByteArray):Z tP (.call 239 [.str s] [])=some (.ret (.agg [.str s,.mp 0]) [.map kwM]):=by
 exact qmR (n:=2) (by kernel_rfl)
theorem qqE (w:ByteArray):qel .s (.string w) kwM=some (if w∈fieldNames then some (.int 3) else if w∈wordNames then some (.int 2) else none):=by
 have key : ∀ (l:List (List UInt8 × Int)),qel .s (.string w) (l.map fun x=>(Value.string ⟨x.1.toArray⟩,V.int x.2))=some ((l.find? fun x=>decide (bs x.1=w)).map fun x => .int x.2):=fun l=>by
  induction l with
  | nil=>rfl
  | cons x l ih=>
   simp only[List.map_cons,qel,qcn,ih,List.find?_cons]
   by_cases h:bs x.1=w
   ·have h':(w==(⟨x.1.toArray⟩:ByteArray))=true:=by rw[beq_iff_eq]; exact h.symm
    have h2:((⟨x.1.toArray⟩:ByteArray)==w)=true:=by rw[beq_iff_eq]; exact h
    simp[h,h',h2]
   ·have h':(w==(⟨x.1.toArray⟩:ByteArray))=false:=by rw[beq_eq_false_iff_ne]; exact fun e=>h e.symm
    have h2:((⟨x.1.toArray⟩:ByteArray)==w)=false:=by rw[beq_eq_false_iff_ne]; exact h
    simp[h,h',h2]
 rw[kwM,key]
 congr 1
 by_cases h1:w∈fieldNames
 ·rw[if_pos h1]
  simp only[fieldNames,List.mem_cons,List.not_mem_nil,or_false] at h1
  rcases h1 with rfl | rfl | rfl | rfl | rfl | rfl | rfl | rfl<;>rfl
 rw[if_neg h1]
 by_cases h2:w∈wordNames
 ·rw[if_pos h2]
  have hne:w≠qiO:=fun e=>h1 (by rw[e]; decide)
  simp only[wordNames,List.mem_cons,List.not_mem_nil,or_false] at h2
  rcases h2 with rfl | rfl | rfl | h2 | rfl | rfl | rfl | rfl | rfl | rfl | rfl | rfl | rfl
  case inr.inr.inr.inl=>exact absurd h2 hne
  all_goals rfl
 rw[if_neg h2]
 have:kwL.find? (fun x=>decide (bs x.1=w))=none:=by
  rw[List.find?_eq_none]
  intro x hx
  have hall : ∀ x∈kwL,bs x.1∈fieldNames\/bs x.1∈wordNames:=by decide
  rw[decide_eq_true_eq]
  rintro rfl
  rcases hall x hx with h | h
  ·exact h1 h
  ·exact h2 h
 rw[this]
 rfl
abbrev pO (s:ByteArray) (m:Nat) (Q:V) (i a c:Int):Ob := .cells [.str s,.mp m,Q,.int i,.int a,.int c]
inductive LxS (s:ByteArray):S->Prop
 | nil (i a c:Int):LxS s [pO s 1 (.dat (.lit (.slice none 0 0))) i a c,.map kwM]
 | gr (cs:List D) (n t:Nat) (i a c:Int):LxS s [pO s 1 (.gsl cs n 5 2) i a c,.map kwM,.tip t]
theorem qa6:qgQ kwM=[]:=rfl
theorem qbJ (r:Nat->Nat):qoL r kwM=kwM:=rfl
attribute [local simp] qa6 qbJ
theorem qik (s:ByteArray) (hl:s.size<2 ^ 40) {σ : S} (hσ : LxS s σ) : ∀ (m i:Nat) (cm:Bool),i+m=s.size ->
  (i+qaZ cm ((byl s).drop i)=s.size /\ ∃ v,Z tP (.loop σ.length F251l0 [(0,.ptr 0 0),(1,.int i),(5,.bool cm)] σ)=some (.out (.exit 0) [(0,.ptr 0 0),(1,.int s.size),(5,v),(13,.bool false)] σ)) \/
  Z tP (.loop σ.length F251l0 [(0,.ptr 0 0),(1,.int i),(5,.bool cm)] σ)=some (.out .ret [(4,.int ((i+qaZ cm ((byl s).drop i):Nat)))] σ)
 | 0,i,cm,hi=>by
  obtain rfl:i=s.size:=by omega
  have hd:(byl s).drop s.size=[]:=List.drop_eq_nil_of_le (by rw[qaw]; exact Nat.le_refl _)
  refine .inl ⟨by rw[hd]; simp[qaZ],.bool cm,?_⟩
  rw[qac]
  cases hσ <;> simp[qae,qdc,V.len,List.range_succ]
 | m+1,i,cm,hi=>by
  obtain⟨c,h1,h2⟩:=qmz (s:=s) (i:=i) (by omega)
  have hd:=qgs h2
  have hlt:(i:Int)<s.size:=by omega
  have w1:=qag ((i:Int)+1) (by omega)
  have ih:=fun cm=>qik s hl hσ m (i+1) cm (by omega)
  have fin : ∀ cm',qaZ cm ((byl s).drop i)=1+qaZ cm' ((byl s).drop (i+1)) ->
    Z tP (.loop σ.length F251l0 [(0,.ptr 0 0),(1,.int i),(5,.bool cm)] σ)=Z tP (.loop σ.length F251l0 [(0,.ptr 0 0),(1,.int (i+1)),(5,.bool cm')] σ) ->
    (i+qaZ cm ((byl s).drop i)=s.size /\ ∃ v,Z tP (.loop σ.length F251l0 [(0,.ptr 0 0),(1,.int i),(5,.bool cm)] σ)=some (.out (.exit 0) [(0,.ptr 0 0),(1,.int s.size),(5,v),(13,.bool false)] σ)) \/
    Z tP (.loop σ.length F251l0 [(0,.ptr 0 0),(1,.int i),(5,.bool cm)] σ)=some (.out .ret [(4,.int ((i+qaZ cm ((byl s).drop i):Nat)))] σ):=fun cm' e z=>by
   rw[e,z]
   have ih:=ih cm'
   rw[show i+(1+qaZ cm' ((byl s).drop (i+1)))=i+1+qaZ cm' ((byl s).drop (i+1)) by omega]
   simpa using ih
  by_cases h10:c.toNat=10
  ·refine fin false (by rw[hd]; simp[qaZ,h10]; omega) ?_
   rw[qac]
   cases hσ <;> simp[qae,qdc,V.len,h1,hlt,h10,w1,List.range_succ]
  have h10' : ¬ (c.toNat:Int)=10:=by omega
  by_cases hc:cm=true\/c.toNat=32\/c.toNat=9
  ·refine fin cm (by rw[hd]; simp only[qaZ,if_neg h10,if_pos hc]; omega) ?_
   rw[qac]
   cases cm
   ·have h9:c.toNat=32\/c.toNat=9:=by simpa using hc
    rcases h9 with h9 | h9<;>cases hσ <;> simp[qae,qdc,V.len,h1,hlt,h10',h9,w1,List.range_succ]
   ·cases hσ <;> simp[qae,qdc,V.len,h1,hlt,h10',w1,List.range_succ]
  have hc':=hc
  simp only[not_or,Bool.not_eq_true] at hc'
  obtain⟨rfl,h32,h9⟩:=hc'
  have h32' : ¬ (c.toNat:Int)=32:=by omega
  have h9' : ¬ (c.toNat:Int)=9:=by omega
  by_cases h35:c.toNat=35
  ·refine fin true (by rw[hd]; simp only[qaZ,if_neg h10,if_neg hc,if_pos h35]; omega) ?_
   rw[qac]
   cases hσ <;> simp[qae,qdc,V.len,h1,hlt,h35,w1,List.range_succ]
  ·have h35' : ¬ (c.toNat:Int)=35:=by omega
   have e:qaZ false ((byl s).drop i)=0:=by rw[hd]; simp only[qaZ,if_neg h10,if_neg hc,if_neg h35]
   rw[e]
   refine .inr ?_
   rw[qac]
   cases hσ <;> simp[qae,qdc,V.len,h1,hlt,h10',h32',h9',h35',List.range_succ]
theorem qm4 (s:ByteArray) (hl:s.size<2 ^ 40) {σ : S} (hσ : LxS s σ) {i:Nat} (hi:i<=s.size):Z tP (.call 251 [.ptr 0 0,.int i] σ)=some (.ret (.int ((i+qaZ false ((byl s).drop i):Nat))) σ):=by
 rcases qik s hl hσ (s.size-i) i false (by omega) with ⟨h,v,z⟩ | z
 ·rw[h]
  refine qaa (pf:=F251) rfl rfl ?_
  cases hσ <;> simp only[List.length_cons,List.length_nil,Nat.reduceAdd] at z<;>simp[F251,z,List.range_succ]
 ·generalize i+qaZ false ((byl s).drop i)=j at z ⊢
  refine qaa (pf:=F251) rfl rfl ?_
  cases hσ <;> simp only[List.length_cons,List.length_nil,Nat.reduceAdd] at z<;>simp[F251,z,List.range_succ]
end Go.Pm
end SKb
section SKc
namespace Go.Pm
open F
set_option maxHeartbeats 4000000
attribute [local simp] qa6 qbJ
abbrev tk5:Ob := .cells [.int 0,.str ⟨#[]⟩,.int 0,.int 0,.int 0]
theorem qil (s:ByteArray) (hl:s.size<2 ^ 40) {σ : S} (hσ : LxS s σ) (a:Int) : ∀ (m i:Nat),i+m=s.size ->
  Z tP (.loop σ.length F265l0 [(0,.ptr 0 0),(1,.int a),(4,.ptr σ.length 0),(5,.int i)] (σ ++ [tk5]))=some (.out (.exit 0) [(0,.ptr 0 0),(1,.int a),(4,.ptr σ.length 0),(5,.int ((i+qbu qaE ((byl s).drop i):Nat))),(34,.bool false)] (σ ++ [tk5]))
 | 0,i,hi=>by
  obtain rfl:i=s.size:=by omega
  have hd:(byl s).drop s.size=[]:=List.drop_eq_nil_of_le (by rw[qaw]; exact Nat.le_refl _)
  rw[qac,hd]
  cases hσ <;> simp[qae,qeO,V.len,qbu,List.range_succ]
 | m+1,i,hi=>by
  obtain⟨c,h1,h2⟩:=qmz (s:=s) (i:=i) (by omega)
  have hd:=qgs h2
  have hlt:(i:Int)<s.size:=by omega
  have w1:=qag ((i:Int)+1) (by omega)
  have zl:=qes c
  have zd:=qfQ c
  have ih:=qil s hl hσ a m (i+1) (by omega)
  simp only[Int.natCast_add,Int.cast_ofNat_Int] at ih
  by_cases hc:qaE c=true
  ·have e:(i:Int)+((qbu qaE ((byl s).drop (i+1)):Int)+1)=i+1+qbu qaE ((byl s).drop (i+1)):=by omega
   rw[qac,hd]
   simp only[qaE,Bool.or_eq_true] at hc
   by_cases hcl:qaQ c=true
   ·cases hσ <;> simp only[List.cons_append,List.nil_append,List.length_cons,List.length_nil,Nat.reduceAdd] at ih<;>simp[qae,qeO,V.len,qbu,h1,hlt,w1,zl,zd,hcl,ih,qaE,e,List.range_succ]
   ·have hcd:qas c=true:=by rcases hc with h | h; exact absurd h hcl; exact h
    cases hσ <;> simp only[List.cons_append,List.nil_append,List.length_cons,List.length_nil,Nat.reduceAdd] at ih<;>simp[qae,qeO,V.len,qbu,h1,hlt,w1,zl,zd,hcl,hcd,ih,qaE,e,List.range_succ]
  ·simp only[qaE,Bool.or_eq_true,not_or] at hc
   rw[qac,hd]
   cases hσ <;> simp[qae,qeO,V.len,qbu,h1,hlt,w1,zl,zd,hc.1,hc.2,qaE,List.range_succ]
abbrev ptD (k:Int) (t:ByteArray) (a v c:Int):V := .dat (.agg [.lit (.int .i64 k),.lit (.string t),.lit (.int .i64 a),.lit (.int .i64 v),.lit (.int .i64 c)])
def pkW (w:ByteArray):Int:=if w∈fieldNames then 3 else if w∈wordNames then 2 else if 8<w.size then 6 else 1
def pcW (w:ByteArray):Int:=if w∈fieldNames\/w∈wordNames then 0 else if 8<w.size then 2 else 0
theorem qqF (s:ByteArray) (hl:s.size<2 ^ 40) {σ : S} (hσ : LxS s σ) {i:Nat} (hi:i<=s.size):Z tP (.call 265 [.ptr 0 0,.int i] σ)=some (.ret (ptD (pkW (s.extract i (i+qbu qaE ((byl s).drop i)))) (s.extract i (i+qbu qaE ((byl s).drop i))) i 0 (pcW (s.extract i (i+qbu qaE ((byl s).drop i))))) σ):=by
 have z:=qil s hl hσ i (s.size-i) i (by omega)
 have hr:=qfr qaE ((byl s).drop i)
 rw[List.length_drop,qaw] at hr
 generalize hq:i+qbu qaE ((byl s).drop i)=q at z ⊢
 have q1:(i:Int)<=q:=by omega
 have q2:(q:Int)<=s.size:=by omega
 have q3:(i:Int)<=s.size:=by omega
 have hk:=qqE (s.extract i q)
 have hws:(s.extract i q).size<=s.size:=by rw[ByteArray.size_extract]; omega
 obtain⟨w,hw⟩ : ∃ w,s.extract i q=w:=⟨_,rfl⟩
 rw[hw] at hk hws ⊢
 refine qaa (pf:=F265) rfl rfl ?_
 unfold pkW pcW
 by_cases h1:w∈fieldNames
 ·rw[if_pos h1] at hk
  cases hσ <;> simp only[List.cons_append,List.nil_append,List.length_cons,List.length_nil,Nat.reduceAdd] at z<;>simp[F265,z,qb3,bound,q1,q2,q3,hw,hk,h1,qgR,qc5,qa3,List.range_succ]
 by_cases h2:w∈wordNames
 ·rw[if_neg h1,if_pos h2] at hk
  cases hσ <;> simp only[List.cons_append,List.nil_append,List.length_cons,List.length_nil,Nat.reduceAdd] at z<;>simp[F265,z,qb3,bound,q1,q2,q3,hw,hk,h1,h2,qgR,qc5,qa3,List.range_succ]
 rw[if_neg h1,if_neg h2] at hk
 by_cases h3:8<w.size
 ·have h3':(8:Int)<w.size:=by omega
  cases hσ <;> simp only[List.cons_append,List.nil_append,List.length_cons,List.length_nil,Nat.reduceAdd] at z<;>simp[F265,z,qb3,bound,q1,q2,q3,hw,hk,h1,h2,h3,h3',V.len,qgR,qc5,qa3,List.range_succ]
 ·have h3' : ¬ (8:Int)<w.size:=by omega
  cases hσ <;> simp only[List.cons_append,List.nil_append,List.length_cons,List.length_nil,Nat.reduceAdd] at z<;>simp[F265,z,qb3,bound,q1,q2,q3,hw,hk,h1,h2,h3,h3',V.len,qgR,qc5,qa3,List.range_succ]
def qoD (v:Nat) (l:List UInt8):Nat:=l.foldl (fun v c=>min (10*v+(c.toNat-48)) 2147483648) v
theorem qqG (l:List UInt8) : ∀ n,qoD (min n 2147483648) l=min (l.foldl (fun v c=>10*v+(c.toNat-48)) n) 2147483648:=by
 induction l with
 | nil=>intro n; rfl
 | cons c l ih=>
  intro n
  have:=ih (10*n+(c.toNat-48))
  simp only[qoD,List.foldl_cons] at this ⊢
  rw[<- this]
  congr 1
  omega
theorem qoE (l:List UInt8):qoD 0 l=min (digV l) 2147483648:=qqG l 0
theorem qjX (s:ByteArray) (hl:s.size<2 ^ 40) {σ : S} (hσ : LxS s σ) (a:Int) : ∀ (m i v:Nat),i+m=s.size->v<=2147483648 ->
  Z tP (.loop σ.length F267l0 [(0,.ptr 0 0),(1,.int a),(4,.ptr σ.length 0),(5,.int i),(6,.int v)] (σ ++ [tk5]))=some (.out (.exit 0) [(0,.ptr 0 0),(1,.int a),(4,.ptr σ.length 0),(5,.int ((i+qbu qas ((byl s).drop i):Nat))),(6,.int (qoD v (((byl s).drop i).take (qbu qas ((byl s).drop i))))),(24,.bool false)] (σ ++ [tk5]))
 | 0,i,v,hi,hv=>by
  obtain rfl:i=s.size:=by omega
  have hd:(byl s).drop s.size=[]:=List.drop_eq_nil_of_le (by rw[qaw]; exact Nat.le_refl _)
  rw[qac,hd]
  cases hσ <;> simp[qae,qge,V.len,qbu,qoD,List.range_succ]
 | m+1,i,v,hi,hv=>by
  obtain⟨c,h1,h2⟩:=qmz (s:=s) (i:=i) (by omega)
  have hd:=qgs h2
  have hlt:(i:Int)<s.size:=by omega
  have w1:=qag ((i:Int)+1) (by omega)
  have zd:=qfQ c
  by_cases hc:qas c=true
  ·have hc2:48<=c.toNat/\c.toNat<=57:=by simpa [qas] using hc
   have ih:=qjX s hl hσ a m (i+1) (min (10*v+(c.toNat-48)) 2147483648) (by omega) (Nat.min_le_right _ _)
   have e:(i:Int)+((qbu qas ((byl s).drop (i+1)):Int)+1)=i+1+qbu qas ((byl s).drop (i+1)):=by omega
   have es:qoD v (((byl s).drop i).take (qbu qas ((byl s).drop i)))=qoD (min (10*v+(c.toNat-48)) 2147483648) (((byl s).drop (i+1)).take (qbu qas ((byl s).drop (i+1)))):=by
    rw[hd]; simp[qbu,hc,qoD]
   rw[es]
   have er:i+qbu qas ((byl s).drop i)=i+1+qbu qas ((byl s).drop (i+1)):=by
    rw[hd]; simp[qbu,hc]; omega
   rw[er]
   have u0 : ∀ d:Nat,d<10->IntKind.u8.wrap (d:Int)=d:=by decide
   have u1:IntKind.u8.wrap ((c.toNat:Int)-48)=c.toNat-48:=by
    rw[show ((c.toNat:Int)-48)=((c.toNat-48:Nat):Int) by omega]; exact u0 _ (by omega)
   have u2:IntKind.i64.wrap ((c.toNat:Int)-48)=c.toNat-48:=qag _ (by omega)
   have u3:IntKind.i64.wrap (10*(v:Int))=10*v:=qag _ (by omega)
   have u4:IntKind.i64.wrap (10*(v:Int)+((c.toNat:Int)-48))=10*v+(c.toNat-48):=qag _ (by omega)
   have u5:(if 2147483648<10*(v:Int)+(c.toNat-48) then 2147483648 else 10*(v:Int)+(c.toNat-48))=((min (10*v+(c.toNat-48)) 2147483648:Nat):Int):=by split<;>omega
   generalize min (10*v+(c.toNat-48)) 2147483648=v' at ih u5 ⊢
   rw[<- ih,qac]
   cases hσ <;> simp[qae,qge,V.len,h1,hlt,w1,zd,hc,u1,u2,u3,u4,u5,qou,qlz,List.range_succ]
  ·have e0:qbu qas ((byl s).drop i)=0:=by rw[hd]; simp[qbu,hc]
   rw[e0,qac]
   cases hσ <;> simp[qae,qge,V.len,h1,hlt,zd,hc,qoD,List.range_succ]
end Go.Pm
end SKc
section SKd
namespace Go.Pm
open F
set_option maxHeartbeats 4000000
attribute [local simp] qa6 qbJ
theorem qtl (s:ByteArray) (hl:s.size<2 ^ 40) {σ : S} (hσ : LxS s σ) {i:Nat} (hi:i<=s.size):Z tP (.call 267 [.ptr 0 0,.int i] σ) =
  some (.ret (ptD (if 2147483647<digV (((byl s).drop i).take (qbu qas ((byl s).drop i))) then 6 else 4) (s.extract i (i+qbu qas ((byl s).drop i))) i (min (digV (((byl s).drop i).take (qbu qas ((byl s).drop i)))) 2147483648:Nat) (if 2147483647<digV (((byl s).drop i).take (qbu qas ((byl s).drop i))) then 6 else 0)) σ):=by
 have z:=qjX s hl hσ i (s.size-i) i 0 (by omega) (by omega)
 rw[qoE] at z
 have hr:=qfr qas ((byl s).drop i)
 rw[List.length_drop,qaw] at hr
 generalize digV (((byl s).drop i).take (qbu qas ((byl s).drop i)))=n at z ⊢
 generalize hq:i+qbu qas ((byl s).drop i)=q at z ⊢
 have q1:(i:Int)<=q:=by omega
 have q2:(q:Int)<=s.size:=by omega
 have q3:(i:Int)<=s.size:=by omega
 obtain⟨w,hw⟩ : ∃ w,s.extract i q=w:=⟨_,rfl⟩
 rw[hw]
 refine qaa (pf:=F267) rfl rfl ?_
 by_cases hn:2147483647<n
 ·have e:min n 2147483648=2147483648:=by omega
  rw[e] at z ⊢
  rw[if_pos hn,if_pos hn]
  simp only[Int.natCast_zero,Int.cast_ofNat_Int] at z
  cases hσ <;> simp only[List.cons_append,List.nil_append,List.length_cons,List.length_nil,Nat.reduceAdd] at z<;>simp[F267,z,qb3,bound,q1,q2,q3,hw,List.range_succ]
 ·have e:min n 2147483648=n:=by omega
  have hn' : ¬ (2147483647:Int)<n:=by omega
  rw[e] at z ⊢
  rw[if_neg hn,if_neg hn]
  simp only[Int.natCast_zero] at z
  cases hσ <;> simp only[List.cons_append,List.nil_append,List.length_cons,List.length_nil,Nat.reduceAdd] at z<;>simp[F267,z,qb3,bound,q1,q2,q3,hw,hn',List.range_succ]
def qqf:ByteArray:=⟨#[123,125,91,93,40,41,61,59,44,60,62,43,45,42,47,33]⟩
theorem qq9 (c:UInt8):decide (0<=firstIdx qqf c)=decide (c.toNat∈qi9):=by
 have h : ∀ n:_root_.Fin 256,decide (0<=firstIdx qqf n.val.toUInt8)=decide (n.val.toUInt8.toNat∈qi9):=by decide +kernel
 have:=h ⟨c.toNat,c.toNat_lt⟩
 simpa using this
theorem qtm (c:UInt8):Z tP (.call 268 [.str qqf,.dat (.lit (.int .u8 c.toNat))] [])=some (.ret (.int (firstIdx qqf c)) []):=by
 have z:Z tP (.call 275 [.str qqf,.dat (.lit (.int .u8 c.toNat))] [])=some (.ret (.int (firstIdx qqf c)) []):=by
  refine qaa (pf:=F275) rfl rfl ?_
  simp[F275]
 refine qaa (pf:=F268) rfl rfl ?_
 simp[F268,z]
def kindT (t:Tk):Int:=if t.bad≠0 then 6 else if t.s=⟨#[]⟩ then 0 else if qax qaQ t.s then (if t.s∈fieldNames then 3 else if t.s∈wordNames then 2 else 1) else if qax qas t.s then 4 else 5
def qe4 (t:Tk):ByteArray:=if t.bad=12 then ⟨#[]⟩ else t.s
def valT (t:Tk):Nat:=if qax qas t.s then min (digV (byl t.s)) 2147483648 else 0
abbrev ptk (t:Tk):V:=ptD (kindT t) (qe4 t) t.at_ (valT t) t.bad
end Go.Pm
end SKd
section SKe
namespace Go.Pm
open F
set_option maxHeartbeats 4000000
attribute [local simp] qa6 qbJ
theorem qdJ (p:UInt8->Bool) (c:UInt8) (r:List UInt8):qax p (bs (c::r))=p c:=by rw[qby,qc6]; rfl
theorem qnh {c:UInt8} (h:qaQ c=true):qas c=false:=by
 simp only[qaQ,qas,Bool.and_eq_true,decide_eq_true_eq,Bool.and_eq_false_iff,decide_eq_false_iff_not] at h ⊢
 omega
theorem qlA {p:UInt8->Bool} {c:UInt8} (r:List UInt8) (h:p c=true):(c::r).take (qbu p (c::r))=c::r.take (qbu p r):=by simp[qbu,h]
theorem qoP (s:ByteArray) {σ : S} (hσ : LxS s σ):Z tP (.call 250 [.ptr 0 0,.int s.size] σ)=some (.ret (ptD 0 ⟨#[]⟩ s.size 0 0) σ):=by
 refine qaa (pf:=F250) rfl rfl ?_
 cases hσ <;> simp[F250,V.len,List.range_succ]
theorem qoQ (s:ByteArray) {σ : S} (hσ : LxS s σ) {i:Nat} (hi:i<s.size) {c:UInt8} (h1:s[i]?=some c) (hc:qaQ c=true) {v:D} (ho:V.one (.dat v)=true) {k n x e:Int} {t:ByteArray} (z:Z tP (.call 265 [.ptr 0 0,.int i] σ)=some (.ret (ptD k t n x e) σ)):Z tP (.call 250 [.ptr 0 0,.int i] σ)=some (.ret (ptD k t n x e) σ):=by
 have zl:=qes c
 have hne : ¬ (i:Int)=s.size:=by omega
 have hne' : ¬ i=s.size:=by omega
 refine qaa (pf:=F250) rfl rfl ?_
 cases hσ <;> simp[F250,V.len,h1,hne,hne',zl,hc,z,List.range_succ]
theorem qoR (s:ByteArray) {σ : S} (hσ : LxS s σ) {i:Nat} (hi:i<s.size) {c:UInt8} (h1:s[i]?=some c) (hl:qaQ c=false) (hc:qas c=true) {k n x e:Int} {t:ByteArray} (z:Z tP (.call 267 [.ptr 0 0,.int i] σ)=some (.ret (ptD k t n x e) σ)):Z tP (.call 250 [.ptr 0 0,.int i] σ)=some (.ret (ptD k t n x e) σ):=by
 have zl:=qes c
 have zd:=qfQ c
 have hne : ¬ (i:Int)=s.size:=by omega
 have hne' : ¬ i=s.size:=by omega
 refine qaa (pf:=F250) rfl rfl ?_
 cases hσ <;> simp[F250,V.len,h1,hne,hne',zl,zd,hl,hc,z,List.range_succ]
theorem qni (s:ByteArray) (hs:s.size<2 ^ 40) {σ : S} (hσ : LxS s σ) {i:Nat} (hi:i+2<=s.size) {c:UInt8} (h1:s[i]?=some c) (hl:qaQ c=false) (hc:qas c=false) {p:ByteArray} (hx:s.extract i (i+2)=p) (hp:p∈qdw):Z tP (.call 250 [.ptr 0 0,.int i] σ)=some (.ret (ptD 5 p i 0 0) σ):=by
 have zl:=qes c
 have zd:=qfQ c
 have hne : ¬ (i:Int)=s.size:=by omega
 have hne' : ¬ i=s.size:=by omega
 have w2:=qag ((i:Int)+2) (by omega)
 have hle:(i:Int)+2<=s.size:=by omega
 have b1:(i:Int)<=s.size:=by omega
 have b2:(i:Int)<=(i:Int)+2:=by omega
 have b3:(0:Int)<=(i:Int)+2:=by omega
 have b4:((i:Int)+2).toNat=i+2:=by omega
 simp only[qdw,bs,List.mem_cons,List.not_mem_nil,or_false] at hp
 refine qaa (pf:=F250) rfl rfl ?_
 rcases hp with rfl | rfl | rfl | rfl | rfl | rfl<;>cases hσ <;> simp[F250,V.len,h1,hne,hne',zl,zd,hl,hc,w2,hle,qb3,bound,b1,b2,b3,b4,hx,qbU,List.range_succ]
theorem qoS (s:ByteArray) (hs:s.size<2 ^ 40) {σ : S} (hσ : LxS s σ) {i:Nat} (hi:i<s.size) {c:UInt8} (h1:s[i]?=some c) (hl:qaQ c=false) (hc:qas c=false) (hp:i+2<=s.size->s.extract i (i+2)∉qdw) {x:ByteArray} (hx:s.extract i (i+1)=x):Z tP (.call 250 [.ptr 0 0,.int i] σ)=some (.ret (if c.toNat∈qi9 then ptD 5 x i 0 0 else ptD 6 ⟨#[]⟩ i 0 12) σ):=by
 have zl:=qes c
 have zd:=qfQ c
 have zx:=qtm c
 have hm:=qq9 c
 obtain⟨j,hj0⟩ : ∃ j,firstIdx qqf c=j:=⟨_,rfl⟩
 rw[hj0] at zx hm
 simp only[qqf] at zx
 have hne : ¬ (i:Int)=s.size:=by omega
 have hne' : ¬ i=s.size:=by omega
 have w1:=qag ((i:Int)+1) (by omega)
 have w2:=qag ((i:Int)+2) (by omega)
 have a1:(i:Int)+1<=s.size:=by omega
 have a2:(i:Int)<=(i:Int)+1:=by omega
 have a3:(0:Int)<=(i:Int)+1:=by omega
 have a4:((i:Int)+1).toNat=i+1:=by omega
 have b1:(i:Int)<=s.size:=by omega
 have b2:(i:Int)<=(i:Int)+2:=by omega
 have b3:(0:Int)<=(i:Int)+2:=by omega
 have b4:((i:Int)+2).toNat=i+2:=by omega
 by_cases hle:i+2<=s.size
 ·have hle':(i:Int)+2<=s.size:=by omega
  have hp':=hp hle
  generalize hy:s.extract i (i+2)=y at hp'
  simp only[qdw,bs,List.mem_cons,List.not_mem_nil,or_false,not_or] at hp'
  obtain⟨n1,n2,n3,n4,n5,n6⟩:=hp'
  refine qaa (pf:=F250) rfl rfl ?_
  by_cases hk:c.toNat∈qi9
  ·have hj:(0:Int)<=j:=by simpa [hk] using hm
   rw[if_pos hk]
   cases hσ <;> simp[F250,V.len,h1,hne,hne',zl,zd,zx,hl,hc,w1,w2,hle',qb3,bound,a1,a2,a3,a4,b1,b2,b3,b4,hx,hy,n1,n2,n3,n4,n5,n6,hj,qbU,List.range_succ]
  ·have hj : ¬ (0:Int)<=j:=by simpa [hk] using hm
   rw[if_neg hk]
   cases hσ <;> simp[F250,V.len,h1,hne,hne',zl,zd,zx,hl,hc,w1,w2,hle',qb3,bound,a1,a2,a3,a4,b1,b2,b3,b4,hx,hy,n1,n2,n3,n4,n5,n6,hj,qbU,List.range_succ]
 ·have hle' : ¬ (i:Int)+2<=s.size:=by omega
  refine qaa (pf:=F250) rfl rfl ?_
  by_cases hk:c.toNat∈qi9
  ·have hj:(0:Int)<=j:=by simpa [hk] using hm
   rw[if_pos hk]
   cases hσ <;> simp[F250,V.len,h1,hne,hne',zl,zd,zx,hl,hc,w1,w2,hle',qb3,bound,a1,a2,a3,a4,hx,hj,qbU,List.range_succ]
  ·have hj : ¬ (0:Int)<=j:=by simpa [hk] using hm
   rw[if_neg hk]
   cases hσ <;> simp[F250,V.len,h1,hne,hne',zl,zd,zx,hl,hc,w1,w2,hle',qb3,bound,hj,qbU,List.range_succ]
end Go.Pm
end SKe
