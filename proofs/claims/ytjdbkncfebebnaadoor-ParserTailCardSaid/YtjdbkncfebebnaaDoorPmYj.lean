/- The rule language in plain Lean: written tokens stand one behind the other; whole programs read back. No program in sight. The rule language in plain Lean: trees that are equal but for their marks; parsing with other marks. No program in sight. The abstract machine's program: short forms of its operations. The abstract machine's program, printed by a program of our own: group 3. -/
import Derived.Test.YtjdbkncfebebnaaDoorPmEt
import Derived.Test.YtjdbkncfebebnaaDoorPmA
set_option linter.unusedSimpArgs false
set_option linter.unusedVariables false
section SYj
namespace Go.Pm
def qqc (u:ByteArray):Prop:=(byl u).head?≠some 61
def qsW (t:ByteArray):Prop:=t≠bs [60]/\t≠bs [62]/\t≠bs [61]/\t≠bs [33]
theorem qke : ∀ {a b:List ByteArray},Ok2 a->Ok2 b->(∀ t u,a.getLast?=some t->b.head?=some u->Adj t u)->Ok2 (a++b)
 | [],b,_,hb,_=>hb
 | t::a,b,ha,hb,h=>by
  refine⟨ha.1,fun u hu=>?_,qke ha.2.2 hb fun t' u h1 h2=>?_⟩
  ·cases a with
   | nil=>exact h t u rfl hu
   | cons v a=>exact ha.2.1 u hu
  ·cases a with
   | nil=>cases h1
   | cons v a=>exact h t' u (by rw[List.getLast?_cons_cons]; exact h1) h2
structure Cl (l:List ByteArray):Prop where
 ok:Ok2 l
 st : ∀ u,l.head?=some u->qqc u
 en : ∀ t,l.getLast?=some t->qsW t
theorem qpc:Cl []:=⟨trivial,fun u h=>(by cases h),fun t h=>(by cases h)⟩
theorem qkY {x:ByteArray} (h:Tg (byl x)) (h1:qqc x) (h2:qsW x):Cl [x]:=⟨⟨h,fun u hu=>(by cases hu),trivial⟩,fun u hu=>(by cases hu; exact h1),fun t ht=>(by cases ht; exact h2)⟩
theorem qbH {a b:List ByteArray} (ha:Cl a) (hb:Cl b):Cl (a++b):=by
 refine⟨qke ha.ok hb.ok fun t u h1 _ => .inl (ha.en t h1),fun u hu=>?_,fun t ht=>?_⟩
 ·cases a with
  | nil=>exact hb.st u hu
  | cons v a=>exact ha.st u hu
 ·rw[List.getLast?_append] at ht
  cases hbl:b.getLast? with
  | none=>rw[hbl] at ht; exact ha.en t ht
  | some v=>rw[hbl] at ht; exact hb.en t (hbl.trans ht)
theorem qqd {x:ByteArray} {a b:List ByteArray} (h:Tg (byl x)) (ha:Cl a) (hb:Cl b) (na:a≠[]) (nb:b≠[]):Cl (a++x::b):=by
 have hxb:Ok2 (x::b):=⟨h,fun u hu => .inr (hb.st u hu),hb.ok⟩
 refine⟨qke ha.ok hxb fun t u h1 _ => .inl (ha.en t h1),fun u hu=>?_,fun t ht=>?_⟩
 ·cases a with
  | nil=>exact absurd rfl na
  | cons v a=>exact ha.st u hu
 ·cases b with
  | nil=>exact absurd rfl nb
  | cons v b=>
   rw[List.getLast?_append,List.getLast?_cons_cons] at ht
   cases hbl:(v::b).getLast? with
   | none=>simp at hbl
   | some w=>rw[hbl] at ht; exact hb.en t (hbl.trans ht)
theorem qr6 {x:ByteArray} {b:List ByteArray} (h:Tg (byl x)) (h1:qqc x) (hb:Cl b) (nb:b≠[]):Cl (x::b):=by
 refine⟨⟨h,fun u hu => .inr (hb.st u hu),hb.ok⟩,fun u hu=>(by cases hu; exact h1),fun t ht=>?_⟩
 cases b with
 | nil=>exact absurd rfl nb
 | cons v b=>rw[List.getLast?_cons_cons] at ht; exact hb.en t ht
theorem qmM {c:UInt8} (h:c.toNat∈qkD):Tg (byl (bs [c])):=by rw[qbg]; exact .inr (.inr (.inr ⟨c,rfl,h⟩))
theorem qtC (o:Bop):Tg (byl o.str):=by
 cases o
 all_goals first
  | exact .inr (.inr (.inr ⟨_,rfl,by decide⟩))
  | exact .inr (.inr (.inl (by decide)))
theorem qtD (neg:Bool):Tg (byl (ustr neg)):=by
 cases neg<;>exact .inr (.inr (.inr ⟨_,rfl,by decide⟩))
theorem qqe {c:UInt8} {r:List UInt8} (h:qbi c=true) (h2 : ∀ b∈r,qaR b=true) (h3:(c::r).length<=8):Tg (byl (bs (c::r))):=by
 rw[qbg]
 exact .inl ⟨c,r,rfl,h,h2,fun h=>by omega⟩
theorem clf {x:ByteArray} (h:x∈fieldNames):Cl [x]:=by
 simp only[fieldNames,List.mem_cons,List.not_mem_nil,or_false] at h
 rcases h with h | h | h | h | h | h | h | h<;>rw[h]
 all_goals exact qkY (.inl ⟨_,_,rfl,by decide,by decide,by decide⟩) (by unfold qqc; decide) (by unfold qsW; decide)
theorem clw {x:ByteArray} (h:x∈wordNames):Cl [x]:=by
 simp only[wordNames,List.mem_cons,List.not_mem_nil,or_false] at h
 rcases h with h | h | h | h | h | h | h | h | h | h | h | h | h<;>rw[h]
 all_goals exact qkY (.inl ⟨_,_,rfl,by decide,by decide,by decide⟩) (by unfold qqc; decide) (by unfold qsW; decide)
theorem qpd {x:ByteArray} (h:Tg (byl x)) (hs:qaH qbi x=true\/qaH qaA x=true):Cl [x]:=by
 refine qkY h ?_ ⟨?_,?_,?_,?_⟩
 ·intro h1
  rw[qbu,qbu,h1] at hs
  exact absurd hs (by decide)
 all_goals rintro rfl; exact absurd hs (by decide)
theorem qmN {x:ByteArray} (h:qqq x):Cl [x]:=qpd h.1 (.inl h.2.1)
theorem cls {c:UInt8} (h:c.toNat∈qkD) (h1:c≠61) (h2:c≠60/\c≠62/\c≠33):Cl [bs [c]]:=by
 refine qkY (qmM h) (by rw[qqc,qbg]; simpa using h1) ⟨?_,?_,?_,?_⟩
 all_goals
  intro h
  have:=qjN h
  simp only[List.cons.injEq,and_true] at this
  simp_all
theorem qqf (full:Bool) {e:E} (h:e.good) (p:Nat):e.tx full p≠[]:=by
 obtain⟨x,l,h1,_⟩:=qmW full e h p
 rw[h1]; simp
theorem qkZ {b:Bool} {l:List ByteArray} (h:Cl l):Cl (qcn b l):=by
 unfold qcn
 split
 ·exact qbH (a:=[bs [40]]) (cls (by decide) (by decide) (by decide)) (qbH h (cls (by decide) (by decide) (by decide)))
 ·exact h
theorem qgV (full:Bool) : ∀ e:E,e.good -> ∀ p,Cl (e.tx full p)
 | .int n,h,p=>qpd (by rw[qbg]; exact qqs (by have:=h.1; have:=h.2; omega)) (.inr (qk3 (by have:=h.1; have:=h.2; omega)))
 | .bool n,h,p=>by
  simp only[E.tx]
  split<;>exact clw (by decide)
 | .var s,h,p=>qmN h
 | .name s,h,p=>by
  refine clw ?_
  rcases h with rfl | rfl | rfl<;>decide
 | .field g s e,h,p=>qbH (clf h.1) (qbH (a:=[bs [91]]) (cls (by decide) (by decide) (by decide)) (qbH (qgV full e h.2 1) (cls (by decide) (by decide) (by decide))))
 | .un g neg e,h,p=>qkZ (qr6 (qtD neg) (by unfold qqc; cases neg<;>decide) (qgV full e h _) (qqf full (e:=e) h _))
 | .bin g o a b,h,p=>qkZ (qqd (qtC o) (qgV full a h.1 _) (qgV full b h.2 _) (qqf full h.1 _) (qqf full h.2 _))
theorem qhq : ∀ (s:Ss) m,s.good m->Cl s.tx
 | .nil,m,h=>qpc
 | .assign g s e r,m,h=>qqd (a:=[s]) (qmM (by decide)) (qmN h.2.1) (qbH (qgV false e h.2.2.1 1) (qbH (a:=[bs [59]]) (cls (by decide) (by decide) (by decide)) (qhq r _ h.2.2.2))) (by simp) (by simp)
 | .store g s a b r,m,h=>by
  have h1:Cl (s::bs [91]::(a.tx false 1++[bs [93]])):=qbH (clf h.2.1) (qbH (a:=[bs [91]]) (cls (by decide) (by decide) (by decide)) (qbH (qgV false a h.2.2.1 1) (cls (by decide) (by decide) (by decide))))
  have h2:Cl (b.tx false 1++(bs [59]::r.tx)):=qbH (qgV false b h.2.2.2.1 1) (qbH (a:=[bs [59]]) (cls (by decide) (by decide) (by decide)) (qhq r _ h.2.2.2.2))
  have:=qqd (x:=bs [61]) (qmM (by decide)) h1 h2 (by simp) (by simp)
  simpa [Ss.tx] using this
 | .effect g a b r,m,h=>qbH (a:=[qki]) (clw (by decide)) (qbH (qgV false a h.2.1 1) (qbH (a:=[bs [44]]) (cls (by decide) (by decide) (by decide)) (qbH (qgV false b h.2.2.1 1) (qbH (a:=[bs [59]]) (cls (by decide) (by decide) (by decide)) (qhq r _ h.2.2.2)))))
 | .stop r,m,h=>qbH (a:=[qqp]) (clw (by decide)) (qbH (a:=[bs [59]]) (cls (by decide) (by decide) (by decide)) (qhq r _ h.2))
 | .cond w g c b r,m,h=>qbH (a:=[if w then qmU else ifS]) (clw (by cases w<;>decide)) (qbH (qgV false c h.2.1 1) (qbH (qhq b _ h.2.2.1) (qhq r _ h.2.2.2)))
 | .block g b r,m,h=>by
  obtain⟨n,_,h1,h2⟩:=h
  have hlast:Cl (if qfJ r then qov::r.tx else []):=?_
  ·exact qbH (a:=[bs [123]]) (cls (by decide) (by decide) (by decide)) (qbH (qhq b _ h1) (qbH (a:=[bs [125]]) (cls (by decide) (by decide) (by decide)) hlast))
  split
  ·exact qbH (a:=[qov]) (clw (by decide)) (qhq r _ h2)
  ·exact qpc
def qeQ (k:Nat):ByteArray:=match k with | 0=>bs [97,99,116] | 1=>qhs | _=>qjL
def qlF (k:Nat):Option Ss->List ByteArray
 | none=>[]
 | some b=>onS::qeQ k::bs [123]::(b.tx++[bs [125]])
def qmO (h:Option Ss):Prop := ∀ b,h=some b->b.good none/\b.nest<=19
def qdg (h:Nat->Option Ss):List ByteArray:=qlF 0 (h 0)++(qlF 1 (h 1)++qlF 2 (h 2))
end Go.Pm
end SYj
section SUa
namespace Go.Pm
def Rz.map {α β : Type} (k : α -> β):Rz α -> Rz β
 | .ok a r => .ok (k a) r
 | .er i c => .er i c
end Go.Pm
end SUa
section SFX
namespace Go.Pm.F
@[simp] abbrev sN:D := .lit (.slice none 0 0)
@[simp] abbrev eN:D := .lit (.string ⟨#[]⟩)
@[simp] abbrev zN:D := .lit (.int .i64 0)
@[simp] abbrev ii (n:Int):D := .lit (.int .i64 n)
@[simp] abbrev kk (n:Int):X := .c (.int .i64 n)
@[simp] abbrev kT:X := .c (.bool true)
@[simp] abbrev kF:X := .c (.bool false)
@[simp] abbrev jj (d:Nat) (o:O):I:=⟨some d,o,none,[]⟩
@[simp] abbrev jn (o:O):I:=⟨none,o,none,[]⟩
@[simp] abbrev jt (d g:Nat) (o:O):I:=⟨some d,o,some (g,true),[]⟩
@[simp] abbrev jf (d g:Nat) (o:O):I:=⟨some d,o,some (g,false),[]⟩
@[simp] abbrev mv (d a:Nat):I:=⟨some d,.mov (.t a),none,[]⟩
@[simp] abbrev mx (d:Nat) (x:X):I:=⟨some d,.mov x,none,[]⟩
@[simp] abbrev l1 (d a:Nat):I:=⟨some d,.load false 1 (.t a),none,[]⟩
@[simp] abbrev la (d n a:Nat):I:=⟨some d,.load true n (.t a),none,[]⟩
@[simp] abbrev fa (d o a:Nat):I:=⟨some d,.fieldAddr o (.t a),none,[]⟩
@[simp] abbrev nc (d a:Nat):I:=⟨some d,.nilchk (.t a),none,[]⟩
@[simp] abbrev bx (d a:Nat):I:=⟨some d,.box (.t a),none,[]⟩
@[simp] abbrev ex (d a n:Nat):I:=⟨some d,.extract (.t a) n,none,[]⟩
@[simp] abbrev ls (d a:Nat):I:=⟨some d,.len .sl (.t a),none,[]⟩
@[simp] abbrev lz (d a:Nat):I:=⟨some d,.len .str (.t a),none,[]⟩
@[simp] abbrev bn (d:Nat) (o:BinOp) (a b:Nat):I:=⟨some d,.bin o (.t a) (.t b),none,[]⟩
@[simp] abbrev bk (d:Nat) (o:BinOp) (a:Nat) (n:Int):I:=⟨some d,.bin o (.t a) (.c (.int .i64 n)),none,[]⟩
@[simp] abbrev st (n a b:Nat):I:=⟨none,.store n (.t a) (.t b),none,[]⟩
@[simp] abbrev cl (d f:Nat) (xs:List Nat):I:=⟨some d,.call f (xs.map .t),none,[]⟩
@[simp] abbrev rn (ops:List I) (keep:List Nat) (lasts:List Nat:=[]):PC := .region none ops keep lasts
end Go.Pm.F
end SFX
section SF3
namespace Go.Pm.F
variable (C:Task->Option Res) (q:Nat) (fr:Fr) (σ : S)
@[simp] def F228a0x:PC:=(rn [jj 6 (.alloc [zN,eN,zN,zN,zN]),st 5 6 20] [1000000,5,6])
def F228a0:PC:=F228a0x
theorem qhG:run C q F228a0 fr σ = run C q F228a0x fr σ := rfl
@[simp] def F228b0x:PC:=(.block 1 (.region (some []) [⟨some 21,.load false 1 (.t 5),none,[7]⟩,l1 22 5,nc 23 22,fa 24 2 23,l1 25 24,la 26 5 6,jj 27 (.bslice 1 [zN,eN,zN,zN,zN] [(0,5,(.t 26))]),jj 28 (.append 5 48 (.t 25) (.t 27)),nc 29 21,fa 30 2 29,st 1 30 28] [1000000]))
def F228b0:PC:=F228b0x
theorem qhH:run C q F228b0 fr σ = run C q F228b0x fr σ := rfl
theorem qgI:F228a0.flat=true:=rfl
theorem qgJ:F228b0.flat=true:=rfl
def F228:PFun:=⟨1,[.cell 2 true 12,.cell 3 false 1,.cell 4 false 1],.seq (rn [jj 2 (.alloc [zN,zN,eN,sN,zN,zN,eN,sN,zN,zN,eN,sN]),jj 3 (.alloc [zN]),jj 4 (.alloc [zN])] [1000000,0,2,3,4]) (.seq (.seq (rn [mv 7 0,lz 8 7,bk 9 .gtr 8 2000] [1000000,0,2,3,4,9]) (.cond (.t 9) (.seq (rn [jj 10 (.build [zN,zN,eN,sN,zN,zN,eN,sN,zN,zN,eN,sN] []),st 12 2 10,jn (.store 1 (.t 3) (kk 2000)),jn (.store 1 (.t 4) (kk 2))] [1000000,2,3,4]) (.ret)) (.skip))) (.seq (rn [mv 11 0,cl 12 239 [11],jj 13 (.build [eN,(.lit (.map none)),sN,zN,zN,zN] [(0,2,(.t 12)),(5,1,(kk 12))]),bx 14 13,jj 5 (.alloc [(.lit (.pointer none))]),st 1 5 14] [1000000,2,3,4,5]) (.seq (rn [jj 15 (.mkfn 240 [] [(.t 5),(.t 2),(.t 3),(.t 4)]),jj 1000000 (.defer (.t 15) [])] [1000000,2,3,4,5]) (.seq (.seq (rn [l1 16 5,nc 17 16,fa 18 0 17,cl 19 241 [18]] [1000000,2,3,4,5,19]) (.block 0 (.range (.t 19) [20] F228a0 F228b0))) (.seq (rn [l1 31 5,cl 32 242 [31],st 12 2 32,jn (.store 1 (.t 3) (kk 0)),jn (.store 1 (.t 4) (kk 0))] [1000000,2,3,4]) (.ret)))))),false,true,false⟩
@[simp] def F231l0x:PC:=(.seq (rn [bk 10 .lss 9 3] [1,3,8,9,10]) (.seq (.cond (.t 10) (.skip) (.exit 0)) (.seq (.block 1 (.seq (rn [mv 11 9,jj 12 (.indexA false 3 1 (.t 8) (.t 9)),mv 4 11,mv 5 12] [1,3,4,5,8,9]) (.seq (rn [mv 13 4,fa 14 0 1,jj 15 (.indexAddrA 3 4 (.t 14) (.t 13)),fa 16 0 15,l1 17 16,bk 18 .neq 17 0] [1,3,4,5,8,9,18]) (.cond (.t 18) (.seq (rn [mv 19 3,mv 20 5,jj 21 (.bslice 2 [eN,eN] [(0,1,(.c (.string ⟨#[111,110]⟩))),(1,1,(.t 20))]),cl 22 243 [19,21]] [1,3,4,8,9]) (rn [mv 23 3,mv 24 4,fa 25 0 1,jj 26 (.indexAddrA 3 4 (.t 25) (.t 24)),la 27 4 26,cl 28 244 [23,27]] [1,3,8,9])) (.skip))))) (rn [bk 29 .add 9 1,mv 9 29] [1,3,8,9]))))
def F231l0:PC:=F231l0x
def F231:PFun:=⟨1,[.tmp 2],.seq (rn [bx 1 0,jj 2 (.mov (.c (.string ⟨#[]⟩)))] [1]) (.seq (rn [jj 6 (.build [(.lit (.pointer none)),sN,(.lit (.int .u8 0))] []),jj 7 (.boxT 4 (.t 6)),mv 3 7] [1,3]) (.seq (.seq (rn [jj 8 (.build [eN,eN,eN] [(0,1,(.c (.string ⟨#[97,99,116]⟩))),(1,1,(.c (.string ⟨#[116,105,99,107]⟩))),(2,1,(.c (.string ⟨#[104,105,116]⟩)))]),mx 9 (kk 0)] [1,3,8,9]) (.block 0 (.loop F231l0))) (.seq (rn [mv 30 3,nc 31 30,fa 32 0 31,cl 33 245 [32],mv 2 33] [2]) (.ret)))),false,false,false⟩
def F239:PFun:=⟨1,[.cell 2 true 2],.seq (rn [jj 2 (.alloc [eN,(.lit (.map none))])] [0,2]) (.seq (rn [mv 3 0,jj 4 (.mkmap),jn (.mapset .s (.t 4) (.c (.string ⟨#[111,110]⟩)) (kk 2)),jn (.mapset .s (.t 4) (.c (.string ⟨#[97,99,116]⟩)) (kk 2)),jn (.mapset .s (.t 4) (.c (.string ⟨#[116,105,99,107]⟩)) (kk 2)),jn (.mapset .s (.t 4) (.c (.string ⟨#[105,102]⟩)) (kk 2)),jn (.mapset .s (.t 4) (.c (.string ⟨#[101,108,115,101]⟩)) (kk 2)),jn (.mapset .s (.t 4) (.c (.string ⟨#[119,104,105,108,101]⟩)) (kk 2)),jn (.mapset .s (.t 4) (.c (.string ⟨#[101,102,102,101,99,116]⟩)) (kk 2)),jn (.mapset .s (.t 4) (.c (.string ⟨#[115,116,111,112]⟩)) (kk 2)),jn (.mapset .s (.t 4) (.c (.string ⟨#[116,114,117,101]⟩)) (kk 2)),jn (.mapset .s (.t 4) (.c (.string ⟨#[102,97,108,115,101]⟩)) (kk 2)),jn (.mapset .s (.t 4) (.c (.string ⟨#[115,101,108,102]⟩)) (kk 2)),jn (.mapset .s (.t 4) (.c (.string ⟨#[111,116,104,101,114]⟩)) (kk 2)),jn (.mapset .s (.t 4) (.c (.string ⟨#[120]⟩)) (kk 3)),jn (.mapset .s (.t 4) (.c (.string ⟨#[121]⟩)) (kk 3)),jn (.mapset .s (.t 4) (.c (.string ⟨#[118,120]⟩)) (kk 3)),jn (.mapset .s (.t 4) (.c (.string ⟨#[118,121]⟩)) (kk 3)),jn (.mapset .s (.t 4) (.c (.string ⟨#[97]⟩)) (kk 3)),jn (.mapset .s (.t 4) (.c (.string ⟨#[98]⟩)) (kk 3)),jn (.mapset .s (.t 4) (.c (.string ⟨#[104,105,116]⟩)) (kk 3)),jn (.mapset .s (.t 4) (.c (.string ⟨#[115,116,105,108,108]⟩)) (kk 3)),mv 5 4,jj 6 (.build [eN,(.lit (.map none))] [(0,1,(.t 3)),(1,1,(.t 5))]),st 2 2 6] [2]) (.ret)),false,false,false⟩
def F240:PFun:=⟨4,[],.seq (rn [jj 4 (.recov),jj 5 (.isnil false true (.t 4))] [0,1,2,3,5]) (.cond (.t 5) (.region (some []) [jj 6 (.build [zN,zN,eN,sN,zN,zN,eN,sN,zN,zN,eN,sN] []),l1 7 0,nc 8 7,fa 9 4 8,l1 10 9,l1 11 0,nc 12 11,fa 13 5 12,l1 14 13,st 12 1 6,st 1 2 10,st 1 3 14] []) (.skip)),false,false,true⟩
def F241:PFun:=⟨1,[.tmp 2],.seq (rn [bx 1 0,jj 2 (.mov (.c .nilFunc))] [1]) (.seq (rn [jj 3 (.mkfn 249 [] [(.t 1)]),mv 2 3] [2]) (.ret)),false,false,false⟩
@[simp] def F242l0x:PC:=(.seq (.seq (rn [mv 5 0,cl 6 252 [5],jj 7 (.field false 0 1 (.t 6)),bk 8 .neq 7 0] [0,2,3,8]) (.cond (.t 8) (.skip) (.exit 0))) (.block 1 (.seq (rn [mv 9 0,jj 10 (.call 253 [(.t 9),(.c (.string ⟨#[111,110]⟩))])] [0,2,3]) (.seq (rn [mv 11 0,cl 12 254 [11],mv 4 12] [0,2,3,4]) (.seq (.seq (rn [mv 13 4,fa 14 0 3,jj 15 (.indexAddrA 3 4 (.t 14) (.t 13)),fa 16 0 15,l1 17 16,bk 18 .neq 17 0] [0,2,3,4,18]) (.cond (.t 18) (rn [mv 19 0,mv 20 0,cl 21 252 [20],jj 22 (.call 255 [(.t 19),(.t 21),(kk 4)])] [0,2,3,4]) (.skip))) (.seq (rn [mv 23 0,nc 24 23,fa 25 3 24,l1 26 25,bk 27 .add 26 1,nc 28 23,fa 29 3 28,st 1 29 27] [0,2,3,4]) (rn [mv 30 4,mv 31 0,jj 32 (.call 256 [(.t 31),(kk 1)]),fa 33 0 3,jj 34 (.indexAddrA 3 4 (.t 33) (.t 30)),st 4 34 32] [0,2,3])))))))
def F242l0:PC:=F242l0x
theorem qct:run C q F242l0 fr σ = run C q F242l0x fr σ := rfl
def F242:PFun:=⟨1,[.cell 2 true 12],.seq (rn [jj 2 (.alloc [zN,zN,eN,sN,zN,zN,eN,sN,zN,zN,eN,sN])] [0,2]) (.seq (rn [jj 3 (.alloc [zN,zN,eN,sN,zN,zN,eN,sN,zN,zN,eN,sN])] [0,2,3]) (.seq (.block 0 (.loop F242l0)) (.seq (rn [la 35 12 3,st 12 2 35] [2]) (.ret)))),false,false,false⟩
@[simp] def F243l0x:PC:=(.seq (rn [bn 9 .lss 8 7] [0,6,7,8,9]) (.seq (.cond (.t 9) (.skip) (.exit 0)) (.seq (.block 1 (.seq (rn [jj 10 (.indexAddr 1 (.t 6) (.t 8)),l1 11 10,mv 5 11] [0,5,6,7,8]) (.seq (.seq (rn [mv 12 5,jj 13 (.bin .eql (.t 12) (.c (.string ⟨#[]⟩)))] [0,5,6,7,8,13]) (.cond (.t 13) (.exit 1) (.skip))) (.seq (.seq (rn [mv 14 0,nc 15 14,fa 16 2 15,l1 17 16,cl 18 257 [17],mv 19 18,jt 20 19 (.mov (.t 5)),jt 21 19 (.indexS (.t 20) (kk 0)),jt 22 19 (.call 257 [(.t 21)]),jj 23 (.pick (.t 19) (.t 22) kF)] [0,5,6,7,8,23]) (.cond (.t 23) (rn [mv 24 0,nc 25 24,fa 26 0 25,jj 27 (.call 258 [(.t 26),(.c (.int .u8 32))])] [0,5,6,7,8]) (.skip))) (.seq (rn [mv 28 0,nc 29 28,fa 30 0 29,mv 31 5,cl 32 259 [30,31]] [0,5,6,7,8]) (rn [mv 33 0,mv 34 5,mv 35 5,lz 36 35,bk 37 .sub 36 1,jj 38 (.indexS (.t 34) (.t 37)),nc 39 33,fa 40 2 39,st 1 40 38] [0,6,7,8])))))) (rn [bk 41 .add 8 1,mv 8 41] [0,6,7,8]))))
def F243l0:PC:=F243l0x
def F243:PFun:=⟨2,[],.seq (rn [mv 6 1,ls 7 6,mx 8 (kk 0)] [0,6,7,8]) (.block 0 (.loop F243l0)),false,false,false⟩
@[simp] def F244l0x:PC:=(.seq (rn [bn 13 .lss 12 11] [0,10,11,12,13]) (.seq (.cond (.t 13) (.skip) (.exit 0)) (.seq (.block 1 (.seq (rn [jj 14 (.indexAddr 4 (.t 10) (.t 12)),la 15 4 14,jj 5 (.alloc [zN,zN,eN,sN]),st 4 5 15] [0,5,10,11,12]) (rn [mv 16 0,la 17 4 5,cl 18 260 [16,17]] [0,10,11,12]))) (rn [bk 19 .add 12 1,mv 12 19] [0,10,11,12]))))
def F244l0:PC:=F244l0x
def F244:PFun:=⟨2,[],.seq (rn [bx 3 1] [0,3]) (.seq (rn [mv 6 0,jj 7 (.bslice 1 [eN] [(0,1,(.c (.string ⟨#[123]⟩)))]),cl 8 243 [6,7]] [0,3]) (.seq (.seq (rn [fa 9 3 3,l1 10 9,ls 11 10,mx 12 (kk 0)] [0,10,11,12]) (.block 0 (.loop F244l0))) (rn [mv 20 0,jj 21 (.bslice 1 [eN] [(0,1,(.c (.string ⟨#[125]⟩)))]),cl 22 243 [20,21]] []))),false,false,false⟩
@[simp] def F249l0x:PC:=(.block 1 (.seq (.region (some [(34,[zN,eN,zN,zN,zN])]) [⟨some 5,.load false 1 (.t 1),none,[3]⟩,l1 6 1,mv 7 3,cl 8 251 [6,7],cl 9 250 [5,8],⟨some 4,.fill 34,none,[3,4]⟩,st 5 4 9] [0,1,4]) (.seq (.seq (rn [mv 10 0,la 11 5 4,jj 12 (.callv (.t 10) [(.t 11)]),jj 13 (.un .not (.t 12)),mv 14 13,jf 15 14 (.fieldAddr 0 (.t 4)),jf 16 14 (.load false 1 (.t 15)),jf 17 14 (.bin .eql (.t 16) (kk 0)),jj 18 (.pick (.t 14) kT (.t 17)),mv 19 18,jf 20 19 (.fieldAddr 0 (.t 4)),jf 21 19 (.load false 1 (.t 20)),jf 22 19 (.bin .eql (.t 21) (kk 6)),jj 23 (.pick (.t 19) kT (.t 22))] [0,1,4,23]) (.cond (.t 23) (.ret) (.skip))) (rn [fa 24 2 4,l1 25 24,fa 26 1 4,l1 27 26,lz 28 27,bn 29 .add 25 28,mv 3 29] [0,1,3]))))
def F249l0:PC:=F249l0x
theorem qex:run C q F249l0 fr σ = run C q F249l0x fr σ := rfl
def F249:PFun:=⟨2,[],.seq (rn [mx 3 (kk 0)] [0,1,3]) (.block 0 (.loop F249l0)),false,false,false⟩
def F250:PFun:=⟨2,[.cell 4 true 5],.seq (rn [jj 4 (.alloc [zN,eN,zN,zN,zN])] [0,1,4]) (.seq (.seq (rn [mv 7 1,mv 8 0,nc 9 8,fa 10 0 9,l1 11 10,lz 12 11,bn 13 .eql 7 12] [0,1,4,13]) (.cond (.t 13) (.seq (rn [mv 14 1,jj 15 (.build [zN,eN,zN,zN,zN] [(0,1,(kk 0)),(2,1,(.t 14))]),st 5 4 15] [4]) (.ret)) (.skip))) (.seq (.seq (rn [mv 16 0,nc 17 16,fa 18 0 17,l1 19 18,mv 20 1,jj 21 (.indexS (.t 19) (.t 20)),mv 5 21] [0,1,4,5]) (.block 0 (.seq (rn [mv 23 5,cl 24 264 [23],mv 22 24] [0,1,4,5,22]) (.cond (.t 22) (.seq (rn [mv 25 0,mv 26 1,cl 27 265 [25,26],st 5 4 27] [4]) (.ret)) (.seq (rn [mv 29 5,cl 30 266 [29],mv 28 30] [0,1,4,28]) (.cond (.t 28) (.seq (rn [mv 31 0,mv 32 1,cl 33 267 [31,32],st 5 4 33] [4]) (.ret)) (.skip))))))) (.seq (.seq (rn [mv 34 1,bk 35 .add 34 2,mv 36 0,nc 37 36,fa 38 0 37,l1 39 38,lz 40 39,bn 41 .leq 35 40] [0,1,4,41]) (.cond (.t 41) (.seq (rn [mv 42 0,nc 43 42,fa 44 0 43,l1 45 44,mv 46 1,mv 47 1,bk 48 .add 47 2,jj 49 (.sliceS (.t 45) (some (.t 46)) (some (.t 48))),mv 6 49] [0,1,4,6]) (.seq (rn [mv 50 6] [0,1,4,6,50]) (.block 1 (.seq (.seq (rn [jj 52 (.bin .eql (.t 50) (.c (.string ⟨#[124,124]⟩))),mv 51 52] [0,1,4,6,50,51]) (.cond (.t 51) (.skip) (.seq (rn [jj 53 (.bin .eql (.t 50) (.c (.string ⟨#[38,38]⟩))),mv 51 53] [0,1,4,6,50,51]) (.cond (.t 51) (.skip) (.seq (rn [jj 54 (.bin .eql (.t 50) (.c (.string ⟨#[60,61]⟩))),mv 51 54] [0,1,4,6,50,51]) (.cond (.t 51) (.skip) (.seq (rn [jj 55 (.bin .eql (.t 50) (.c (.string ⟨#[62,61]⟩))),mv 51 55] [0,1,4,6,50,51]) (.cond (.t 51) (.skip) (.seq (rn [jj 56 (.bin .eql (.t 50) (.c (.string ⟨#[61,61]⟩))),mv 51 56] [0,1,4,6,50,51]) (.cond (.t 51) (.skip) (rn [jj 57 (.bin .eql (.t 50) (.c (.string ⟨#[33,61]⟩))),mv 51 57] [0,1,4,6,51]))))))))))) (.cond (.t 51) (.seq (rn [mv 58 6,mv 59 1,jj 60 (.build [zN,eN,zN,zN,zN] [(0,1,(kk 5)),(1,1,(.t 58)),(2,1,(.t 59))]),st 5 4 60] [4]) (.ret)) (.skip)))))) (.skip))) (.seq (.seq (rn [mv 61 0,nc 62 61,fa 63 0 62,l1 64 63,mv 65 1,jj 66 (.indexS (.t 64) (.t 65)),jj 67 (.call 268 [(.c (.string ⟨#[123,125,91,93,40,41,61,59,44,60,62,43,45,42,47,33]⟩)),(.t 66)]),bk 68 .geq 67 0] [0,1,4,68]) (.cond (.t 68) (.seq (rn [mv 69 0,nc 70 69,fa 71 0 70,l1 72 71,mv 73 1,mv 74 1,bk 75 .add 74 1,jj 76 (.sliceS (.t 72) (some (.t 73)) (some (.t 75))),mv 77 1,jj 78 (.build [zN,eN,zN,zN,zN] [(0,1,(kk 5)),(1,1,(.t 76)),(2,1,(.t 77))]),st 5 4 78] [4]) (.ret)) (.skip))) (.seq (rn [mv 79 1,jj 80 (.build [zN,eN,zN,zN,zN] [(0,1,(kk 6)),(2,1,(.t 79)),(4,1,(kk 12))]),st 5 4 80] [4]) (.ret)))))),false,false,false⟩
@[simp] def F251l0x:PC:=(.seq (.seq (rn [mv 7 1,mv 8 0,nc 9 8,fa 10 0 9,l1 11 10,lz 12 11,bn 13 .lss 7 12] [0,1,5,13]) (.cond (.t 13) (.skip) (.exit 0))) (.seq (.block 1 (.seq (rn [mv 16 0,nc 17 16,fa 18 0 17,l1 19 18,mv 20 1,jj 21 (.indexS (.t 19) (.t 20)),mv 6 21] [0,1,5,6]) (.block 2 (.seq (rn [mv 24 6,jj 25 (.bin .eql (.t 24) (.c (.int .u8 10))),mv 23 25] [0,1,5,6,23]) (.cond (.t 23) (rn [mx 5 kF] [0,1,5]) (.seq (rn [mv 27 5,mv 28 27,jf 29 28 (.mov (.t 6)),jf 30 28 (.bin .eql (.t 29) (.c (.int .u8 32))),jj 31 (.pick (.t 28) kT (.t 30)),mv 32 31,jf 33 32 (.mov (.t 6)),jf 34 32 (.bin .eql (.t 33) (.c (.int .u8 9))),jj 35 (.pick (.t 32) kT (.t 34)),mv 26 35] [0,1,5,6,26]) (.cond (.t 26) (.skip) (.seq (rn [mv 37 6,jj 38 (.bin .eql (.t 37) (.c (.int .u8 35))),mv 36 38] [0,1,36]) (.cond (.t 36) (rn [mx 5 kT] [0,1,5]) (.seq (rn [mv 22 1,mv 4 22] [4]) (.ret))))))))))) (rn [mv 14 1,bk 15 .add 14 1,mv 1 15] [0,1,5])))
def F251l0:PC:=F251l0x
theorem qc3:run C q F251l0 fr σ = run C q F251l0x fr σ := rfl
def F251:PFun:=⟨2,[.tmp 4],.seq (rn [mx 4 (kk 0)] [0,1]) (.seq (.seq (rn [mx 5 kF] [0,1,5]) (.block 0 (.loop F251l0))) (.seq (rn [mv 39 1,mv 4 39] [4]) (.ret))),false,false,false⟩
def F252:PFun:=⟨1,[.cell 2 true 5],.seq (rn [jj 2 (.alloc [zN,eN,zN,zN,zN])] [0,2]) (.seq (.region (some [(26,[zN,eN,zN,zN,zN])]) [mv 4 0,nc 5 4,fa 6 2 5,l1 7 6,mv 8 0,nc 9 8,fa 10 3 9,l1 11 10,jj 12 (.indexAddr 5 (.t 7) (.t 11)),la 13 5 12,jj 3 (.fill 26),st 5 3 13] [0,2,3]) (.seq (.seq (rn [fa 14 0 3,l1 15 14,bk 16 .eql 15 6] [0,2,3,16]) (.cond (.t 16) (rn [mv 17 0,la 18 5 3,fa 19 4 3,l1 20 19,cl 21 255 [17,18,20]] [2,3]) (.skip))) (.seq (rn [la 22 5 3,st 5 2 22] [2]) (.ret)))),false,false,false⟩
def F253:PFun:=⟨2,[],.seq (.seq (rn [mv 4 0,mv 5 1,jj 6 (.bslice 1 [eN] [(0,1,(.t 5))]),cl 7 269 [4,6],jj 8 (.un .not (.t 7))] [0,8]) (.cond (.t 8) (rn [mv 9 0,mv 10 0,cl 11 252 [10],jj 12 (.call 255 [(.t 9),(.t 11),(kk 12)])] [0]) (.skip))) (rn [mv 13 0,nc 14 13,fa 15 3 14,l1 16 15,bk 17 .add 16 1,nc 18 13,fa 19 3 18,st 1 19 17] []),false,false,false⟩
def F254:PFun:=⟨1,[.tmp 2],.seq (rn [mx 2 (kk 0)] [0]) (.seq (rn [mv 4 0,cl 5 252 [4],jj 3 (.alloc [zN,eN,zN,zN,zN]),st 5 3 5] [0,3]) (.seq (.seq (rn [fa 6 1 3,l1 7 6] [0,3,7]) (.block 0 (.seq (rn [jj 9 (.bin .eql (.t 7) (.c (.string ⟨#[97,99,116]⟩))),mv 8 9] [0,3,7,8]) (.cond (.t 8) (.seq (rn [mx 2 (kk 0)] [2]) (.ret)) (.seq (rn [jj 11 (.bin .eql (.t 7) (.c (.string ⟨#[116,105,99,107]⟩))),mv 10 11] [0,3,7,10]) (.cond (.t 10) (.seq (rn [mx 2 (kk 1)] [2]) (.ret)) (.seq (rn [jj 13 (.bin .eql (.t 7) (.c (.string ⟨#[104,105,116]⟩))),mv 12 13] [0,3,12]) (.cond (.t 12) (.seq (rn [mx 2 (kk 2)] [2]) (.ret)) (.skip))))))))) (.seq (rn [mv 14 0,la 15 5 3,jj 16 (.call 255 [(.t 14),(.t 15),(kk 12)])] []) (.seq (rn [mx 2 (kk (-1))] [2]) (.ret))))),false,false,false⟩
def F255:PFun:=⟨3,[],.seq (rn [bx 4 1] [0,2,4]) (.seq (rn [mv 6 0,mv 7 0,fa 8 2 4,l1 9 8,mv 10 2,nc 11 6,fa 12 4 11,st 1 12 9,nc 13 7,fa 14 5 13,st 1 14 10] [2]) (rn [mv 15 2,jj 16 (.mkif 1 (.t 15)),jn (.panic (.t 16))] [])),false,false,false⟩
@[simp] def F256l0x:PC:=(.seq (.seq (rn [mv 10 0,jj 11 (.bslice 1 [eN] [(0,1,(.c (.string ⟨#[125]⟩)))]),cl 12 269 [10,11],jj 13 (.un .not (.t 12))] [0,1,4,5,13]) (.cond (.t 13) (.skip) (.exit 0))) (.block 1 (.region (some []) [fa 14 3 5,⟨some 15,.load false 1 (.t 14),none,[4]⟩,mv 16 0,mv 17 1,cl 18 271 [16,17],jj 19 (.bslice 1 [zN,zN,eN,sN] [(0,4,(.t 18))]),jj 20 (.append 4 56 (.t 15) (.t 19)),fa 21 3 5,st 1 21 20] [0,1,4,5] [4])))
def F256l0:PC:=F256l0x
theorem qdC:run C q F256l0 fr σ = run C q F256l0x fr σ := rfl
def F256:PFun:=⟨2,[.cell 4 true 4],.seq (rn [jj 4 (.alloc [zN,zN,eN,sN])] [0,1,4]) (.seq (rn [mv 6 0,mv 7 1,jj 8 (.call 270 [(.t 6),(.c (.string ⟨#[123]⟩)),(.t 7)])] [0,1,4]) (.seq (rn [jj 9 (.build [zN,zN,eN,sN] [(0,1,(kk 7))]),jj 5 (.alloc [zN,zN,eN,sN]),st 4 5 9] [0,1,4,5]) (.seq (.block 0 (.loop F256l0)) (.seq (rn [mv 22 0,jj 23 (.call 253 [(.t 22),(.c (.string ⟨#[125]⟩))])] [4,5]) (.seq (rn [la 24 4 5,st 4 4 24] [4]) (.ret)))))),false,false,false⟩
def F257:PFun:=⟨1,[.tmp 2],.seq (rn [mx 2 kF] [0]) (.seq (rn [mv 3 0,cl 4 264 [3],mv 5 4,jf 6 5 (.mov (.t 0)),jf 7 5 (.call 266 [(.t 6)]),jj 8 (.pick (.t 5) kT (.t 7)),mv 2 8] [2]) (.ret)),false,false,false⟩
def F260:PFun:=⟨2,[],.seq (rn [bx 3 1] [0,3]) (.seq (rn [fa 5 0 3,l1 6 5] [0,3,6]) (.block 0 (.seq (rn [bk 8 .eql 6 1,mv 7 8] [0,3,6,7]) (.cond (.t 7) (.seq (rn [mv 9 0,fa 10 2 3,l1 11 10,jj 12 (.bslice 2 [eN,eN] [(0,1,(.t 11)),(1,1,(.c (.string ⟨#[61]⟩)))]),cl 13 243 [9,12]] [0,3]) (.seq (rn [mv 14 0,la 15 4 3,jj 16 (.call 274 [(.t 15),(kk 0)]),jj 17 (.call 273 [(.t 14),(.t 16),(kk 1)])] [0]) (rn [mv 18 0,jj 19 (.bslice 1 [eN] [(0,1,(.c (.string ⟨#[59]⟩)))]),cl 20 243 [18,19]] []))) (.seq (rn [bk 22 .eql 6 2,mv 21 22] [0,3,6,21]) (.cond (.t 21) (.seq (rn [mv 23 0,fa 24 2 3,l1 25 24,jj 26 (.bslice 2 [eN,eN] [(0,1,(.t 25)),(1,1,(.c (.string ⟨#[91]⟩)))]),cl 27 243 [23,26]] [0,3]) (.seq (rn [mv 28 0,la 29 4 3,jj 30 (.call 274 [(.t 29),(kk 0)]),jj 31 (.call 273 [(.t 28),(.t 30),(kk 1)])] [0,3]) (.seq (rn [mv 32 0,jj 33 (.bslice 2 [eN,eN] [(0,1,(.c (.string ⟨#[93]⟩))),(1,1,(.c (.string ⟨#[61]⟩)))]),cl 34 243 [32,33]] [0,3]) (.seq (rn [mv 35 0,la 36 4 3,jj 37 (.call 274 [(.t 36),(kk 1)]),jj 38 (.call 273 [(.t 35),(.t 37),(kk 1)])] [0]) (rn [mv 39 0,jj 40 (.bslice 1 [eN] [(0,1,(.c (.string ⟨#[59]⟩)))]),cl 41 243 [39,40]] []))))) (.seq (rn [bk 43 .eql 6 3,mv 42 43] [0,3,6,42]) (.cond (.t 42) (.seq (rn [mv 44 0,jj 45 (.bslice 1 [eN] [(0,1,(.c (.string ⟨#[105,102]⟩)))]),cl 46 243 [44,45]] [0,3]) (.seq (rn [mv 47 0,la 48 4 3,jj 49 (.call 274 [(.t 48),(kk 0)]),jj 50 (.call 273 [(.t 47),(.t 49),(kk 1)])] [0,3]) (.seq (rn [mv 51 0,la 52 4 3,jj 53 (.call 274 [(.t 52),(kk 1)]),cl 54 244 [51,53]] [0,3]) (.seq (rn [la 55 4 3,jj 56 (.call 274 [(.t 55),(kk 2)]),jj 4 (.alloc [zN,zN,eN,sN]),st 4 4 56] [0,4]) (.seq (rn [fa 57 3 4,l1 58 57,ls 59 58,bk 60 .gtr 59 0] [0,4,60]) (.cond (.t 60) (.seq (rn [mv 61 0,jj 62 (.bslice 1 [eN] [(0,1,(.c (.string ⟨#[101,108,115,101]⟩)))]),cl 63 243 [61,62]] [0,4]) (rn [mv 64 0,la 65 4 4,cl 66 244 [64,65]] [])) (.skip))))))) (.seq (rn [bk 68 .eql 6 4,mv 67 68] [0,3,6,67]) (.cond (.t 67) (.seq (rn [mv 69 0,jj 70 (.bslice 1 [eN] [(0,1,(.c (.string ⟨#[119,104,105,108,101]⟩)))]),cl 71 243 [69,70]] [0,3]) (.seq (rn [mv 72 0,la 73 4 3,jj 74 (.call 274 [(.t 73),(kk 0)]),jj 75 (.call 273 [(.t 72),(.t 74),(kk 1)])] [0,3]) (rn [mv 76 0,la 77 4 3,jj 78 (.call 274 [(.t 77),(kk 1)]),cl 79 244 [76,78]] []))) (.seq (rn [bk 81 .eql 6 5,mv 80 81] [0,3,6,80]) (.cond (.t 80) (.seq (rn [mv 82 0,jj 83 (.bslice 1 [eN] [(0,1,(.c (.string ⟨#[101,102,102,101,99,116]⟩)))]),cl 84 243 [82,83]] [0,3]) (.seq (rn [mv 85 0,la 86 4 3,jj 87 (.call 274 [(.t 86),(kk 0)]),jj 88 (.call 273 [(.t 85),(.t 87),(kk 1)])] [0,3]) (.seq (rn [mv 89 0,jj 90 (.bslice 1 [eN] [(0,1,(.c (.string ⟨#[44]⟩)))]),cl 91 243 [89,90]] [0,3]) (.seq (rn [mv 92 0,la 93 4 3,jj 94 (.call 274 [(.t 93),(kk 1)]),jj 95 (.call 273 [(.t 92),(.t 94),(kk 1)])] [0]) (rn [mv 96 0,jj 97 (.bslice 1 [eN] [(0,1,(.c (.string ⟨#[59]⟩)))]),cl 98 243 [96,97]] []))))) (.seq (rn [bk 100 .eql 6 6,mv 99 100] [0,99]) (.cond (.t 99) (rn [mv 101 0,jj 102 (.bslice 2 [eN,eN] [(0,1,(.c (.string ⟨#[115,116,111,112]⟩))),(1,1,(.c (.string ⟨#[59]⟩)))]),cl 103 243 [101,102]] []) (.skip))))))))))))))),false,false,false⟩
def F264:PFun:=⟨1,[.tmp 2],.seq (rn [mx 2 kF] [0]) (.seq (rn [mv 3 0,jj 4 (.bin .leq (.c (.int .u8 97)) (.t 3)),mv 5 4,jt 6 5 (.mov (.t 0)),jt 7 5 (.bin .leq (.t 6) (.c (.int .u8 122))),jj 8 (.pick (.t 5) (.t 7) kF),mv 2 8] [2]) (.ret)),false,false,false⟩
@[simp] def F265l0x:PC:=(.seq (.seq (rn [mv 10 5,mv 11 0,nc 12 11,fa 13 0 12,l1 14 13,lz 15 14,bn 16 .lss 10 15,mv 17 16,jt 18 17 (.mov (.t 0)),jt 19 17 (.nilchk (.t 18)),jt 20 17 (.fieldAddr 0 (.t 19)),jt 21 17 (.load false 1 (.t 20)),jt 22 17 (.mov (.t 5)),jt 23 17 (.indexS (.t 21) (.t 22)),jt 24 17 (.call 264 [(.t 23)]),jt 25 17 (.mov (.t 24)),jf 26 25 (.mov (.t 0)),jf 27 25 (.nilchk (.t 26)),jf 28 25 (.fieldAddr 0 (.t 27)),jf 29 25 (.load false 1 (.t 28)),jf 30 25 (.mov (.t 5)),jf 31 25 (.indexS (.t 29) (.t 30)),jf 32 25 (.call 266 [(.t 31)]),jt 33 17 (.pick (.t 25) kT (.t 32)),jj 34 (.pick (.t 17) (.t 33) kF)] [0,1,4,5,34]) (.cond (.t 34) (.skip) (.exit 0))) (.block 1 (rn [mv 35 5,bk 36 .add 35 1,mv 5 36] [0,1,4,5])))
def F265l0:PC:=F265l0x
theorem qey:run C q F265l0 fr σ = run C q F265l0x fr σ := rfl
def F265:PFun:=⟨2,[.cell 4 true 5],.seq (rn [jj 4 (.alloc [zN,eN,zN,zN,zN])] [0,1,4]) (.seq (rn [mv 9 1,mv 5 9] [0,1,4,5]) (.seq (.block 0 (.loop F265l0)) (.seq (rn [mv 37 0,nc 38 37,fa 39 0 38,l1 40 39,mv 41 1,mv 42 5,jj 43 (.sliceS (.t 40) (some (.t 41)) (some (.t 42))),mv 44 1,jj 45 (.build [zN,eN,zN,zN,zN] [(0,1,(kk 1)),(1,1,(.t 43)),(2,1,(.t 44))]),jj 6 (.alloc [zN,eN,zN,zN,zN]),st 5 6 45] [0,4,6]) (.seq (.seq (.region (some []) [mv 47 0,nc 48 47,fa 49 1 48,l1 50 49,fa 51 1 6,l1 52 51,jj 53 (.lookup .s zN (.t 50) (.t 52) true),mv 46 53,ex 54 46 0,ex 55 46 1,mv 7 54,mv 8 55] [4,6,7,8]) (.seq (rn [mv 56 8] [4,6,7,56]) (.cond (.t 56) (rn [mv 57 7,fa 58 0 6,st 1 58 57] [4,6]) (.seq (rn [fa 59 1 6,l1 60 59,lz 61 60,bk 62 .gtr 61 8] [4,6,62]) (.cond (.t 62) (rn [fa 63 0 6,jn (.store 1 (.t 63) (kk 6)),fa 64 4 6,jn (.store 1 (.t 64) (kk 2))] [4,6]) (.skip)))))) (.seq (rn [la 65 5 6,st 5 4 65] [4]) (.ret)))))),false,false,false⟩
def F266:PFun:=⟨1,[.tmp 2],.seq (rn [mx 2 kF] [0]) (.seq (rn [mv 3 0,jj 4 (.bin .leq (.c (.int .u8 48)) (.t 3)),mv 5 4,jt 6 5 (.mov (.t 0)),jt 7 5 (.bin .leq (.t 6) (.c (.int .u8 57))),jj 8 (.pick (.t 5) (.t 7) kF),mv 2 8] [2]) (.ret)),false,false,false⟩
@[simp] def F267l0x:PC:=(.seq (.seq (rn [mv 9 5,mv 10 0,nc 11 10,fa 12 0 11,l1 13 12,lz 14 13,bn 15 .lss 9 14,mv 16 15,jt 17 16 (.mov (.t 0)),jt 18 16 (.nilchk (.t 17)),jt 19 16 (.fieldAddr 0 (.t 18)),jt 20 16 (.load false 1 (.t 19)),jt 21 16 (.mov (.t 5)),jt 22 16 (.indexS (.t 20) (.t 21)),jt 23 16 (.call 266 [(.t 22)]),jj 24 (.pick (.t 16) (.t 23) kF)] [0,1,4,5,6,24]) (.cond (.t 24) (.skip) (.exit 0))) (.block 1 (.seq (rn [mv 25 6,jj 26 (.bin .mul (kk 10) (.t 25)),mv 27 0,nc 28 27,fa 29 0 28,l1 30 29,mv 31 5,jj 32 (.indexS (.t 30) (.t 31)),jj 33 (.bin .sub (.t 32) (.c (.int .u8 48))),jj 34 (.conv (.int .i64) (.t 33)),bn 35 .add 26 34,jj 36 (.min [(.t 35),(kk 2147483648)]),mv 6 36] [0,1,4,5,6]) (rn [mv 37 5,bk 38 .add 37 1,mv 5 38] [0,1,4,5,6]))))
def F267l0:PC:=F267l0x
theorem qfG:run C q F267l0 fr σ = run C q F267l0x fr σ := rfl
def F267:PFun:=⟨2,[.cell 4 true 5],.seq (rn [jj 4 (.alloc [zN,eN,zN,zN,zN])] [0,1,4]) (.seq (rn [mv 8 1,mv 5 8,mx 6 (kk 0)] [0,1,4,5,6]) (.seq (.block 0 (.loop F267l0)) (.seq (rn [mv 39 0,nc 40 39,fa 41 0 40,l1 42 41,mv 43 1,mv 44 5,jj 45 (.sliceS (.t 42) (some (.t 43)) (some (.t 44))),mv 46 1,mv 47 6,jj 48 (.build [zN,eN,zN,zN,zN] [(0,1,(kk 4)),(1,1,(.t 45)),(2,1,(.t 46)),(3,1,(.t 47))]),jj 7 (.alloc [zN,eN,zN,zN,zN]),st 5 7 48] [4,6,7]) (.seq (.seq (rn [mv 49 6,bk 50 .gtr 49 2147483647] [4,7,50]) (.cond (.t 50) (rn [fa 51 0 7,jn (.store 1 (.t 51) (kk 6)),fa 52 4 7,jn (.store 1 (.t 52) (kk 6))] [4,7]) (.skip))) (.seq (rn [la 53 5 7,st 5 4 53] [4]) (.ret)))))),false,false,false⟩
def F269:PFun:=⟨2,[.tmp 4],.seq (rn [mx 4 kF] [0,1]) (.seq (rn [mv 6 0,cl 7 252 [6],jj 5 (.alloc [zN,eN,zN,zN,zN]),st 5 5 7] [1,5]) (.seq (rn [fa 8 0 5,l1 9 8,bk 10 .neq 9 0,mv 11 10,jt 12 11 (.mov (.t 1)),jt 13 11 (.fieldAddr 1 (.t 5)),jt 14 11 (.load false 1 (.t 13)),jt 15 11 (.call 276 [(.t 12),(.t 14)]),jj 16 (.pick (.t 11) (.t 15) kF),mv 4 16] [4]) (.ret))),false,false,false⟩
def F270:PFun:=⟨3,[],.seq (.seq (rn [mv 6 0,mv 7 1,jj 8 (.bslice 1 [eN] [(0,1,(.t 7))]),cl 9 269 [6,8],mv 10 9,jt 11 10 (.mov (.t 2)),jt 12 10 (.bin .gtr (.t 11) (kk 20)),jj 13 (.pick (.t 10) (.t 12) kF)] [0,1,13]) (.cond (.t 13) (rn [mv 14 0,mv 15 0,cl 16 252 [15],jj 17 (.call 255 [(.t 14),(.t 16),(kk 2)])] [0,1]) (.skip))) (rn [mv 18 0,mv 19 1,cl 20 253 [18,19]] []),false,false,false⟩
def F271:PFun:=⟨2,[.cell 4 true 4],.seq (rn [jj 4 (.alloc [zN,zN,eN,sN])] [0,1,4]) (.seq (rn [mv 9 0,cl 10 252 [9],jj 5 (.alloc [zN,eN,zN,zN,zN]),st 5 5 10] [0,1,4,5]) (.seq (.block 0 (.seq (rn [fa 12 0 5,l1 13 12,bk 14 .eql 13 1,mv 11 14] [0,1,4,5,11]) (.cond (.t 11) (.seq (rn [mv 15 0,cl 16 277 [15]] [0,1,4,5]) (.seq (rn [mv 17 0,jj 18 (.call 253 [(.t 17),(.c (.string ⟨#[61]⟩))])] [0,1,4,5]) (.seq (.region (some []) [mv 19 0,fa 20 1 5,⟨some 21,.load false 1 (.t 20),none,[5]⟩,mv 22 0,mv 23 1,cl 24 279 [22,23],jj 25 (.bslice 1 [zN,zN,eN,sN] [(0,4,(.t 24))]),jj 26 (.build [zN,zN,eN,sN] [(0,1,(kk 1)),(2,1,(.t 21)),(3,1,(.t 25))]),cl 27 278 [19,26],st 4 4 27] [4] [5,8]) (.ret)))) (.seq (rn [fa 29 0 5,l1 30 29,bk 31 .eql 30 3,mv 28 31] [0,1,4,5,28]) (.cond (.t 28) (.seq (rn [mv 32 0,mv 33 1,cl 34 280 [32,33],jj 6 (.alloc [zN,zN,eN,sN]),st 4 6 34] [0,1,4,5,6]) (.seq (rn [mv 35 0,jj 36 (.call 253 [(.t 35),(.c (.string ⟨#[61]⟩))])] [0,1,4,5,6]) (.seq (.region (some []) [mv 37 0,fa 38 1 5,⟨some 39,.load false 1 (.t 38),none,[6]⟩,⟨some 40,.load true 4 (.t 6),none,[6]⟩,mv 41 0,mv 42 1,cl 43 279 [41,42],jj 44 (.bslice 2 [zN,zN,eN,sN,zN,zN,eN,sN] [(0,4,(.t 40)),(4,4,(.t 43))]),jj 45 (.build [zN,zN,eN,sN] [(0,1,(kk 2)),(2,1,(.t 39)),(3,1,(.t 44))]),cl 46 278 [37,45],st 4 4 46] [4] [6,9]) (.ret)))) (.seq (rn [mv 48 0,jj 49 (.bslice 1 [eN] [(0,1,(.c (.string ⟨#[105,102]⟩)))]),cl 50 269 [48,49],mv 47 50] [0,1,4,5,47]) (.cond (.t 47) (.seq (rn [mv 51 0,mv 52 1,cl 53 281 [51,52],st 4 4 53] [4]) (.ret)) (.seq (rn [mv 55 0,jj 56 (.bslice 1 [eN] [(0,1,(.c (.string ⟨#[119,104,105,108,101]⟩)))]),cl 57 269 [55,56],mv 54 57] [0,1,4,5,54]) (.cond (.t 54) (.seq (rn [mv 58 0,cl 59 277 [58]] [0,1,4]) (.seq (rn [mv 60 0,mv 61 1,cl 62 279 [60,61],jj 7 (.alloc [zN,zN,eN,sN]),st 4 7 62] [0,1,4,7]) (.seq (.region (some []) [⟨some 63,.load true 4 (.t 7),none,[4]⟩,mv 64 0,mv 65 1,bk 66 .add 65 1,cl 67 256 [64,66],jj 68 (.bslice 2 [zN,zN,eN,sN,zN,zN,eN,sN] [(0,4,(.t 63)),(4,4,(.t 67))]),jj 69 (.build [zN,zN,eN,sN] [(0,1,(kk 4)),(3,1,(.t 68))]),st 4 4 69] [4] [4]) (.ret)))) (.seq (rn [mv 71 0,jj 72 (.bslice 1 [eN] [(0,1,(.c (.string ⟨#[101,102,102,101,99,116]⟩)))]),cl 73 269 [71,72],mv 70 73] [0,1,4,5,70]) (.cond (.t 70) (.seq (rn [mv 74 0,cl 75 277 [74]] [0,1,4]) (.seq (rn [mv 76 0,mv 77 1,cl 78 279 [76,77],jj 8 (.alloc [zN,zN,eN,sN]),st 4 8 78] [0,1,4,8]) (.seq (rn [mv 79 0,jj 80 (.call 253 [(.t 79),(.c (.string ⟨#[44]⟩))])] [0,1,4,8]) (.seq (.region (some []) [mv 81 0,⟨some 82,.load true 4 (.t 8),none,[4]⟩,mv 83 0,mv 84 1,cl 85 279 [83,84],jj 86 (.bslice 2 [zN,zN,eN,sN,zN,zN,eN,sN] [(0,4,(.t 82)),(4,4,(.t 85))]),jj 87 (.build [zN,zN,eN,sN] [(0,1,(kk 5)),(3,1,(.t 86))]),cl 88 278 [81,87],st 4 4 88] [4] [4,7]) (.ret))))) (.seq (rn [mv 90 0,jj 91 (.bslice 1 [eN] [(0,1,(.c (.string ⟨#[115,116,111,112]⟩)))]),cl 92 269 [90,91],mv 89 92] [0,4,5,89]) (.cond (.t 89) (.seq (rn [mv 93 0,cl 94 277 [93]] [0,4]) (.seq (rn [mv 95 0,jj 96 (.build [zN,zN,eN,sN] [(0,1,(kk 6))]),cl 97 278 [95,96],st 4 4 97] [4]) (.ret))) (.skip)))))))))))))) (.seq (rn [mv 98 0,la 99 5 5,jj 100 (.call 255 [(.t 98),(.t 99),(kk 12)])] [4]) (.seq (rn [jj 101 (.build [zN,zN,eN,sN] []),st 4 4 101] [4]) (.ret))))),false,false,false⟩
def F273:PFun:=⟨3,[],.seq (rn [bx 4 1] [1000000,0,2,4]) (.seq (rn [la 8 4 4,cl 9 282 [8],mv 6 9] [1000000,0,2,4,6]) (.seq (.seq (rn [mv 10 6,mv 11 2,bn 12 .lss 10 11] [1000000,0,4,6,12]) (.cond (.t 12) (.seq (rn [mv 13 0,jj 14 (.bslice 1 [eN] [(0,1,(.c (.string ⟨#[40]⟩)))]),cl 15 243 [13,14]] [1000000,0,4,6]) (rn [mv 16 0,jj 17 (.bslice 1 [eN] [(0,1,(.c (.string ⟨#[41]⟩)))]),jj 1000000 (.defer (.f 243) [(.t 16),(.t 17)])] [1000000,0,4,6])) (.skip))) (.seq (rn [fa 18 0 4,l1 19 18] [1000000,0,4,6,19]) (.block 0 (.seq (rn [bk 21 .eql 19 8,mv 20 21] [1000000,0,4,6,19,20]) (.cond (.t 20) (rn [mv 22 0,fa 23 1 4,l1 24 23,cl 25 283 [24],jj 26 (.bslice 1 [eN] [(0,1,(.t 25))]),cl 27 243 [22,26]] [1000000]) (.seq (rn [bk 29 .eql 19 9,mv 28 29] [1000000,0,4,6,19,28]) (.cond (.t 28) (.seq (rn [fa 30 1 4,l1 31 30,bk 32 .eql 31 0] [1000000,0,32]) (.cond (.t 32) (rn [mv 33 0,jj 34 (.bslice 1 [eN] [(0,1,(.c (.string ⟨#[102,97,108,115,101]⟩)))]),cl 35 243 [33,34]] [1000000]) (rn [mv 36 0,jj 37 (.bslice 1 [eN] [(0,1,(.c (.string ⟨#[116,114,117,101]⟩)))]),cl 38 243 [36,37]] [1000000]))) (.seq (.seq (rn [bk 40 .eql 19 10,mv 39 40] [1000000,0,4,6,19,39]) (.cond (.t 39) (.skip) (rn [bk 41 .eql 19 12,mv 39 41] [1000000,0,4,6,19,39]))) (.cond (.t 39) (rn [mv 42 0,fa 43 2 4,l1 44 43,jj 45 (.bslice 1 [eN] [(0,1,(.t 44))]),cl 46 243 [42,45]] [1000000]) (.seq (rn [bk 48 .eql 19 11,mv 47 48] [1000000,0,4,6,19,47]) (.cond (.t 47) (.seq (rn [mv 49 0,fa 50 2 4,l1 51 50,jj 52 (.bslice 2 [eN,eN] [(0,1,(.t 51)),(1,1,(.c (.string ⟨#[91]⟩)))]),cl 53 243 [49,52]] [1000000,0,4]) (.seq (rn [mv 54 0,la 55 4 4,jj 56 (.call 274 [(.t 55),(kk 0)]),jj 57 (.call 273 [(.t 54),(.t 56),(kk 1)])] [1000000,0]) (rn [mv 58 0,jj 59 (.bslice 1 [eN] [(0,1,(.c (.string ⟨#[93]⟩)))]),cl 60 243 [58,59]] [1000000]))) (.seq (rn [bk 62 .eql 19 13,mv 61 62] [1000000,0,4,6,19,61]) (.cond (.t 61) (.seq (rn [mv 63 0,fa 64 2 4,l1 65 64,jj 66 (.bslice 1 [eN] [(0,1,(.t 65))]),cl 67 243 [63,66]] [1000000,0,4,6]) (rn [mv 68 0,la 69 4 4,jj 70 (.call 274 [(.t 69),(kk 0)]),mv 71 6,cl 72 273 [68,70,71]] [1000000])) (.seq (rn [bk 74 .eql 19 14,mv 73 74] [1000000,0,4,6,73]) (.cond (.t 73) (.seq (rn [mv 75 6,mv 7 75] [1000000,0,4,6,7]) (.seq (.seq (rn [mv 76 6,bk 77 .eql 76 4] [1000000,0,4,6,7,77]) (.cond (.t 77) (rn [mx 7 (kk 5)] [1000000,0,4,6,7]) (.skip))) (.seq (rn [mv 78 0,la 79 4 4,jj 80 (.call 274 [(.t 79),(kk 0)]),mv 81 7,cl 82 273 [78,80,81]] [1000000,0,4,6]) (.seq (rn [mv 83 0,fa 84 2 4,l1 85 84,jj 86 (.bslice 1 [eN] [(0,1,(.t 85))]),cl 87 243 [83,86]] [1000000,0,4,6]) (rn [mv 88 0,la 89 4 4,jj 90 (.call 274 [(.t 89),(kk 1)]),mv 91 6,bk 92 .add 91 1,cl 93 273 [88,90,92]] [1000000]))))) (.skip))))))))))))))))),false,true,false⟩
def F274:PFun:=⟨2,[.cell 4 true 4],.seq (rn [bx 2 0,jj 4 (.alloc [zN,zN,eN,sN])] [1,2,4]) (.seq (.seq (rn [mv 5 1,fa 6 3 2,l1 7 6,ls 8 7,bn 9 .lss 5 8] [1,2,4,9]) (.cond (.t 9) (.seq (rn [fa 10 3 2,l1 11 10,mv 12 1,jj 13 (.indexAddr 4 (.t 11) (.t 12)),la 14 4 13,st 4 4 14] [4]) (.ret)) (.skip))) (.seq (rn [jj 15 (.build [zN,zN,eN,sN] []),st 4 4 15] [4]) (.ret))),false,false,false⟩
def F277:PFun:=⟨1,[.cell 2 true 5],.seq (rn [jj 2 (.alloc [zN,eN,zN,zN,zN])] [0,2]) (.seq (rn [mv 4 0,cl 5 252 [4],jj 3 (.alloc [zN,eN,zN,zN,zN]),st 5 3 5] [0,2,3]) (.seq (rn [mv 6 0,nc 7 6,fa 8 3 7,l1 9 8,bk 10 .add 9 1,nc 11 6,fa 12 3 11,st 1 12 10] [2,3]) (.seq (rn [la 13 5 3,st 5 2 13] [2]) (.ret)))),false,false,false⟩
def F278:PFun:=⟨2,[.cell 4 true 4],.seq (rn [bx 3 1,jj 4 (.alloc [zN,zN,eN,sN])] [0,3,4]) (.seq (rn [mv 5 0,jj 6 (.call 253 [(.t 5),(.c (.string ⟨#[59]⟩))])] [3,4]) (.seq (rn [la 7 4 3,st 4 4 7] [4]) (.ret))),false,false,false⟩
def F279:PFun:=⟨2,[.cell 4 true 4],.seq (rn [bx 2 0,bx 3 1,jj 4 (.alloc [zN,zN,eN,sN])] [2,3,4]) (.seq (rn [l1 5 2,jj 6 (.mkfn 286 [] [(.t 2),(.t 3)]),jj 7 (.bslice 1 [eN] [(0,1,(.c (.string ⟨#[124,124]⟩)))]),cl 8 285 [5,6,7],st 4 4 8] [4]) (.ret)),false,false,false⟩
def F280:PFun:=⟨2,[.cell 4 true 4],.seq (rn [jj 4 (.alloc [zN,zN,eN,sN])] [0,1,4]) (.seq (rn [mv 6 0,cl 7 277 [6]] [0,1,4]) (.seq (rn [mv 8 0,mv 9 1,bk 10 .add 9 1,jj 11 (.call 270 [(.t 8),(.c (.string ⟨#[91]⟩)),(.t 10)])] [0,1,4]) (.seq (rn [mv 12 0,mv 13 1,bk 14 .add 13 1,cl 15 279 [12,14],jj 5 (.alloc [zN,zN,eN,sN]),st 4 5 15] [0,4,5]) (.seq (rn [mv 16 0,jj 17 (.call 253 [(.t 16),(.c (.string ⟨#[93]⟩))])] [4,5]) (.seq (rn [la 18 4 5,st 4 4 18] [4]) (.ret)))))),false,false,false⟩
def F281:PFun:=⟨2,[.cell 4 true 4],.seq (rn [jj 4 (.alloc [zN,zN,eN,sN])] [0,1,4]) (.seq (rn [mv 8 0,jj 9 (.call 253 [(.t 8),(.c (.string ⟨#[105,102]⟩))])] [0,1,4]) (.seq (rn [mv 10 0,mv 11 1,cl 12 279 [10,11],jj 5 (.alloc [zN,zN,eN,sN]),st 4 5 12] [0,1,4,5]) (.seq (rn [mv 13 0,mv 14 1,bk 15 .add 14 1,cl 16 256 [13,15],jj 17 (.build [zN,zN,eN,sN] [(0,1,(kk 7))]),jj 6 (.alloc [zN,zN,eN,sN]),jj 7 (.alloc [zN,zN,eN,sN]),st 4 6 16,st 4 7 17] [0,1,4,5,6,7]) (.seq (.seq (rn [mv 18 0,jj 19 (.bslice 1 [eN] [(0,1,(.c (.string ⟨#[101,108,115,101]⟩)))]),cl 20 269 [18,19]] [0,1,4,5,6,7,20]) (.cond (.t 20) (.seq (rn [mv 21 0,cl 22 277 [21]] [0,1,4,5,6,7]) (rn [mv 23 0,mv 24 1,bk 25 .add 24 1,cl 26 256 [23,25],st 4 7 26] [4,5,6,7])) (.skip))) (.seq (rn [la 27 4 5,la 28 4 6,la 29 4 7,jj 30 (.bslice 3 [zN,zN,eN,sN,zN,zN,eN,sN,zN,zN,eN,sN] [(0,4,(.t 27)),(4,4,(.t 28)),(8,4,(.t 29))]),jj 31 (.build [zN,zN,eN,sN] [(0,1,(kk 3)),(3,1,(.t 30))]),st 4 4 31] [4]) (.ret)))))),false,false,false⟩
def F282:PFun:=⟨1,[.tmp 2],.seq (rn [bx 1 0,mx 2 (kk 0)] [1]) (.seq (.block 0 (.seq (rn [fa 4 0 1,l1 5 4,bk 6 .eql 5 13,mv 7 6,jt 8 7 (.fieldAddr 2 (.t 1)),jt 9 7 (.load false 1 (.t 8)),jt 10 7 (.bin .eql (.t 9) (.c (.string ⟨#[33]⟩))),jj 11 (.pick (.t 7) (.t 10) kF),mv 3 11] [1,3]) (.cond (.t 3) (.seq (rn [mx 2 (kk 3)] [2]) (.ret)) (.seq (rn [fa 13 0 1,l1 14 13,bk 15 .eql 14 13,mv 12 15] [1,12]) (.cond (.t 12) (.seq (rn [mx 2 (kk 7)] [2]) (.ret)) (.seq (rn [fa 17 0 1,l1 18 17,bk 19 .neq 18 14,mv 16 19] [1,16]) (.cond (.t 16) (.seq (rn [mx 2 (kk 8)] [2]) (.ret)) (.skip)))))))) (.seq (.seq (rn [fa 20 2 1,l1 21 20] [21]) (.block 1 (.seq (rn [jj 23 (.bin .eql (.t 21) (.c (.string ⟨#[124,124]⟩))),mv 22 23] [21,22]) (.cond (.t 22) (.seq (rn [mx 2 (kk 1)] [2]) (.ret)) (.seq (rn [jj 25 (.bin .eql (.t 21) (.c (.string ⟨#[38,38]⟩))),mv 24 25] [21,24]) (.cond (.t 24) (.seq (rn [mx 2 (kk 2)] [2]) (.ret)) (.seq (.seq (rn [jj 27 (.bin .eql (.t 21) (.c (.string ⟨#[43]⟩))),mv 26 27] [21,26]) (.cond (.t 26) (.skip) (rn [jj 28 (.bin .eql (.t 21) (.c (.string ⟨#[45]⟩))),mv 26 28] [21,26]))) (.cond (.t 26) (.seq (rn [mx 2 (kk 5)] [2]) (.ret)) (.seq (.seq (rn [jj 30 (.bin .eql (.t 21) (.c (.string ⟨#[42]⟩))),mv 29 30] [21,29]) (.cond (.t 29) (.skip) (rn [jj 31 (.bin .eql (.t 21) (.c (.string ⟨#[47]⟩))),mv 29 31] [29]))) (.cond (.t 29) (.seq (rn [mx 2 (kk 6)] [2]) (.ret)) (.skip))))))))))) (.seq (rn [mx 2 (kk 4)] [2]) (.ret)))),false,false,false⟩
@[simp] def F285l0x:PC:=(.seq (.seq (rn [mv 11 0,mv 12 2,cl 13 269 [11,12]] [0,1,2,6,7,13]) (.cond (.t 13) (.skip) (.exit 0))) (.block 1 (.seq (rn [mv 14 0,cl 15 277 [14],jj 16 (.field false 1 1 (.t 15)),mv 8 16] [0,1,2,6,7,8]) (.region (some []) [mv 17 8,⟨some 18,.load true 4 (.t 7),none,[3]⟩,mv 19 1,jj 20 (.callv (.t 19) []),jj 21 (.bslice 2 [zN,zN,eN,sN,zN,zN,eN,sN] [(0,4,(.t 18)),(4,4,(.t 20))]),jj 22 (.build [zN,zN,eN,sN] [(0,1,(kk 14)),(2,1,(.t 17)),(3,1,(.t 21))]),st 4 7 22] [0,1,2,6,7] [3]))))
def F285l0:PC:=F285l0x
theorem qez:run C q F285l0 fr σ = run C q F285l0x fr σ := rfl
def F285:PFun:=⟨3,[.cell 6 true 4],.seq (rn [jj 6 (.alloc [zN,zN,eN,sN])] [0,1,2,6]) (.seq (rn [mv 9 1,jj 10 (.callv (.t 9) []),jj 7 (.alloc [zN,zN,eN,sN]),st 4 7 10] [0,1,2,6,7]) (.seq (.block 0 (.loop F285l0)) (.seq (rn [la 23 4 7,st 4 6 23] [6]) (.ret)))),false,false,false⟩
def F286:PFun:=⟨2,[.cell 2 true 4],.seq (rn [jj 2 (.alloc [zN,zN,eN,sN])] [0,1,2]) (.seq (rn [l1 3 0,l1 4 1,cl 5 287 [3,4],st 4 2 5] [2]) (.ret)),false,false,false⟩
def F287:PFun:=⟨2,[.cell 4 true 4],.seq (rn [bx 2 0,bx 3 1,jj 4 (.alloc [zN,zN,eN,sN])] [2,3,4]) (.seq (rn [l1 5 2,jj 6 (.mkfn 289 [] [(.t 2),(.t 3)]),jj 7 (.bslice 1 [eN] [(0,1,(.c (.string ⟨#[38,38]⟩)))]),cl 8 285 [5,6,7],st 4 4 8] [4]) (.ret)),false,false,false⟩
def F289:PFun:=⟨2,[.cell 2 true 4],.seq (rn [jj 2 (.alloc [zN,zN,eN,sN])] [0,1,2]) (.seq (rn [l1 3 0,l1 4 1,cl 5 290 [3,4],st 4 2 5] [2]) (.ret)),false,false,false⟩
def F290:PFun:=⟨2,[.cell 4 true 4],.seq (rn [jj 4 (.alloc [zN,zN,eN,sN])] [0,1,4]) (.seq (.seq (rn [mv 5 0,jj 6 (.bslice 1 [eN] [(0,1,(.c (.string ⟨#[33]⟩)))]),cl 7 269 [5,6]] [0,1,4,7]) (.cond (.t 7) (.seq (rn [mv 8 0,mv 9 1,bk 10 .add 9 1,jj 11 (.call 270 [(.t 8),(.c (.string ⟨#[33]⟩)),(.t 10)])] [0,1,4]) (.seq (rn [mv 12 0,mv 13 1,bk 14 .add 13 1,cl 15 290 [12,14],jj 16 (.bslice 1 [zN,zN,eN,sN] [(0,4,(.t 15))]),jj 17 (.build [zN,zN,eN,sN] [(0,1,(kk 13)),(2,1,(.c (.string ⟨#[33]⟩))),(3,1,(.t 16))]),st 4 4 17] [4]) (.ret))) (.skip))) (.seq (rn [mv 18 0,mv 19 1,cl 20 292 [18,19],st 4 4 20] [4]) (.ret))),false,false,false⟩
def F292:PFun:=⟨2,[.cell 4 true 4],.seq (rn [jj 4 (.alloc [zN,zN,eN,sN])] [0,1,4]) (.seq (rn [mv 7 0,mv 8 1,cl 9 297 [7,8],jj 5 (.alloc [zN,zN,eN,sN]),st 4 5 9] [0,1,4,5]) (.seq (.seq (rn [mv 10 0,jj 11 (.bslice 6 [eN,eN,eN,eN,eN,eN] [(0,1,(.c (.string ⟨#[60]⟩))),(1,1,(.c (.string ⟨#[60,61]⟩))),(2,1,(.c (.string ⟨#[62]⟩))),(3,1,(.c (.string ⟨#[62,61]⟩))),(4,1,(.c (.string ⟨#[61,61]⟩))),(5,1,(.c (.string ⟨#[33,61]⟩)))]),cl 12 269 [10,11],jj 13 (.un .not (.t 12))] [0,1,4,5,13]) (.cond (.t 13) (.seq (rn [la 14 4 5,st 4 4 14] [4]) (.ret)) (.skip))) (.seq (rn [mv 15 0,cl 16 277 [15],jj 17 (.field false 1 1 (.t 16)),mv 6 17] [0,1,4,5,6]) (.seq (.region (some []) [mv 18 6,⟨some 19,.load true 4 (.t 5),none,[4]⟩,mv 20 0,mv 21 1,cl 22 297 [20,21],jj 23 (.bslice 2 [zN,zN,eN,sN,zN,zN,eN,sN] [(0,4,(.t 19)),(4,4,(.t 22))]),jj 24 (.build [zN,zN,eN,sN] [(0,1,(kk 14)),(2,1,(.t 18)),(3,1,(.t 23))]),st 4 4 24] [4] [4]) (.ret))))),false,false,false⟩
def F297:PFun:=⟨2,[.cell 4 true 4],.seq (rn [bx 2 0,bx 3 1,jj 4 (.alloc [zN,zN,eN,sN])] [2,3,4]) (.seq (rn [l1 5 2,jj 6 (.mkfn 303 [] [(.t 2),(.t 3)]),jj 7 (.bslice 2 [eN,eN] [(0,1,(.c (.string ⟨#[43]⟩))),(1,1,(.c (.string ⟨#[45]⟩)))]),cl 8 285 [5,6,7],st 4 4 8] [4]) (.ret)),false,false,false⟩
def F303:PFun:=⟨2,[.cell 2 true 4],.seq (rn [jj 2 (.alloc [zN,zN,eN,sN])] [0,1,2]) (.seq (rn [l1 3 0,l1 4 1,cl 5 304 [3,4],st 4 2 5] [2]) (.ret)),false,false,false⟩
def F304:PFun:=⟨2,[.cell 4 true 4],.seq (rn [bx 2 0,bx 3 1,jj 4 (.alloc [zN,zN,eN,sN])] [2,3,4]) (.seq (rn [l1 5 2,jj 6 (.mkfn 307 [] [(.t 2),(.t 3)]),jj 7 (.bslice 2 [eN,eN] [(0,1,(.c (.string ⟨#[42]⟩))),(1,1,(.c (.string ⟨#[47]⟩)))]),cl 8 285 [5,6,7],st 4 4 8] [4]) (.ret)),false,false,false⟩
def F307:PFun:=⟨2,[.cell 2 true 4],.seq (rn [jj 2 (.alloc [zN,zN,eN,sN])] [0,1,2]) (.seq (rn [l1 3 0,l1 4 1,cl 5 308 [3,4],st 4 2 5] [2]) (.ret)),false,false,false⟩
def F308:PFun:=⟨2,[.cell 4 true 4],.seq (rn [jj 4 (.alloc [zN,zN,eN,sN])] [0,1,4]) (.seq (.seq (rn [mv 5 0,jj 6 (.bslice 1 [eN] [(0,1,(.c (.string ⟨#[45]⟩)))]),cl 7 269 [5,6]] [0,1,4,7]) (.cond (.t 7) (.seq (rn [mv 8 0,mv 9 1,bk 10 .add 9 1,jj 11 (.call 270 [(.t 8),(.c (.string ⟨#[45]⟩)),(.t 10)])] [0,1,4]) (.seq (rn [mv 12 0,mv 13 1,bk 14 .add 13 1,cl 15 308 [12,14],jj 16 (.bslice 1 [zN,zN,eN,sN] [(0,4,(.t 15))]),jj 17 (.build [zN,zN,eN,sN] [(0,1,(kk 13)),(2,1,(.c (.string ⟨#[45]⟩))),(3,1,(.t 16))]),st 4 4 17] [4]) (.ret))) (.skip))) (.seq (rn [mv 18 0,mv 19 1,cl 20 309 [18,19],st 4 4 20] [4]) (.ret))),false,false,false⟩
def F309:PFun:=⟨2,[.cell 4 true 4],.seq (rn [jj 4 (.alloc [zN,zN,eN,sN])] [0,1,4]) (.seq (rn [mv 7 0,cl 8 252 [7],jj 5 (.alloc [zN,eN,zN,zN,zN]),st 5 5 8] [0,1,4,5]) (.seq (.block 0 (.seq (rn [fa 10 0 5,l1 11 10,bk 12 .eql 11 4,mv 9 12] [0,1,4,5,9]) (.cond (.t 9) (.seq (rn [mv 13 0,cl 14 277 [13]] [4,5]) (.seq (rn [fa 15 3 5,l1 16 15,jj 17 (.build [zN,zN,eN,sN] [(0,1,(kk 8)),(1,1,(.t 16))]),st 4 4 17] [4]) (.ret))) (.seq (rn [fa 19 0 5,l1 20 19,bk 21 .eql 20 1,mv 18 21] [0,1,4,5,18]) (.cond (.t 18) (.seq (rn [mv 22 0,cl 23 277 [22]] [4,5]) (.seq (rn [fa 24 1 5,l1 25 24,jj 26 (.build [zN,zN,eN,sN] [(0,1,(kk 10)),(2,1,(.t 25))]),st 4 4 26] [4]) (.ret))) (.seq (rn [fa 28 0 5,l1 29 28,bk 30 .eql 29 3,mv 27 30] [0,1,4,5,27]) (.cond (.t 27) (.seq (.region (some []) [fa 31 1 5,⟨some 32,.load false 1 (.t 31),none,[4]⟩,mv 33 0,mv 34 1,cl 35 280 [33,34],jj 36 (.bslice 1 [zN,zN,eN,sN] [(0,4,(.t 35))]),jj 37 (.build [zN,zN,eN,sN] [(0,1,(kk 11)),(2,1,(.t 32)),(3,1,(.t 36))]),st 4 4 37] [4] [4]) (.ret)) (.seq (rn [mv 39 0,jj 40 (.bslice 1 [eN] [(0,1,(.c (.string ⟨#[116,114,117,101]⟩)))]),cl 41 269 [39,40],mv 38 41] [0,1,4,5,38]) (.cond (.t 38) (.seq (rn [mv 42 0,cl 43 277 [42]] [4]) (.seq (rn [jj 44 (.build [zN,zN,eN,sN] [(0,1,(kk 9)),(1,1,(kk 1))]),st 4 4 44] [4]) (.ret))) (.seq (rn [mv 46 0,jj 47 (.bslice 1 [eN] [(0,1,(.c (.string ⟨#[102,97,108,115,101]⟩)))]),cl 48 269 [46,47],mv 45 48] [0,1,4,5,45]) (.cond (.t 45) (.seq (rn [mv 49 0,cl 50 277 [49]] [4]) (.seq (rn [jj 51 (.build [zN,zN,eN,sN] [(0,1,(kk 9))]),st 4 4 51] [4]) (.ret))) (.seq (rn [mv 53 0,jj 54 (.bslice 3 [eN,eN,eN] [(0,1,(.c (.string ⟨#[115,101,108,102]⟩))),(1,1,(.c (.string ⟨#[111,116,104,101,114]⟩))),(2,1,(.c (.string ⟨#[116,105,99,107]⟩)))]),cl 55 269 [53,54],mv 52 55] [0,1,4,5,52]) (.cond (.t 52) (.seq (rn [mv 56 0,cl 57 277 [56]] [4,5]) (.seq (rn [fa 58 1 5,l1 59 58,jj 60 (.build [zN,zN,eN,sN] [(0,1,(kk 12)),(2,1,(.t 59))]),st 4 4 60] [4]) (.ret))) (.skip)))))))))))))) (.seq (rn [mv 61 0,mv 62 1,bk 63 .add 62 1,jj 64 (.call 270 [(.t 61),(.c (.string ⟨#[40]⟩)),(.t 63)])] [0,1,4]) (.seq (rn [mv 65 0,mv 66 1,bk 67 .add 66 1,cl 68 279 [65,67],jj 6 (.alloc [zN,zN,eN,sN]),st 4 6 68] [0,4,6]) (.seq (rn [mv 69 0,jj 70 (.call 253 [(.t 69),(.c (.string ⟨#[41]⟩))])] [4,6]) (.seq (rn [la 71 4 6,st 4 4 71] [4]) (.ret))))))),false,false,false⟩
end Go.Pm.F
end SF3
