/- The rule language in plain Lean: written tokens stand one behind the other; whole programs read back. No program in sight. -/
import Derived.Test.YtoccgneneplciaaGreatDoorPmAL
import Derived.Test.YtoccgneneplciaaGreatDoorPmF5
import Derived.Test.YtoccgneneplciaaGreatDoorPmEt
import Derived.Test.YtoccgneneplciaaGreatDoorPmR1
import Derived.Test.YtoccgneneplciaaGreatDoorPmG2
set_option linter.unusedSimpArgs false
set_option linter.unusedVariables false
set_option maxHeartbeats 4000000
namespace Go.Pm
section
def qt6(u:ByteArray):Prop:=(byl u).head?≠some 61
def qyq(t:ByteArray):Prop:=t≠bs [60]/\t≠bs [62]/\t≠bs [61]/\t≠bs [33]
theorem qmc : ∀ {a b:List ByteArray},Ok2 a->Ok2 b->(∀ t u,a.getLast?=some t->b.head?=some u->Adj t u)->Ok2 (a++b)
 |[],b,_,hb,_=>hb
 |t::a,b,ha,hb,h=>by
  refine⟨ha.1,fun u hu=>?_,qmc ha.2.2 hb fun t' u h1 h2=>?_⟩
  ·cases a with
   |nil=>exact h t u rfl hu
   |cons v a=>exact ha.2.1 u hu
  ·cases a with
   |nil=>cases h1
   |cons v a=>exact h t' u (by rw[Ys]; exact h1) h2
structure Cl(l:List ByteArray):Prop where
 ok:Ok2 l
 st : ∀ u,l.head?=some u->qt6 u
 en : ∀ t,l.getLast?=some t->qyq t
theorem qpy:Cl []:=⟨trivial,fun u h=>(by cases h),fun t h=>(by cases h)⟩
theorem qm5{x:ByteArray}(h:Tg (byl x))(h1:qt6 x)(h2:qyq x):Cl [x]:=⟨⟨h,fun u hu=>(by cases hu),trivial⟩,fun u hu=>(by cases hu; exact h1),fun t ht=>(by cases ht; exact h2)⟩
theorem qbi{a b:List ByteArray}(ha:Cl a)(hb:Cl b):Cl (a++b):=by
 refine⟨qmc ha.ok hb.ok fun t u h1 _ => .inl (ha.en t h1),fun u hu=>?_,fun t ht=>?_⟩
 ·cases a with
  |nil=>exact hb.st u hu
  |cons v a=>exact ha.st u hu
 ·rw[List.getLast?_append] at ht
  cases hbl:b.getLast? with
  |none=>rw[hbl] at ht; exact ha.en t ht
  |some v=>rw[hbl] at ht; exact hb.en t (hbl.trans ht)
theorem qt7{x:ByteArray}{a b:List ByteArray}(h:Tg (byl x))(ha:Cl a)(hb:Cl b)(na:a≠[])(nb:b≠[]):Cl (a++x::b):=by
 have hxb:Ok2 (x::b):=⟨h,fun u hu => .inr (hb.st u hu),hb.ok⟩
 refine⟨qmc ha.ok hxb fun t u h1 _ => .inl (ha.en t h1),fun u hu=>?_,fun t ht=>?_⟩
 ·cases a with
  |nil=>exact absurd rfl na
  |cons v a=>exact ha.st u hu
 ·cases b with
  |nil=>exact absurd rfl nb
  |cons v b=>
   rw[List.getLast?_append,Ys] at ht
   cases hbl:(v::b).getLast? with
   |none=>simp at hbl
   |some w=>rw[hbl] at ht; exact hb.en t (hbl.trans ht)
theorem qw2{x:ByteArray}{b:List ByteArray}(h:Tg (byl x))(h1:qt6 x)(hb:Cl b)(nb:b≠[]):Cl (x::b):=by
 refine⟨⟨h,fun u hu => .inr (hb.st u hu),hb.ok⟩,fun u hu=>(by cases hu; exact h1),fun t ht=>?_⟩
 cases b with
 |nil=>exact absurd rfl nb
 |cons v b=>rw[Ys] at ht; exact hb.en t ht
theorem qpz{c:UInt8}(h:c.toNat∈qj2):Tg (byl (bs [c])):=by rw[qdk]; exact .inr (.inr (.inr ⟨c,rfl,h⟩))
theorem qzq(o:Bop):Tg (byl o.str):=by
 cases o
 all_goals first
  |exact .inr (.inr (.inr ⟨_,rfl,by decide⟩))
  |exact .inr (.inr (.inl (by decide)))
theorem qzr(neg:Bool):Tg (byl (ustr neg)):=by
 cases neg<;>exact .inr (.inr (.inr ⟨_,rfl,by decide⟩))
theorem qt8{c:UInt8}{r:List UInt8}(h:qaW c=true)(h2 : ∀ b∈r,qaL b=true)(h3:(c::r).length<=8):Tg (byl (bs (c::r))):=by
 rw[qdk]
 exact .inl ⟨c,r,rfl,h,h2,fun h=>by omega⟩
theorem clf{x:ByteArray}(h:x∈fieldNames):Cl [x]:=by
 simp only[fieldNames,Wq,Ww,or_false] at h
 rcases h with h|h|h|h|h|h|h|h<;>rw[h]
 all_goals exact qm5 (.inl ⟨_,_,rfl,by decide,by decide,by decide⟩) (by unfold qt6; decide) (by unfold qyq; decide)
theorem clw{x:ByteArray}(h:x∈wordNames):Cl [x]:=by
 simp only[wordNames,Wq,Ww,or_false] at h
 rcases h with h|h|h|h|h|h|h|h|h|h|h|h|h<;>rw[h]
 all_goals exact qm5 (.inl ⟨_,_,rfl,by decide,by decide,by decide⟩) (by unfold qt6; decide) (by unfold qyq; decide)
theorem qsK{x:ByteArray}(h:Tg (byl x))(hs:qaG qaW x=true\/qaG qav x=true):Cl [x]:=by
 refine qm5 h ?_ ⟨?_,?_,?_,?_⟩
 ·intro h1
  rw[qbM,qbM,h1] at hs
  exact absurd hs (by decide)
 all_goals rintro rfl; exact absurd hs (by decide)
theorem qpA{x:ByteArray}(h:qrF x):Cl [x]:=qsK h.1 (.inl h.2.1)
theorem cls{c:UInt8}(h:c.toNat∈qj2)(h1:c≠61)(h2:c≠60/\c≠62/\c≠33):Cl [bs [c]]:=by
 refine qm5 (qpz h) (by rw[qt6,qdk]; simpa using h1) ⟨?_,?_,?_,?_⟩
 all_goals
  intro h
  have:=qlE h
  simp only[WG,and_true] at this
  simp_all
theorem qt9(full:Bool){e:E}(h:e.good)(p:Nat):e.tx full p≠[]:=by
 obtain⟨x,l,h1,_⟩:=qmi full e h p
 rw[h1]; simp
theorem qm6{b:Bool}{l:List ByteArray}(h:Cl l):Cl (qdo b l):=by
 unfold qdo
 split
 ·exact qbi (a:=[bs [40]]) (cls (by decide) (by decide) (by decide)) (qbi h (cls (by decide) (by decide) (by decide)))
 ·exact h
theorem qiO(full:Bool) : ∀ e:E,e.good -> ∀ p,Cl (e.tx full p)
 |.int n,h,p=>qsK (by rw[qdk]; exact qut (by have:=h.1; have:=h.2; omega)) (.inr (qkk (by have:=h.1; have:=h.2; omega)))
 |.bool n,h,p=>by
  simp only[E.tx]
  split<;>exact clw (by decide)
 |.var s,h,p=>qpA h
 |.name s,h,p=>by
  refine clw ?_
  rcases h with rfl|rfl|rfl<;>decide
 |.field g s e,h,p=>qbi (clf h.1) (qbi (a:=[bs [91]]) (cls (by decide) (by decide) (by decide)) (qbi (qiO full e h.2 1) (cls (by decide) (by decide) (by decide))))
 |.un g neg e,h,p=>qm6 (qw2 (qzr neg) (by unfold qt6; cases neg<;>decide) (qiO full e h _) (qt9 full (e:=e) h _))
 |.bin g o a b,h,p=>qm6 (qt7 (qzq o) (qiO full a h.1 _) (qiO full b h.2 _) (qt9 full h.1 _) (qt9 full h.2 _))
theorem qiP : ∀ (s:Ss) m,s.good m->Cl s.tx
 |.nil,m,h=>qpy
 |.assign g s e r,m,h=>qt7 (a:=[s]) (qpz (by decide)) (qpA h.2.1) (qbi (qiO false e h.2.2.1 1) (qbi (a:=[bs [59]]) (cls (by decide) (by decide) (by decide)) (qiP r _ h.2.2.2))) (by simp) (by simp)
 |.store g s a b r,m,h=>by
  have h1:Cl (s::bs [91]::(a.tx false 1++[bs [93]])):=qbi (clf h.2.1) (qbi (a:=[bs [91]]) (cls (by decide) (by decide) (by decide)) (qbi (qiO false a h.2.2.1 1) (cls (by decide) (by decide) (by decide))))
  have h2:Cl (b.tx false 1++(bs [59]::r.tx)):=qbi (qiO false b h.2.2.2.1 1) (qbi (a:=[bs [59]]) (cls (by decide) (by decide) (by decide)) (qiP r _ h.2.2.2.2))
  have:=qt7 (x:=bs [61]) (qpz (by decide)) h1 h2 (by simp) (by simp)
  simpa [Ss.tx] using this
 |.effect g a b r,m,h=>qbi (a:=[qmg]) (clw (by decide)) (qbi (qiO false a h.2.1 1) (qbi (a:=[bs [44]]) (cls (by decide) (by decide) (by decide)) (qbi (qiO false b h.2.2.1 1) (qbi (a:=[bs [59]]) (cls (by decide) (by decide) (by decide)) (qiP r _ h.2.2.2)))))
 |.stop r,m,h=>qbi (a:=[qum]) (clw (by decide)) (qbi (a:=[bs [59]]) (cls (by decide) (by decide) (by decide)) (qiP r _ h.2))
 |.cond w g c b r,m,h=>qbi (a:=[if w then qpH else ifS]) (clw (by cases w<;>decide)) (qbi (qiO false c h.2.1 1) (qbi (qiP b _ h.2.2.1) (qiP r _ h.2.2.2)))
 |.block g b r,m,h=>by
  obtain⟨n,_,h1,h2⟩:=h
  have hlast:Cl (if qfW r then qkj::r.tx else []):=?_
  ·exact qbi (a:=[bs [123]]) (cls (by decide) (by decide) (by decide)) (qbi (qiP b _ h1) (qbi (a:=[bs [125]]) (cls (by decide) (by decide) (by decide)) hlast))
  split
  ·exact qbi (a:=[qkj]) (clw (by decide)) (qiP r _ h2)
  ·exact qpy
def qeI(k:Nat):ByteArray:=match k with|0=>bs [97,99,116] | 1=>qiT|_=>qkF
def qlP(k:Nat):Option Ss->List ByteArray
 |none=>[]
 |some b=>onS::qeI k::bs [123]::(b.tx++[bs [125]])
def qhq(h:Option Ss):Prop := ∀ b,h=some b->b.good none/\b.nest<=19
theorem qua{k:Nat}{h:Option Ss}(hg:qhq h):Cl (qlP k h):=by
 cases h with
 |none=>exact qpy
 |some b=>
  refine qbi (a:=[onS]) (clw (by decide)) (qbi (a:=[qeI k]) (clw ?_) (qbi (a:=[bs [123]]) (cls (by decide) (by decide) (by decide)) (qbi (qiP b _ (hg b rfl).1) (cls (by decide) (by decide) (by decide)))))
  rcases k with _|_|k
  ·decide
  ·decide
  ·show qkF∈wordNames; decide
def qco(h:Nat->Option Ss):List ByteArray:=qlP 0 (h 0)++(qlP 1 (h 1)++qlP 2 (h 2))
theorem qub{h:Nat->Option Ss}(hg : ∀ k,qhq (h k)):Cl (qco h):=qbi (qua (hg 0)) (qbi (qua (hg 1)) (qua (hg 2)))
theorem qke{k:Nat}(h:k<3):qbZ (qeI k)=some k:=by
 rcases k with _|_|_|k
 ·rfl
 ·rfl
 ·rfl
 ·omega
section
variable{eS eL eD:Nat}{f fi fb:Bool}
def qAA(h:Nat->Option Ss)(k:Nat)(b:Ss):Nat->Option Ss:=fun i=>if i=k then some b else h i
theorem rbH {h:Nat->Option Ss} {k:Nat} {b:Ss} (hk:k<3) (hh:h k=none) (hg:b.good none) (hn:b.nest<=19) {ts mid:List Tk} (hx:Hx (qlP k (some b)) ts mid) {y} (hy : ∃ n,qdO eS eL eD f fi fb n (qAA h k (b.fl f fi fb)) mid=some y) :
  ∃ n,qdO eS eL eD f fi fb n h ts=some y:=by
 obtain⟨h1,h2⟩:=qcd hx
 obtain⟨h3,h4⟩:=qcd h2
 have hr : ∃ n,qbu eS eL f fi fb n 1 ts.tail.tail=some (.ok (b.fl f fi fb) mid):=by
  obtain⟨n,hn⟩:=(rbS (eS:=eS) (eL:=eL) (f:=f) (fi:=fi) (fb:=fb) b).1 hg 1 .nil ts.tail.tail.tail mid (qcd h4).2 (by omega)
  refine⟨n+1,?_⟩
  rw[qbu,qfY h4 (by omega)]
  exact hn
 obtain⟨n,hn⟩:=hr
 obtain⟨m,hm⟩:=hy
 refine⟨max n m+1,?_⟩
 rw[qdO,h1]
 simp only
 rw[if_neg (by decide),show qaQ eS (bs [111,110]) ts = .ok () ts.tail from qcD hx]
 simp only[h3,qke hk]
 rw[if_neg (by rw[hh]; simp),qcS hn (WE n m)]
 exact qgV hm (WB n m)
theorem rbP {h:Nat->Option Ss} (hg : ∀ k,qhq (h k)) {ts mid:List Tk} (hx:Hx (qco h) ts mid) (he:nx mid=some ⟨#[]⟩) :
  ∃ n,qdO eS eL eD f fi fb n (fun _=>none) ts=some (.ok (fun k=>if k<3 then (h k).map (·.fl f fi fb) else none) mid):=by
 obtain⟨m1,x1,hx⟩:=hx_app.1 hx
 obtain⟨m2,x2,x3⟩:=hx_app.1 hx
 have one : ∀ (k:Nat) (h0:Nat->Option Ss) (ts m:List Tk) y,k<3->h0 k=none->Hx (qlP k (h k)) ts m->(∃ n,qdO eS eL eD f fi fb n (fun i=>if i=k then (h k).map (·.fl f fi fb) else h0 i) m=some y) -> ∃ n,qdO eS eL eD f fi fb n h0 ts=some y:=by
  intro k h0 ts m y hk h0k hx hy
  have hgk:=hg k
  cases hb:h k with
  |none=>
   rw[hb] at hx hy
   cases hx
   obtain⟨n,hn⟩:=hy
   refine⟨n,?_⟩
   rw[<- hn]
   congr 1
   funext i
   split
   ·rename_i e; rw[e,h0k]; rfl
   ·rfl
  |some b=>
   rw[hb] at hx hy hgk
   exact rbH hk h0k (hgk b rfl).1 (hgk b rfl).2 hx hy
 refine one 0 _ ts m1 _ (by omega) rfl x1 (one 1 _ m1 m2 _ (by omega) (by simp) x2 (one 2 _ m2 mid _ (by omega) (by simp) x3 ⟨1,?_⟩))
 rw[qdO,he]
 simp only
 rw[if_pos (by rfl)]
 congr 2
 funext i
 rcases i with _|_|_|i<;>simp
 omega
end
end
section
def Fo.eqv:Fo->Fo->Bool
 |.nil,.nil=>true
 |.cons k n s _ ks r,.cons k' n' s' _ ks' r'=>(decide (k=k')&&(decide (n=n')&&decide (s=s')))&&(ks.eqv ks'&&r.eqv r')
 |_,_=>false
def Rz.map{α β : Type}(k : α -> β):Rz α -> Rz β
 |.ok a r => .ok (k a) r
 |.er i c => .er i c
end
end Go.Pm
section
namespace Go.Pm.F
variable(C:Task->Option Res)(q:Nat)(fr:Fr)(σ : S)
@[simp] def F228a0x:PC:=(rn [jj 6 (.alloc [zN,eN,zN,zN,zN]),st 5 6 20] [1000000,5,6])
def F228a0:PC:=F228a0x
theorem qi9:run C q F228a0 fr σ = run C q F228a0x fr σ := rfl
@[simp] def F228b0x:PC:=(.block 1 (.region (some []) [⟨some 21,.load false 1 (.t 5),none,[7]⟩,l1 22 5,nc 23 22,fa 24 2 23,l1 25 24,la 26 5 6,jj 27 (.bslice 1 [zN,eN,zN,zN,zN] [(0,5,(.t 26))]),jj 28 (.append 5 48 (.t 25) (.t 27)),nc 29 21,fa 30 2 29,st 1 30 28] [1000000]))
def F228b0:PC:=F228b0x
theorem qja:run C q F228b0 fr σ = run C q F228b0x fr σ := rfl
theorem qia:F228a0.flat=true:=rfl
theorem qib:F228b0.flat=true:=rfl
def F228:PFun:=⟨1,[.cell 2 true 12,.cell 3 false 1,.cell 4 false 1],.seq (rn [jj 2 (.alloc [zN,zN,eN,sN,zN,zN,eN,sN,zN,zN,eN,sN]),jj 3 (.alloc [zN]),jj 4 (.alloc [zN])] [1000000,0,2,3,4]) (.seq (.seq (rn [mv 7 0,lz 8 7,bk 9 .gtr 8 2000] [1000000,0,2,3,4,9]) (.cond (.t 9) (.seq (rn [jj 10 (.build [zN,zN,eN,sN,zN,zN,eN,sN,zN,zN,eN,sN] []),st 12 2 10,jn (.store 1 (.t 3) (kk 2000)),jn (.store 1 (.t 4) (kk 2))] [1000000,2,3,4]) (.ret)) (.skip))) (.seq (rn [mv 11 0,cl 12 239 [11],jj 13 (.build [eN,(.lit (.map none)),sN,zN,zN,zN] [(0,2,(.t 12)),(5,1,(kk 12))]),bx 14 13,jj 5 (.alloc [(.lit (.pointer none))]),st 1 5 14] [1000000,2,3,4,5]) (.seq (rn [jj 15 (.mkfn 240 [] [(.t 5),(.t 2),(.t 3),(.t 4)]),jj 1000000 (.defer (.t 15) [])] [1000000,2,3,4,5]) (.seq (.seq (rn [l1 16 5,nc 17 16,fa 18 0 17,cl 19 241 [18]] [1000000,2,3,4,5,19]) (.block 0 (.range (.t 19) [20] F228a0 F228b0))) (.seq (rn [l1 31 5,cl 32 242 [31],st 12 2 32,jn (.store 1 (.t 3) (kk 0)),jn (.store 1 (.t 4) (kk 0))] [1000000,2,3,4]) (.ret)))))),false,true,false⟩
@[simp] def F231l0x:PC:=(.seq (rn [bk 10 .lss 9 3] [1,3,8,9,10]) (.seq (.cond (.t 10) (.skip) (.exit 0)) (.seq (.block 1 (.seq (rn [mv 11 9,jj 12 (.indexA false 3 1 (.t 8) (.t 9)),mv 4 11,mv 5 12] [1,3,4,5,8,9]) (.seq (rn [mv 13 4,fa 14 0 1,jj 15 (.indexAddrA 3 4 (.t 14) (.t 13)),fa 16 0 15,l1 17 16,bk 18 .neq 17 0] [1,3,4,5,8,9,18]) (.cond (.t 18) (.seq (rn [mv 19 3,mv 20 5,jj 21 (.bslice 2 [eN,eN] [(0,1,(.c (.string ⟨#[111,110]⟩))),(1,1,(.t 20))]),cl 22 243 [19,21]] [1,3,4,8,9]) (rn [mv 23 3,mv 24 4,fa 25 0 1,jj 26 (.indexAddrA 3 4 (.t 25) (.t 24)),la 27 4 26,cl 28 244 [23,27]] [1,3,8,9])) (.skip))))) (rn [bk 29 .add 9 1,mv 9 29] [1,3,8,9]))))
def F231l0:PC:=F231l0x
theorem qcw:run C q F231l0 fr σ = run C q F231l0x fr σ := rfl
def F231:PFun:=⟨1,[.tmp 2],.seq (rn [bx 1 0,jj 2 (.mov (.c (.string ⟨#[]⟩)))] [1]) (.seq (rn [jj 6 (.build [(.lit (.pointer none)),sN,(.lit (.int .u8 0))] []),jj 7 (.boxT 4 (.t 6)),mv 3 7] [1,3]) (.seq (.seq (rn [jj 8 (.build [eN,eN,eN] [(0,1,(.c (.string ⟨#[97,99,116]⟩))),(1,1,(.c (.string ⟨#[116,105,99,107]⟩))),(2,1,(.c (.string ⟨#[104,105,116]⟩)))]),mx 9 (kk 0)] [1,3,8,9]) (.block 0 (.loop F231l0))) (.seq (rn [mv 30 3,nc 31 30,fa 32 0 31,cl 33 245 [32],mv 2 33] [2]) (.ret)))),false,false,false⟩
def F239:PFun:=⟨1,[.cell 2 true 2],.seq (rn [jj 2 (.alloc [eN,(.lit (.map none))])] [0,2]) (.seq (rn [mv 3 0,jj 4 (.mkmap),jn (.mapset .s (.t 4) (.c (.string ⟨#[111,110]⟩)) (kk 2)),jn (.mapset .s (.t 4) (.c (.string ⟨#[97,99,116]⟩)) (kk 2)),jn (.mapset .s (.t 4) (.c (.string ⟨#[116,105,99,107]⟩)) (kk 2)),jn (.mapset .s (.t 4) (.c (.string ⟨#[105,102]⟩)) (kk 2)),jn (.mapset .s (.t 4) (.c (.string ⟨#[101,108,115,101]⟩)) (kk 2)),jn (.mapset .s (.t 4) (.c (.string ⟨#[119,104,105,108,101]⟩)) (kk 2)),jn (.mapset .s (.t 4) (.c (.string ⟨#[101,102,102,101,99,116]⟩)) (kk 2)),jn (.mapset .s (.t 4) (.c (.string ⟨#[115,116,111,112]⟩)) (kk 2)),jn (.mapset .s (.t 4) (.c (.string ⟨#[116,114,117,101]⟩)) (kk 2)),jn (.mapset .s (.t 4) (.c (.string ⟨#[102,97,108,115,101]⟩)) (kk 2)),jn (.mapset .s (.t 4) (.c (.string ⟨#[115,101,108,102]⟩)) (kk 2)),jn (.mapset .s (.t 4) (.c (.string ⟨#[111,116,104,101,114]⟩)) (kk 2)),jn (.mapset .s (.t 4) (.c (.string ⟨#[120]⟩)) (kk 3)),jn (.mapset .s (.t 4) (.c (.string ⟨#[121]⟩)) (kk 3)),jn (.mapset .s (.t 4) (.c (.string ⟨#[118,120]⟩)) (kk 3)),jn (.mapset .s (.t 4) (.c (.string ⟨#[118,121]⟩)) (kk 3)),jn (.mapset .s (.t 4) (.c (.string ⟨#[97]⟩)) (kk 3)),jn (.mapset .s (.t 4) (.c (.string ⟨#[98]⟩)) (kk 3)),jn (.mapset .s (.t 4) (.c (.string ⟨#[104,105,116]⟩)) (kk 3)),jn (.mapset .s (.t 4) (.c (.string ⟨#[115,116,105,108,108]⟩)) (kk 3)),mv 5 4,jj 6 (.build [eN,(.lit (.map none))] [(0,1,(.t 3)),(1,1,(.t 5))]),st 2 2 6] [2]) (.ret)),false,false,false⟩
def F240:PFun:=⟨4,[],.seq (rn [jj 4 (.recov),jj 5 (.isnil false true (.t 4))] [0,1,2,3,5]) (.cond (.t 5) (.region (some []) [jj 6 (.build [zN,zN,eN,sN,zN,zN,eN,sN,zN,zN,eN,sN] []),l1 7 0,nc 8 7,fa 9 4 8,l1 10 9,l1 11 0,nc 12 11,fa 13 5 12,l1 14 13,st 12 1 6,st 1 2 10,st 1 3 14] []) (.skip)),false,false,true⟩
def F241:PFun:=⟨1,[.tmp 2],.seq (rn [bx 1 0,jj 2 (.mov (.c .nilFunc))] [1]) (.seq (rn [jj 3 (.mkfn 249 [] [(.t 1)]),mv 2 3] [2]) (.ret)),false,false,false⟩
@[simp] def F242l0x:PC:=(.seq (.seq (rn [mv 5 0,cl 6 252 [5],jj 7 (.field false 0 1 (.t 6)),bk 8 .neq 7 0] [0,2,3,8]) (.cond (.t 8) (.skip) (.exit 0))) (.block 1 (.seq (rn [mv 9 0,jj 10 (.call 253 [(.t 9),(.c (.string ⟨#[111,110]⟩))])] [0,2,3]) (.seq (rn [mv 11 0,cl 12 254 [11],mv 4 12] [0,2,3,4]) (.seq (.seq (rn [mv 13 4,fa 14 0 3,jj 15 (.indexAddrA 3 4 (.t 14) (.t 13)),fa 16 0 15,l1 17 16,bk 18 .neq 17 0] [0,2,3,4,18]) (.cond (.t 18) (rn [mv 19 0,mv 20 0,cl 21 252 [20],jj 22 (.call 255 [(.t 19),(.t 21),(kk 4)])] [0,2,3,4]) (.skip))) (.seq (rn [mv 23 0,nc 24 23,fa 25 3 24,l1 26 25,bk 27 .add 26 1,nc 28 23,fa 29 3 28,st 1 29 27] [0,2,3,4]) (rn [mv 30 4,mv 31 0,jj 32 (.call 256 [(.t 31),(kk 1)]),fa 33 0 3,jj 34 (.indexAddrA 3 4 (.t 33) (.t 30)),st 4 34 32] [0,2,3])))))))
def F242l0:PC:=F242l0x
theorem qcP:run C q F242l0 fr σ = run C q F242l0x fr σ := rfl
def F242:PFun:=⟨1,[.cell 2 true 12],.seq (rn [jj 2 (.alloc [zN,zN,eN,sN,zN,zN,eN,sN,zN,zN,eN,sN])] [0,2]) (.seq (rn [jj 3 (.alloc [zN,zN,eN,sN,zN,zN,eN,sN,zN,zN,eN,sN])] [0,2,3]) (.seq (.block 0 (.loop F242l0)) (.seq (rn [la 35 12 3,st 12 2 35] [2]) (.ret)))),false,false,false⟩
@[simp] def F243l0x:PC:=(.seq (rn [bn 9 .lss 8 7] [0,6,7,8,9]) (.seq (.cond (.t 9) (.skip) (.exit 0)) (.seq (.block 1 (.seq (rn [jj 10 (.indexAddr 1 (.t 6) (.t 8)),l1 11 10,mv 5 11] [0,5,6,7,8]) (.seq (.seq (rn [mv 12 5,jj 13 (.bin .eql (.t 12) (.c (.string ⟨#[]⟩)))] [0,5,6,7,8,13]) (.cond (.t 13) (.exit 1) (.skip))) (.seq (.seq (rn [mv 14 0,nc 15 14,fa 16 2 15,l1 17 16,cl 18 257 [17],mv 19 18,jt 20 19 (.mov (.t 5)),jt 21 19 (.indexS (.t 20) (kk 0)),jt 22 19 (.call 257 [(.t 21)]),jj 23 (.pick (.t 19) (.t 22) kF)] [0,5,6,7,8,23]) (.cond (.t 23) (rn [mv 24 0,nc 25 24,fa 26 0 25,jj 27 (.call 258 [(.t 26),(.c (.int .u8 32))])] [0,5,6,7,8]) (.skip))) (.seq (rn [mv 28 0,nc 29 28,fa 30 0 29,mv 31 5,cl 32 259 [30,31]] [0,5,6,7,8]) (rn [mv 33 0,mv 34 5,mv 35 5,lz 36 35,bk 37 .sub 36 1,jj 38 (.indexS (.t 34) (.t 37)),nc 39 33,fa 40 2 39,st 1 40 38] [0,6,7,8])))))) (rn [bk 41 .add 8 1,mv 8 41] [0,6,7,8]))))
def F243l0:PC:=F243l0x
theorem qd9:run C q F243l0 fr σ = run C q F243l0x fr σ := rfl
def F243:PFun:=⟨2,[],.seq (rn [mv 6 1,ls 7 6,mx 8 (kk 0)] [0,6,7,8]) (.block 0 (.loop F243l0)),false,false,false⟩
@[simp] def F244l0x:PC:=(.seq (rn [bn 13 .lss 12 11] [0,10,11,12,13]) (.seq (.cond (.t 13) (.skip) (.exit 0)) (.seq (.block 1 (.seq (rn [jj 14 (.indexAddr 4 (.t 10) (.t 12)),la 15 4 14,jj 5 (.alloc [zN,zN,eN,sN]),st 4 5 15] [0,5,10,11,12]) (rn [mv 16 0,la 17 4 5,cl 18 260 [16,17]] [0,10,11,12]))) (rn [bk 19 .add 12 1,mv 12 19] [0,10,11,12]))))
def F244l0:PC:=F244l0x
theorem qgO:run C q F244l0 fr σ = run C q F244l0x fr σ := rfl
def F244:PFun:=⟨2,[],.seq (rn [bx 3 1] [0,3]) (.seq (rn [mv 6 0,jj 7 (.bslice 1 [eN] [(0,1,(.c (.string ⟨#[123]⟩)))]),cl 8 243 [6,7]] [0,3]) (.seq (.seq (rn [fa 9 3 3,l1 10 9,ls 11 10,mx 12 (kk 0)] [0,10,11,12]) (.block 0 (.loop F244l0))) (rn [mv 20 0,jj 21 (.bslice 1 [eN] [(0,1,(.c (.string ⟨#[125]⟩)))]),cl 22 243 [20,21]] []))),false,false,false⟩
@[simp] def F249l0x:PC:=(.block 1 (.seq (.region (some [(34,[zN,eN,zN,zN,zN])]) [⟨some 5,.load false 1 (.t 1),none,[3]⟩,l1 6 1,mv 7 3,cl 8 251 [6,7],cl 9 250 [5,8],⟨some 4,.fill 34,none,[3,4]⟩,st 5 4 9] [0,1,4]) (.seq (.seq (rn [mv 10 0,la 11 5 4,jj 12 (.callv (.t 10) [(.t 11)]),jj 13 (.un .not (.t 12)),mv 14 13,jf 15 14 (.fieldAddr 0 (.t 4)),jf 16 14 (.load false 1 (.t 15)),jf 17 14 (.bin .eql (.t 16) (kk 0)),jj 18 (.pick (.t 14) kT (.t 17)),mv 19 18,jf 20 19 (.fieldAddr 0 (.t 4)),jf 21 19 (.load false 1 (.t 20)),jf 22 19 (.bin .eql (.t 21) (kk 6)),jj 23 (.pick (.t 19) kT (.t 22))] [0,1,4,23]) (.cond (.t 23) (.ret) (.skip))) (rn [fa 24 2 4,l1 25 24,fa 26 1 4,l1 27 26,lz 28 27,bn 29 .add 25 28,mv 3 29] [0,1,3]))))
def F249l0:PC:=F249l0x
theorem qfm:run C q F249l0 fr σ = run C q F249l0x fr σ := rfl
def F249:PFun:=⟨2,[],.seq (rn [mx 3 (kk 0)] [0,1,3]) (.block 0 (.loop F249l0)),false,false,false⟩
def F250:PFun:=⟨2,[.cell 4 true 5],.seq (rn [jj 4 (.alloc [zN,eN,zN,zN,zN])] [0,1,4]) (.seq (.seq (rn [mv 7 1,mv 8 0,nc 9 8,fa 10 0 9,l1 11 10,lz 12 11,bn 13 .eql 7 12] [0,1,4,13]) (.cond (.t 13) (.seq (rn [mv 14 1,jj 15 (.build [zN,eN,zN,zN,zN] [(0,1,(kk 0)),(2,1,(.t 14))]),st 5 4 15] [4]) (.ret)) (.skip))) (.seq (.seq (rn [mv 16 0,nc 17 16,fa 18 0 17,l1 19 18,mv 20 1,jj 21 (.indexS (.t 19) (.t 20)),mv 5 21] [0,1,4,5]) (.block 0 (.seq (rn [mv 23 5,cl 24 264 [23],mv 22 24] [0,1,4,5,22]) (.cond (.t 22) (.seq (rn [mv 25 0,mv 26 1,cl 27 265 [25,26],st 5 4 27] [4]) (.ret)) (.seq (rn [mv 29 5,cl 30 266 [29],mv 28 30] [0,1,4,28]) (.cond (.t 28) (.seq (rn [mv 31 0,mv 32 1,cl 33 267 [31,32],st 5 4 33] [4]) (.ret)) (.skip))))))) (.seq (.seq (rn [mv 34 1,bk 35 .add 34 2,mv 36 0,nc 37 36,fa 38 0 37,l1 39 38,lz 40 39,bn 41 .leq 35 40] [0,1,4,41]) (.cond (.t 41) (.seq (rn [mv 42 0,nc 43 42,fa 44 0 43,l1 45 44,mv 46 1,mv 47 1,bk 48 .add 47 2,jj 49 (.sliceS (.t 45) (some (.t 46)) (some (.t 48))),mv 6 49] [0,1,4,6]) (.seq (rn [mv 50 6] [0,1,4,6,50]) (.block 1 (.seq (.seq (rn [jj 52 (.bin .eql (.t 50) (.c (.string ⟨#[124,124]⟩))),mv 51 52] [0,1,4,6,50,51]) (.cond (.t 51) (.skip) (.seq (rn [jj 53 (.bin .eql (.t 50) (.c (.string ⟨#[38,38]⟩))),mv 51 53] [0,1,4,6,50,51]) (.cond (.t 51) (.skip) (.seq (rn [jj 54 (.bin .eql (.t 50) (.c (.string ⟨#[60,61]⟩))),mv 51 54] [0,1,4,6,50,51]) (.cond (.t 51) (.skip) (.seq (rn [jj 55 (.bin .eql (.t 50) (.c (.string ⟨#[62,61]⟩))),mv 51 55] [0,1,4,6,50,51]) (.cond (.t 51) (.skip) (.seq (rn [jj 56 (.bin .eql (.t 50) (.c (.string ⟨#[61,61]⟩))),mv 51 56] [0,1,4,6,50,51]) (.cond (.t 51) (.skip) (rn [jj 57 (.bin .eql (.t 50) (.c (.string ⟨#[33,61]⟩))),mv 51 57] [0,1,4,6,51]))))))))))) (.cond (.t 51) (.seq (rn [mv 58 6,mv 59 1,jj 60 (.build [zN,eN,zN,zN,zN] [(0,1,(kk 5)),(1,1,(.t 58)),(2,1,(.t 59))]),st 5 4 60] [4]) (.ret)) (.skip)))))) (.skip))) (.seq (.seq (rn [mv 61 0,nc 62 61,fa 63 0 62,l1 64 63,mv 65 1,jj 66 (.indexS (.t 64) (.t 65)),jj 67 (.call 268 [(.c (.string ⟨#[123,125,91,93,40,41,61,59,44,60,62,43,45,42,47,33]⟩)),(.t 66)]),bk 68 .geq 67 0] [0,1,4,68]) (.cond (.t 68) (.seq (rn [mv 69 0,nc 70 69,fa 71 0 70,l1 72 71,mv 73 1,mv 74 1,bk 75 .add 74 1,jj 76 (.sliceS (.t 72) (some (.t 73)) (some (.t 75))),mv 77 1,jj 78 (.build [zN,eN,zN,zN,zN] [(0,1,(kk 5)),(1,1,(.t 76)),(2,1,(.t 77))]),st 5 4 78] [4]) (.ret)) (.skip))) (.seq (rn [mv 79 1,jj 80 (.build [zN,eN,zN,zN,zN] [(0,1,(kk 6)),(2,1,(.t 79)),(4,1,(kk 12))]),st 5 4 80] [4]) (.ret)))))),false,false,false⟩
@[simp] def F251l0x:PC:=(.seq (.seq (rn [mv 7 1,mv 8 0,nc 9 8,fa 10 0 9,l1 11 10,lz 12 11,bn 13 .lss 7 12] [0,1,5,13]) (.cond (.t 13) (.skip) (.exit 0))) (.seq (.block 1 (.seq (rn [mv 16 0,nc 17 16,fa 18 0 17,l1 19 18,mv 20 1,jj 21 (.indexS (.t 19) (.t 20)),mv 6 21] [0,1,5,6]) (.block 2 (.seq (rn [mv 24 6,jj 25 (.bin .eql (.t 24) (.c (.int .u8 10))),mv 23 25] [0,1,5,6,23]) (.cond (.t 23) (rn [mx 5 kF] [0,1,5]) (.seq (rn [mv 27 5,mv 28 27,jf 29 28 (.mov (.t 6)),jf 30 28 (.bin .eql (.t 29) (.c (.int .u8 32))),jj 31 (.pick (.t 28) kT (.t 30)),mv 32 31,jf 33 32 (.mov (.t 6)),jf 34 32 (.bin .eql (.t 33) (.c (.int .u8 9))),jj 35 (.pick (.t 32) kT (.t 34)),mv 26 35] [0,1,5,6,26]) (.cond (.t 26) (.skip) (.seq (rn [mv 37 6,jj 38 (.bin .eql (.t 37) (.c (.int .u8 35))),mv 36 38] [0,1,36]) (.cond (.t 36) (rn [mx 5 kT] [0,1,5]) (.seq (rn [mv 22 1,mv 4 22] [4]) (.ret))))))))))) (rn [mv 14 1,bk 15 .add 14 1,mv 1 15] [0,1,5])))
def F251l0:PC:=F251l0x
theorem qdu:run C q F251l0 fr σ = run C q F251l0x fr σ := rfl
def F251:PFun:=⟨2,[.tmp 4],.seq (rn [mx 4 (kk 0)] [0,1]) (.seq (.seq (rn [mx 5 kF] [0,1,5]) (.block 0 (.loop F251l0))) (.seq (rn [mv 39 1,mv 4 39] [4]) (.ret))),false,false,false⟩
def F252:PFun:=⟨1,[.cell 2 true 5],.seq (rn [jj 2 (.alloc [zN,eN,zN,zN,zN])] [0,2]) (.seq (.region (some [(26,[zN,eN,zN,zN,zN])]) [mv 4 0,nc 5 4,fa 6 2 5,l1 7 6,mv 8 0,nc 9 8,fa 10 3 9,l1 11 10,jj 12 (.indexAddr 5 (.t 7) (.t 11)),la 13 5 12,jj 3 (.fill 26),st 5 3 13] [0,2,3]) (.seq (.seq (rn [fa 14 0 3,l1 15 14,bk 16 .eql 15 6] [0,2,3,16]) (.cond (.t 16) (rn [mv 17 0,la 18 5 3,fa 19 4 3,l1 20 19,cl 21 255 [17,18,20]] [2,3]) (.skip))) (.seq (rn [la 22 5 3,st 5 2 22] [2]) (.ret)))),false,false,false⟩
def F253:PFun:=⟨2,[],.seq (.seq (rn [mv 4 0,mv 5 1,jj 6 (.bslice 1 [eN] [(0,1,(.t 5))]),cl 7 269 [4,6],jj 8 (.un .not (.t 7))] [0,8]) (.cond (.t 8) (rn [mv 9 0,mv 10 0,cl 11 252 [10],jj 12 (.call 255 [(.t 9),(.t 11),(kk 12)])] [0]) (.skip))) (rn [mv 13 0,nc 14 13,fa 15 3 14,l1 16 15,bk 17 .add 16 1,nc 18 13,fa 19 3 18,st 1 19 17] []),false,false,false⟩
def F254:PFun:=⟨1,[.tmp 2],.seq (rn [mx 2 (kk 0)] [0]) (.seq (rn [mv 4 0,cl 5 252 [4],jj 3 (.alloc [zN,eN,zN,zN,zN]),st 5 3 5] [0,3]) (.seq (.seq (rn [fa 6 1 3,l1 7 6] [0,3,7]) (.block 0 (.seq (rn [jj 9 (.bin .eql (.t 7) (.c (.string ⟨#[97,99,116]⟩))),mv 8 9] [0,3,7,8]) (.cond (.t 8) (.seq (rn [mx 2 (kk 0)] [2]) (.ret)) (.seq (rn [jj 11 (.bin .eql (.t 7) (.c (.string ⟨#[116,105,99,107]⟩))),mv 10 11] [0,3,7,10]) (.cond (.t 10) (.seq (rn [mx 2 (kk 1)] [2]) (.ret)) (.seq (rn [jj 13 (.bin .eql (.t 7) (.c (.string ⟨#[104,105,116]⟩))),mv 12 13] [0,3,12]) (.cond (.t 12) (.seq (rn [mx 2 (kk 2)] [2]) (.ret)) (.skip))))))))) (.seq (rn [mv 14 0,la 15 5 3,jj 16 (.call 255 [(.t 14),(.t 15),(kk 12)])] []) (.seq (rn [mx 2 (kk (-1))] [2]) (.ret))))),false,false,false⟩
def F255:PFun:=⟨3,[],.seq (rn [bx 4 1] [0,2,4]) (.seq (rn [mv 6 0,mv 7 0,fa 8 2 4,l1 9 8,mv 10 2,nc 11 6,fa 12 4 11,st 1 12 9,nc 13 7,fa 14 5 13,st 1 14 10] [2]) (rn [mv 15 2,jj 16 (.mkif 1 (.t 15)),jn (.panic (.t 16))] [])),false,false,false⟩
@[simp] def F256l0x:PC:=(.seq (.seq (rn [mv 10 0,jj 11 (.bslice 1 [eN] [(0,1,(.c (.string ⟨#[125]⟩)))]),cl 12 269 [10,11],jj 13 (.un .not (.t 12))] [0,1,4,5,13]) (.cond (.t 13) (.skip) (.exit 0))) (.block 1 (.region (some []) [fa 14 3 5,⟨some 15,.load false 1 (.t 14),none,[4]⟩,mv 16 0,mv 17 1,cl 18 271 [16,17],jj 19 (.bslice 1 [zN,zN,eN,sN] [(0,4,(.t 18))]),jj 20 (.append 4 56 (.t 15) (.t 19)),fa 21 3 5,st 1 21 20] [0,1,4,5] [4])))
def F256l0:PC:=F256l0x
theorem qea:run C q F256l0 fr σ = run C q F256l0x fr σ := rfl
def F256:PFun:=⟨2,[.cell 4 true 4],.seq (rn [jj 4 (.alloc [zN,zN,eN,sN])] [0,1,4]) (.seq (rn [mv 6 0,mv 7 1,jj 8 (.call 270 [(.t 6),(.c (.string ⟨#[123]⟩)),(.t 7)])] [0,1,4]) (.seq (rn [jj 9 (.build [zN,zN,eN,sN] [(0,1,(kk 7))]),jj 5 (.alloc [zN,zN,eN,sN]),st 4 5 9] [0,1,4,5]) (.seq (.block 0 (.loop F256l0)) (.seq (rn [mv 22 0,jj 23 (.call 253 [(.t 22),(.c (.string ⟨#[125]⟩))])] [4,5]) (.seq (rn [la 24 4 5,st 4 4 24] [4]) (.ret)))))),false,false,false⟩
def F257:PFun:=⟨1,[.tmp 2],.seq (rn [mx 2 kF] [0]) (.seq (rn [mv 3 0,cl 4 264 [3],mv 5 4,jf 6 5 (.mov (.t 0)),jf 7 5 (.call 266 [(.t 6)]),jj 8 (.pick (.t 5) kT (.t 7)),mv 2 8] [2]) (.ret)),false,false,false⟩
def F260:PFun:=⟨2,[],.seq (rn [bx 3 1] [0,3]) (.seq (rn [fa 5 0 3,l1 6 5] [0,3,6]) (.block 0 (.seq (rn [bk 8 .eql 6 1,mv 7 8] [0,3,6,7]) (.cond (.t 7) (.seq (rn [mv 9 0,fa 10 2 3,l1 11 10,jj 12 (.bslice 2 [eN,eN] [(0,1,(.t 11)),(1,1,(.c (.string ⟨#[61]⟩)))]),cl 13 243 [9,12]] [0,3]) (.seq (rn [mv 14 0,la 15 4 3,jj 16 (.call 274 [(.t 15),(kk 0)]),jj 17 (.call 273 [(.t 14),(.t 16),(kk 1)])] [0]) (rn [mv 18 0,jj 19 (.bslice 1 [eN] [(0,1,(.c (.string ⟨#[59]⟩)))]),cl 20 243 [18,19]] []))) (.seq (rn [bk 22 .eql 6 2,mv 21 22] [0,3,6,21]) (.cond (.t 21) (.seq (rn [mv 23 0,fa 24 2 3,l1 25 24,jj 26 (.bslice 2 [eN,eN] [(0,1,(.t 25)),(1,1,(.c (.string ⟨#[91]⟩)))]),cl 27 243 [23,26]] [0,3]) (.seq (rn [mv 28 0,la 29 4 3,jj 30 (.call 274 [(.t 29),(kk 0)]),jj 31 (.call 273 [(.t 28),(.t 30),(kk 1)])] [0,3]) (.seq (rn [mv 32 0,jj 33 (.bslice 2 [eN,eN] [(0,1,(.c (.string ⟨#[93]⟩))),(1,1,(.c (.string ⟨#[61]⟩)))]),cl 34 243 [32,33]] [0,3]) (.seq (rn [mv 35 0,la 36 4 3,jj 37 (.call 274 [(.t 36),(kk 1)]),jj 38 (.call 273 [(.t 35),(.t 37),(kk 1)])] [0]) (rn [mv 39 0,jj 40 (.bslice 1 [eN] [(0,1,(.c (.string ⟨#[59]⟩)))]),cl 41 243 [39,40]] []))))) (.seq (rn [bk 43 .eql 6 3,mv 42 43] [0,3,6,42]) (.cond (.t 42) (.seq (rn [mv 44 0,jj 45 (.bslice 1 [eN] [(0,1,(.c (.string ⟨#[105,102]⟩)))]),cl 46 243 [44,45]] [0,3]) (.seq (rn [mv 47 0,la 48 4 3,jj 49 (.call 274 [(.t 48),(kk 0)]),jj 50 (.call 273 [(.t 47),(.t 49),(kk 1)])] [0,3]) (.seq (rn [mv 51 0,la 52 4 3,jj 53 (.call 274 [(.t 52),(kk 1)]),cl 54 244 [51,53]] [0,3]) (.seq (rn [la 55 4 3,jj 56 (.call 274 [(.t 55),(kk 2)]),jj 4 (.alloc [zN,zN,eN,sN]),st 4 4 56] [0,4]) (.seq (rn [fa 57 3 4,l1 58 57,ls 59 58,bk 60 .gtr 59 0] [0,4,60]) (.cond (.t 60) (.seq (rn [mv 61 0,jj 62 (.bslice 1 [eN] [(0,1,(.c (.string ⟨#[101,108,115,101]⟩)))]),cl 63 243 [61,62]] [0,4]) (rn [mv 64 0,la 65 4 4,cl 66 244 [64,65]] [])) (.skip))))))) (.seq (rn [bk 68 .eql 6 4,mv 67 68] [0,3,6,67]) (.cond (.t 67) (.seq (rn [mv 69 0,jj 70 (.bslice 1 [eN] [(0,1,(.c (.string ⟨#[119,104,105,108,101]⟩)))]),cl 71 243 [69,70]] [0,3]) (.seq (rn [mv 72 0,la 73 4 3,jj 74 (.call 274 [(.t 73),(kk 0)]),jj 75 (.call 273 [(.t 72),(.t 74),(kk 1)])] [0,3]) (rn [mv 76 0,la 77 4 3,jj 78 (.call 274 [(.t 77),(kk 1)]),cl 79 244 [76,78]] []))) (.seq (rn [bk 81 .eql 6 5,mv 80 81] [0,3,6,80]) (.cond (.t 80) (.seq (rn [mv 82 0,jj 83 (.bslice 1 [eN] [(0,1,(.c (.string ⟨#[101,102,102,101,99,116]⟩)))]),cl 84 243 [82,83]] [0,3]) (.seq (rn [mv 85 0,la 86 4 3,jj 87 (.call 274 [(.t 86),(kk 0)]),jj 88 (.call 273 [(.t 85),(.t 87),(kk 1)])] [0,3]) (.seq (rn [mv 89 0,jj 90 (.bslice 1 [eN] [(0,1,(.c (.string ⟨#[44]⟩)))]),cl 91 243 [89,90]] [0,3]) (.seq (rn [mv 92 0,la 93 4 3,jj 94 (.call 274 [(.t 93),(kk 1)]),jj 95 (.call 273 [(.t 92),(.t 94),(kk 1)])] [0]) (rn [mv 96 0,jj 97 (.bslice 1 [eN] [(0,1,(.c (.string ⟨#[59]⟩)))]),cl 98 243 [96,97]] []))))) (.seq (rn [bk 100 .eql 6 6,mv 99 100] [0,99]) (.cond (.t 99) (rn [mv 101 0,jj 102 (.bslice 2 [eN,eN] [(0,1,(.c (.string ⟨#[115,116,111,112]⟩))),(1,1,(.c (.string ⟨#[59]⟩)))]),cl 103 243 [101,102]] []) (.skip))))))))))))))),false,false,false⟩
def F264:PFun:=⟨1,[.tmp 2],.seq (rn [mx 2 kF] [0]) (.seq (rn [mv 3 0,jj 4 (.bin .leq (.c (.int .u8 97)) (.t 3)),mv 5 4,jt 6 5 (.mov (.t 0)),jt 7 5 (.bin .leq (.t 6) (.c (.int .u8 122))),jj 8 (.pick (.t 5) (.t 7) kF),mv 2 8] [2]) (.ret)),false,false,false⟩
@[simp] def F265l0x:PC:=(.seq (.seq (rn [mv 10 5,mv 11 0,nc 12 11,fa 13 0 12,l1 14 13,lz 15 14,bn 16 .lss 10 15,mv 17 16,jt 18 17 (.mov (.t 0)),jt 19 17 (.nilchk (.t 18)),jt 20 17 (.fieldAddr 0 (.t 19)),jt 21 17 (.load false 1 (.t 20)),jt 22 17 (.mov (.t 5)),jt 23 17 (.indexS (.t 21) (.t 22)),jt 24 17 (.call 264 [(.t 23)]),jt 25 17 (.mov (.t 24)),jf 26 25 (.mov (.t 0)),jf 27 25 (.nilchk (.t 26)),jf 28 25 (.fieldAddr 0 (.t 27)),jf 29 25 (.load false 1 (.t 28)),jf 30 25 (.mov (.t 5)),jf 31 25 (.indexS (.t 29) (.t 30)),jf 32 25 (.call 266 [(.t 31)]),jt 33 17 (.pick (.t 25) kT (.t 32)),jj 34 (.pick (.t 17) (.t 33) kF)] [0,1,4,5,34]) (.cond (.t 34) (.skip) (.exit 0))) (.block 1 (rn [mv 35 5,bk 36 .add 35 1,mv 5 36] [0,1,4,5])))
def F265l0:PC:=F265l0x
theorem qfn:run C q F265l0 fr σ = run C q F265l0x fr σ := rfl
def F265:PFun:=⟨2,[.cell 4 true 5],.seq (rn [jj 4 (.alloc [zN,eN,zN,zN,zN])] [0,1,4]) (.seq (rn [mv 9 1,mv 5 9] [0,1,4,5]) (.seq (.block 0 (.loop F265l0)) (.seq (rn [mv 37 0,nc 38 37,fa 39 0 38,l1 40 39,mv 41 1,mv 42 5,jj 43 (.sliceS (.t 40) (some (.t 41)) (some (.t 42))),mv 44 1,jj 45 (.build [zN,eN,zN,zN,zN] [(0,1,(kk 1)),(1,1,(.t 43)),(2,1,(.t 44))]),jj 6 (.alloc [zN,eN,zN,zN,zN]),st 5 6 45] [0,4,6]) (.seq (.seq (.region (some []) [mv 47 0,nc 48 47,fa 49 1 48,l1 50 49,fa 51 1 6,l1 52 51,jj 53 (.lookup .s zN (.t 50) (.t 52) true),mv 46 53,ex 54 46 0,ex 55 46 1,mv 7 54,mv 8 55] [4,6,7,8]) (.seq (rn [mv 56 8] [4,6,7,56]) (.cond (.t 56) (rn [mv 57 7,fa 58 0 6,st 1 58 57] [4,6]) (.seq (rn [fa 59 1 6,l1 60 59,lz 61 60,bk 62 .gtr 61 8] [4,6,62]) (.cond (.t 62) (rn [fa 63 0 6,jn (.store 1 (.t 63) (kk 6)),fa 64 4 6,jn (.store 1 (.t 64) (kk 2))] [4,6]) (.skip)))))) (.seq (rn [la 65 5 6,st 5 4 65] [4]) (.ret)))))),false,false,false⟩
def F266:PFun:=⟨1,[.tmp 2],.seq (rn [mx 2 kF] [0]) (.seq (rn [mv 3 0,jj 4 (.bin .leq (.c (.int .u8 48)) (.t 3)),mv 5 4,jt 6 5 (.mov (.t 0)),jt 7 5 (.bin .leq (.t 6) (.c (.int .u8 57))),jj 8 (.pick (.t 5) (.t 7) kF),mv 2 8] [2]) (.ret)),false,false,false⟩
@[simp] def F267l0x:PC:=(.seq (.seq (rn [mv 9 5,mv 10 0,nc 11 10,fa 12 0 11,l1 13 12,lz 14 13,bn 15 .lss 9 14,mv 16 15,jt 17 16 (.mov (.t 0)),jt 18 16 (.nilchk (.t 17)),jt 19 16 (.fieldAddr 0 (.t 18)),jt 20 16 (.load false 1 (.t 19)),jt 21 16 (.mov (.t 5)),jt 22 16 (.indexS (.t 20) (.t 21)),jt 23 16 (.call 266 [(.t 22)]),jj 24 (.pick (.t 16) (.t 23) kF)] [0,1,4,5,6,24]) (.cond (.t 24) (.skip) (.exit 0))) (.block 1 (.seq (rn [mv 25 6,jj 26 (.bin .mul (kk 10) (.t 25)),mv 27 0,nc 28 27,fa 29 0 28,l1 30 29,mv 31 5,jj 32 (.indexS (.t 30) (.t 31)),jj 33 (.bin .sub (.t 32) (.c (.int .u8 48))),jj 34 (.conv (.int .i64) (.t 33)),bn 35 .add 26 34,jj 36 (.min [(.t 35),(kk 2147483648)]),mv 6 36] [0,1,4,5,6]) (rn [mv 37 5,bk 38 .add 37 1,mv 5 38] [0,1,4,5,6]))))
def F267l0:PC:=F267l0x
theorem qgP:run C q F267l0 fr σ = run C q F267l0x fr σ := rfl
def F267:PFun:=⟨2,[.cell 4 true 5],.seq (rn [jj 4 (.alloc [zN,eN,zN,zN,zN])] [0,1,4]) (.seq (rn [mv 8 1,mv 5 8,mx 6 (kk 0)] [0,1,4,5,6]) (.seq (.block 0 (.loop F267l0)) (.seq (rn [mv 39 0,nc 40 39,fa 41 0 40,l1 42 41,mv 43 1,mv 44 5,jj 45 (.sliceS (.t 42) (some (.t 43)) (some (.t 44))),mv 46 1,mv 47 6,jj 48 (.build [zN,eN,zN,zN,zN] [(0,1,(kk 4)),(1,1,(.t 45)),(2,1,(.t 46)),(3,1,(.t 47))]),jj 7 (.alloc [zN,eN,zN,zN,zN]),st 5 7 48] [4,6,7]) (.seq (.seq (rn [mv 49 6,bk 50 .gtr 49 2147483647] [4,7,50]) (.cond (.t 50) (rn [fa 51 0 7,jn (.store 1 (.t 51) (kk 6)),fa 52 4 7,jn (.store 1 (.t 52) (kk 6))] [4,7]) (.skip))) (.seq (rn [la 53 5 7,st 5 4 53] [4]) (.ret)))))),false,false,false⟩
def F269:PFun:=⟨2,[.tmp 4],.seq (rn [mx 4 kF] [0,1]) (.seq (rn [mv 6 0,cl 7 252 [6],jj 5 (.alloc [zN,eN,zN,zN,zN]),st 5 5 7] [1,5]) (.seq (rn [fa 8 0 5,l1 9 8,bk 10 .neq 9 0,mv 11 10,jt 12 11 (.mov (.t 1)),jt 13 11 (.fieldAddr 1 (.t 5)),jt 14 11 (.load false 1 (.t 13)),jt 15 11 (.call 276 [(.t 12),(.t 14)]),jj 16 (.pick (.t 11) (.t 15) kF),mv 4 16] [4]) (.ret))),false,false,false⟩
def F270:PFun:=⟨3,[],.seq (.seq (rn [mv 6 0,mv 7 1,jj 8 (.bslice 1 [eN] [(0,1,(.t 7))]),cl 9 269 [6,8],mv 10 9,jt 11 10 (.mov (.t 2)),jt 12 10 (.bin .gtr (.t 11) (kk 20)),jj 13 (.pick (.t 10) (.t 12) kF)] [0,1,13]) (.cond (.t 13) (rn [mv 14 0,mv 15 0,cl 16 252 [15],jj 17 (.call 255 [(.t 14),(.t 16),(kk 2)])] [0,1]) (.skip))) (rn [mv 18 0,mv 19 1,cl 20 253 [18,19]] []),false,false,false⟩
def F271:PFun:=⟨2,[.cell 4 true 4],.seq (rn [jj 4 (.alloc [zN,zN,eN,sN])] [0,1,4]) (.seq (rn [mv 9 0,cl 10 252 [9],jj 5 (.alloc [zN,eN,zN,zN,zN]),st 5 5 10] [0,1,4,5]) (.seq (.block 0 (.seq (rn [fa 12 0 5,l1 13 12,bk 14 .eql 13 1,mv 11 14] [0,1,4,5,11]) (.cond (.t 11) (.seq (rn [mv 15 0,cl 16 277 [15]] [0,1,4,5]) (.seq (rn [mv 17 0,jj 18 (.call 253 [(.t 17),(.c (.string ⟨#[61]⟩))])] [0,1,4,5]) (.seq (.region (some []) [mv 19 0,fa 20 1 5,⟨some 21,.load false 1 (.t 20),none,[5]⟩,mv 22 0,mv 23 1,cl 24 279 [22,23],jj 25 (.bslice 1 [zN,zN,eN,sN] [(0,4,(.t 24))]),jj 26 (.build [zN,zN,eN,sN] [(0,1,(kk 1)),(2,1,(.t 21)),(3,1,(.t 25))]),cl 27 278 [19,26],st 4 4 27] [4] [5,8]) (.ret)))) (.seq (rn [fa 29 0 5,l1 30 29,bk 31 .eql 30 3,mv 28 31] [0,1,4,5,28]) (.cond (.t 28) (.seq (rn [mv 32 0,mv 33 1,cl 34 280 [32,33],jj 6 (.alloc [zN,zN,eN,sN]),st 4 6 34] [0,1,4,5,6]) (.seq (rn [mv 35 0,jj 36 (.call 253 [(.t 35),(.c (.string ⟨#[61]⟩))])] [0,1,4,5,6]) (.seq (.region (some []) [mv 37 0,fa 38 1 5,⟨some 39,.load false 1 (.t 38),none,[6]⟩,⟨some 40,.load true 4 (.t 6),none,[6]⟩,mv 41 0,mv 42 1,cl 43 279 [41,42],jj 44 (.bslice 2 [zN,zN,eN,sN,zN,zN,eN,sN] [(0,4,(.t 40)),(4,4,(.t 43))]),jj 45 (.build [zN,zN,eN,sN] [(0,1,(kk 2)),(2,1,(.t 39)),(3,1,(.t 44))]),cl 46 278 [37,45],st 4 4 46] [4] [6,9]) (.ret)))) (.seq (rn [mv 48 0,jj 49 (.bslice 1 [eN] [(0,1,(.c (.string ⟨#[105,102]⟩)))]),cl 50 269 [48,49],mv 47 50] [0,1,4,5,47]) (.cond (.t 47) (.seq (rn [mv 51 0,mv 52 1,cl 53 281 [51,52],st 4 4 53] [4]) (.ret)) (.seq (rn [mv 55 0,jj 56 (.bslice 1 [eN] [(0,1,(.c (.string ⟨#[119,104,105,108,101]⟩)))]),cl 57 269 [55,56],mv 54 57] [0,1,4,5,54]) (.cond (.t 54) (.seq (rn [mv 58 0,cl 59 277 [58]] [0,1,4]) (.seq (rn [mv 60 0,mv 61 1,cl 62 279 [60,61],jj 7 (.alloc [zN,zN,eN,sN]),st 4 7 62] [0,1,4,7]) (.seq (.region (some []) [⟨some 63,.load true 4 (.t 7),none,[4]⟩,mv 64 0,mv 65 1,bk 66 .add 65 1,cl 67 256 [64,66],jj 68 (.bslice 2 [zN,zN,eN,sN,zN,zN,eN,sN] [(0,4,(.t 63)),(4,4,(.t 67))]),jj 69 (.build [zN,zN,eN,sN] [(0,1,(kk 4)),(3,1,(.t 68))]),st 4 4 69] [4] [4]) (.ret)))) (.seq (rn [mv 71 0,jj 72 (.bslice 1 [eN] [(0,1,(.c (.string ⟨#[101,102,102,101,99,116]⟩)))]),cl 73 269 [71,72],mv 70 73] [0,1,4,5,70]) (.cond (.t 70) (.seq (rn [mv 74 0,cl 75 277 [74]] [0,1,4]) (.seq (rn [mv 76 0,mv 77 1,cl 78 279 [76,77],jj 8 (.alloc [zN,zN,eN,sN]),st 4 8 78] [0,1,4,8]) (.seq (rn [mv 79 0,jj 80 (.call 253 [(.t 79),(.c (.string ⟨#[44]⟩))])] [0,1,4,8]) (.seq (.region (some []) [mv 81 0,⟨some 82,.load true 4 (.t 8),none,[4]⟩,mv 83 0,mv 84 1,cl 85 279 [83,84],jj 86 (.bslice 2 [zN,zN,eN,sN,zN,zN,eN,sN] [(0,4,(.t 82)),(4,4,(.t 85))]),jj 87 (.build [zN,zN,eN,sN] [(0,1,(kk 5)),(3,1,(.t 86))]),cl 88 278 [81,87],st 4 4 88] [4] [4,7]) (.ret))))) (.seq (rn [mv 90 0,jj 91 (.bslice 1 [eN] [(0,1,(.c (.string ⟨#[115,116,111,112]⟩)))]),cl 92 269 [90,91],mv 89 92] [0,4,5,89]) (.cond (.t 89) (.seq (rn [mv 93 0,cl 94 277 [93]] [0,4]) (.seq (rn [mv 95 0,jj 96 (.build [zN,zN,eN,sN] [(0,1,(kk 6))]),cl 97 278 [95,96],st 4 4 97] [4]) (.ret))) (.skip)))))))))))))) (.seq (rn [mv 98 0,la 99 5 5,jj 100 (.call 255 [(.t 98),(.t 99),(kk 12)])] [4]) (.seq (rn [jj 101 (.build [zN,zN,eN,sN] []),st 4 4 101] [4]) (.ret))))),false,false,false⟩
def F273:PFun:=⟨3,[],.seq (rn [bx 4 1] [1000000,0,2,4]) (.seq (rn [la 8 4 4,cl 9 282 [8],mv 6 9] [1000000,0,2,4,6]) (.seq (.seq (rn [mv 10 6,mv 11 2,bn 12 .lss 10 11] [1000000,0,4,6,12]) (.cond (.t 12) (.seq (rn [mv 13 0,jj 14 (.bslice 1 [eN] [(0,1,(.c (.string ⟨#[40]⟩)))]),cl 15 243 [13,14]] [1000000,0,4,6]) (rn [mv 16 0,jj 17 (.bslice 1 [eN] [(0,1,(.c (.string ⟨#[41]⟩)))]),jj 1000000 (.defer (.f 243) [(.t 16),(.t 17)])] [1000000,0,4,6])) (.skip))) (.seq (rn [fa 18 0 4,l1 19 18] [1000000,0,4,6,19]) (.block 0 (.seq (rn [bk 21 .eql 19 8,mv 20 21] [1000000,0,4,6,19,20]) (.cond (.t 20) (rn [mv 22 0,fa 23 1 4,l1 24 23,cl 25 283 [24],jj 26 (.bslice 1 [eN] [(0,1,(.t 25))]),cl 27 243 [22,26]] [1000000]) (.seq (rn [bk 29 .eql 19 9,mv 28 29] [1000000,0,4,6,19,28]) (.cond (.t 28) (.seq (rn [fa 30 1 4,l1 31 30,bk 32 .eql 31 0] [1000000,0,32]) (.cond (.t 32) (rn [mv 33 0,jj 34 (.bslice 1 [eN] [(0,1,(.c (.string ⟨#[102,97,108,115,101]⟩)))]),cl 35 243 [33,34]] [1000000]) (rn [mv 36 0,jj 37 (.bslice 1 [eN] [(0,1,(.c (.string ⟨#[116,114,117,101]⟩)))]),cl 38 243 [36,37]] [1000000]))) (.seq (.seq (rn [bk 40 .eql 19 10,mv 39 40] [1000000,0,4,6,19,39]) (.cond (.t 39) (.skip) (rn [bk 41 .eql 19 12,mv 39 41] [1000000,0,4,6,19,39]))) (.cond (.t 39) (rn [mv 42 0,fa 43 2 4,l1 44 43,jj 45 (.bslice 1 [eN] [(0,1,(.t 44))]),cl 46 243 [42,45]] [1000000]) (.seq (rn [bk 48 .eql 19 11,mv 47 48] [1000000,0,4,6,19,47]) (.cond (.t 47) (.seq (rn [mv 49 0,fa 50 2 4,l1 51 50,jj 52 (.bslice 2 [eN,eN] [(0,1,(.t 51)),(1,1,(.c (.string ⟨#[91]⟩)))]),cl 53 243 [49,52]] [1000000,0,4]) (.seq (rn [mv 54 0,la 55 4 4,jj 56 (.call 274 [(.t 55),(kk 0)]),jj 57 (.call 273 [(.t 54),(.t 56),(kk 1)])] [1000000,0]) (rn [mv 58 0,jj 59 (.bslice 1 [eN] [(0,1,(.c (.string ⟨#[93]⟩)))]),cl 60 243 [58,59]] [1000000]))) (.seq (rn [bk 62 .eql 19 13,mv 61 62] [1000000,0,4,6,19,61]) (.cond (.t 61) (.seq (rn [mv 63 0,fa 64 2 4,l1 65 64,jj 66 (.bslice 1 [eN] [(0,1,(.t 65))]),cl 67 243 [63,66]] [1000000,0,4,6]) (rn [mv 68 0,la 69 4 4,jj 70 (.call 274 [(.t 69),(kk 0)]),mv 71 6,cl 72 273 [68,70,71]] [1000000])) (.seq (rn [bk 74 .eql 19 14,mv 73 74] [1000000,0,4,6,73]) (.cond (.t 73) (.seq (rn [mv 75 6,mv 7 75] [1000000,0,4,6,7]) (.seq (.seq (rn [mv 76 6,bk 77 .eql 76 4] [1000000,0,4,6,7,77]) (.cond (.t 77) (rn [mx 7 (kk 5)] [1000000,0,4,6,7]) (.skip))) (.seq (rn [mv 78 0,la 79 4 4,jj 80 (.call 274 [(.t 79),(kk 0)]),mv 81 7,cl 82 273 [78,80,81]] [1000000,0,4,6]) (.seq (rn [mv 83 0,fa 84 2 4,l1 85 84,jj 86 (.bslice 1 [eN] [(0,1,(.t 85))]),cl 87 243 [83,86]] [1000000,0,4,6]) (rn [mv 88 0,la 89 4 4,jj 90 (.call 274 [(.t 89),(kk 1)]),mv 91 6,bk 92 .add 91 1,cl 93 273 [88,90,92]] [1000000]))))) (.skip))))))))))))))))),false,true,false⟩
def F274:PFun:=⟨2,[.cell 4 true 4],.seq (rn [bx 2 0,jj 4 (.alloc [zN,zN,eN,sN])] [1,2,4]) (.seq (.seq (rn [mv 5 1,fa 6 3 2,l1 7 6,ls 8 7,bn 9 .lss 5 8] [1,2,4,9]) (.cond (.t 9) (.seq (rn [fa 10 3 2,l1 11 10,mv 12 1,jj 13 (.indexAddr 4 (.t 11) (.t 12)),la 14 4 13,st 4 4 14] [4]) (.ret)) (.skip))) (.seq (rn [jj 15 (.build [zN,zN,eN,sN] []),st 4 4 15] [4]) (.ret))),false,false,false⟩
def F277:PFun:=⟨1,[.cell 2 true 5],.seq (rn [jj 2 (.alloc [zN,eN,zN,zN,zN])] [0,2]) (.seq (rn [mv 4 0,cl 5 252 [4],jj 3 (.alloc [zN,eN,zN,zN,zN]),st 5 3 5] [0,2,3]) (.seq (rn [mv 6 0,nc 7 6,fa 8 3 7,l1 9 8,bk 10 .add 9 1,nc 11 6,fa 12 3 11,st 1 12 10] [2,3]) (.seq (rn [la 13 5 3,st 5 2 13] [2]) (.ret)))),false,false,false⟩
def F278:PFun:=⟨2,[.cell 4 true 4],.seq (rn [bx 3 1,jj 4 (.alloc [zN,zN,eN,sN])] [0,3,4]) (.seq (rn [mv 5 0,jj 6 (.call 253 [(.t 5),(.c (.string ⟨#[59]⟩))])] [3,4]) (.seq (rn [la 7 4 3,st 4 4 7] [4]) (.ret))),false,false,false⟩
def F279:PFun:=⟨2,[.cell 4 true 4],.seq (rn [bx 2 0,bx 3 1,jj 4 (.alloc [zN,zN,eN,sN])] [2,3,4]) (.seq (rn [l1 5 2,jj 6 (.mkfn 286 [] [(.t 2),(.t 3)]),jj 7 (.bslice 1 [eN] [(0,1,(.c (.string ⟨#[124,124]⟩)))]),cl 8 285 [5,6,7],st 4 4 8] [4]) (.ret)),false,false,false⟩
def F280:PFun:=⟨2,[.cell 4 true 4],.seq (rn [jj 4 (.alloc [zN,zN,eN,sN])] [0,1,4]) (.seq (rn [mv 6 0,cl 7 277 [6]] [0,1,4]) (.seq (rn [mv 8 0,mv 9 1,bk 10 .add 9 1,jj 11 (.call 270 [(.t 8),(.c (.string ⟨#[91]⟩)),(.t 10)])] [0,1,4]) (.seq (rn [mv 12 0,mv 13 1,bk 14 .add 13 1,cl 15 279 [12,14],jj 5 (.alloc [zN,zN,eN,sN]),st 4 5 15] [0,4,5]) (.seq (rn [mv 16 0,jj 17 (.call 253 [(.t 16),(.c (.string ⟨#[93]⟩))])] [4,5]) (.seq (rn [la 18 4 5,st 4 4 18] [4]) (.ret)))))),false,false,false⟩
def F281:PFun:=⟨2,[.cell 4 true 4],.seq (rn [jj 4 (.alloc [zN,zN,eN,sN])] [0,1,4]) (.seq (rn [mv 8 0,jj 9 (.call 253 [(.t 8),(.c (.string ⟨#[105,102]⟩))])] [0,1,4]) (.seq (rn [mv 10 0,mv 11 1,cl 12 279 [10,11],jj 5 (.alloc [zN,zN,eN,sN]),st 4 5 12] [0,1,4,5]) (.seq (rn [mv 13 0,mv 14 1,bk 15 .add 14 1,cl 16 256 [13,15],jj 17 (.build [zN,zN,eN,sN] [(0,1,(kk 7))]),jj 6 (.alloc [zN,zN,eN,sN]),jj 7 (.alloc [zN,zN,eN,sN]),st 4 6 16,st 4 7 17] [0,1,4,5,6,7]) (.seq (.seq (rn [mv 18 0,jj 19 (.bslice 1 [eN] [(0,1,(.c (.string ⟨#[101,108,115,101]⟩)))]),cl 20 269 [18,19]] [0,1,4,5,6,7,20]) (.cond (.t 20) (.seq (rn [mv 21 0,cl 22 277 [21]] [0,1,4,5,6,7]) (rn [mv 23 0,mv 24 1,bk 25 .add 24 1,cl 26 256 [23,25],st 4 7 26] [4,5,6,7])) (.skip))) (.seq (rn [la 27 4 5,la 28 4 6,la 29 4 7,jj 30 (.bslice 3 [zN,zN,eN,sN,zN,zN,eN,sN,zN,zN,eN,sN] [(0,4,(.t 27)),(4,4,(.t 28)),(8,4,(.t 29))]),jj 31 (.build [zN,zN,eN,sN] [(0,1,(kk 3)),(3,1,(.t 30))]),st 4 4 31] [4]) (.ret)))))),false,false,false⟩
def F282:PFun:=⟨1,[.tmp 2],.seq (rn [bx 1 0,mx 2 (kk 0)] [1]) (.seq (.block 0 (.seq (rn [fa 4 0 1,l1 5 4,bk 6 .eql 5 13,mv 7 6,jt 8 7 (.fieldAddr 2 (.t 1)),jt 9 7 (.load false 1 (.t 8)),jt 10 7 (.bin .eql (.t 9) (.c (.string ⟨#[33]⟩))),jj 11 (.pick (.t 7) (.t 10) kF),mv 3 11] [1,3]) (.cond (.t 3) (.seq (rn [mx 2 (kk 3)] [2]) (.ret)) (.seq (rn [fa 13 0 1,l1 14 13,bk 15 .eql 14 13,mv 12 15] [1,12]) (.cond (.t 12) (.seq (rn [mx 2 (kk 7)] [2]) (.ret)) (.seq (rn [fa 17 0 1,l1 18 17,bk 19 .neq 18 14,mv 16 19] [1,16]) (.cond (.t 16) (.seq (rn [mx 2 (kk 8)] [2]) (.ret)) (.skip)))))))) (.seq (.seq (rn [fa 20 2 1,l1 21 20] [21]) (.block 1 (.seq (rn [jj 23 (.bin .eql (.t 21) (.c (.string ⟨#[124,124]⟩))),mv 22 23] [21,22]) (.cond (.t 22) (.seq (rn [mx 2 (kk 1)] [2]) (.ret)) (.seq (rn [jj 25 (.bin .eql (.t 21) (.c (.string ⟨#[38,38]⟩))),mv 24 25] [21,24]) (.cond (.t 24) (.seq (rn [mx 2 (kk 2)] [2]) (.ret)) (.seq (.seq (rn [jj 27 (.bin .eql (.t 21) (.c (.string ⟨#[43]⟩))),mv 26 27] [21,26]) (.cond (.t 26) (.skip) (rn [jj 28 (.bin .eql (.t 21) (.c (.string ⟨#[45]⟩))),mv 26 28] [21,26]))) (.cond (.t 26) (.seq (rn [mx 2 (kk 5)] [2]) (.ret)) (.seq (.seq (rn [jj 30 (.bin .eql (.t 21) (.c (.string ⟨#[42]⟩))),mv 29 30] [21,29]) (.cond (.t 29) (.skip) (rn [jj 31 (.bin .eql (.t 21) (.c (.string ⟨#[47]⟩))),mv 29 31] [29]))) (.cond (.t 29) (.seq (rn [mx 2 (kk 6)] [2]) (.ret)) (.skip))))))))))) (.seq (rn [mx 2 (kk 4)] [2]) (.ret)))),false,false,false⟩
@[simp] def F285l0x:PC:=(.seq (.seq (rn [mv 11 0,mv 12 2,cl 13 269 [11,12]] [0,1,2,6,7,13]) (.cond (.t 13) (.skip) (.exit 0))) (.block 1 (.seq (rn [mv 14 0,cl 15 277 [14],jj 16 (.field false 1 1 (.t 15)),mv 8 16] [0,1,2,6,7,8]) (.region (some []) [mv 17 8,⟨some 18,.load true 4 (.t 7),none,[3]⟩,mv 19 1,jj 20 (.callv (.t 19) []),jj 21 (.bslice 2 [zN,zN,eN,sN,zN,zN,eN,sN] [(0,4,(.t 18)),(4,4,(.t 20))]),jj 22 (.build [zN,zN,eN,sN] [(0,1,(kk 14)),(2,1,(.t 17)),(3,1,(.t 21))]),st 4 7 22] [0,1,2,6,7] [3]))))
def F285l0:PC:=F285l0x
theorem qfo:run C q F285l0 fr σ = run C q F285l0x fr σ := rfl
def F285:PFun:=⟨3,[.cell 6 true 4],.seq (rn [jj 6 (.alloc [zN,zN,eN,sN])] [0,1,2,6]) (.seq (rn [mv 9 1,jj 10 (.callv (.t 9) []),jj 7 (.alloc [zN,zN,eN,sN]),st 4 7 10] [0,1,2,6,7]) (.seq (.block 0 (.loop F285l0)) (.seq (rn [la 23 4 7,st 4 6 23] [6]) (.ret)))),false,false,false⟩
def F286:PFun:=⟨2,[.cell 2 true 4],.seq (rn [jj 2 (.alloc [zN,zN,eN,sN])] [0,1,2]) (.seq (rn [l1 3 0,l1 4 1,cl 5 287 [3,4],st 4 2 5] [2]) (.ret)),false,false,false⟩
def F287:PFun:=⟨2,[.cell 4 true 4],.seq (rn [bx 2 0,bx 3 1,jj 4 (.alloc [zN,zN,eN,sN])] [2,3,4]) (.seq (rn [l1 5 2,jj 6 (.mkfn 289 [] [(.t 2),(.t 3)]),jj 7 (.bslice 1 [eN] [(0,1,(.c (.string ⟨#[38,38]⟩)))]),cl 8 285 [5,6,7],st 4 4 8] [4]) (.ret)),false,false,false⟩
def F289:PFun:=⟨2,[.cell 2 true 4],.seq (rn [jj 2 (.alloc [zN,zN,eN,sN])] [0,1,2]) (.seq (rn [l1 3 0,l1 4 1,cl 5 290 [3,4],st 4 2 5] [2]) (.ret)),false,false,false⟩
def F290:PFun:=⟨2,[.cell 4 true 4],.seq (rn [jj 4 (.alloc [zN,zN,eN,sN])] [0,1,4]) (.seq (.seq (rn [mv 5 0,jj 6 (.bslice 1 [eN] [(0,1,(.c (.string ⟨#[33]⟩)))]),cl 7 269 [5,6]] [0,1,4,7]) (.cond (.t 7) (.seq (rn [mv 8 0,mv 9 1,bk 10 .add 9 1,jj 11 (.call 270 [(.t 8),(.c (.string ⟨#[33]⟩)),(.t 10)])] [0,1,4]) (.seq (rn [mv 12 0,mv 13 1,bk 14 .add 13 1,cl 15 290 [12,14],jj 16 (.bslice 1 [zN,zN,eN,sN] [(0,4,(.t 15))]),jj 17 (.build [zN,zN,eN,sN] [(0,1,(kk 13)),(2,1,(.c (.string ⟨#[33]⟩))),(3,1,(.t 16))]),st 4 4 17] [4]) (.ret))) (.skip))) (.seq (rn [mv 18 0,mv 19 1,cl 20 292 [18,19],st 4 4 20] [4]) (.ret))),false,false,false⟩
def F292:PFun:=⟨2,[.cell 4 true 4],.seq (rn [jj 4 (.alloc [zN,zN,eN,sN])] [0,1,4]) (.seq (rn [mv 7 0,mv 8 1,cl 9 297 [7,8],jj 5 (.alloc [zN,zN,eN,sN]),st 4 5 9] [0,1,4,5]) (.seq (.seq (rn [mv 10 0,jj 11 (.bslice 6 [eN,eN,eN,eN,eN,eN] [(0,1,(.c (.string ⟨#[60]⟩))),(1,1,(.c (.string ⟨#[60,61]⟩))),(2,1,(.c (.string ⟨#[62]⟩))),(3,1,(.c (.string ⟨#[62,61]⟩))),(4,1,(.c (.string ⟨#[61,61]⟩))),(5,1,(.c (.string ⟨#[33,61]⟩)))]),cl 12 269 [10,11],jj 13 (.un .not (.t 12))] [0,1,4,5,13]) (.cond (.t 13) (.seq (rn [la 14 4 5,st 4 4 14] [4]) (.ret)) (.skip))) (.seq (rn [mv 15 0,cl 16 277 [15],jj 17 (.field false 1 1 (.t 16)),mv 6 17] [0,1,4,5,6]) (.seq (.region (some []) [mv 18 6,⟨some 19,.load true 4 (.t 5),none,[4]⟩,mv 20 0,mv 21 1,cl 22 297 [20,21],jj 23 (.bslice 2 [zN,zN,eN,sN,zN,zN,eN,sN] [(0,4,(.t 19)),(4,4,(.t 22))]),jj 24 (.build [zN,zN,eN,sN] [(0,1,(kk 14)),(2,1,(.t 18)),(3,1,(.t 23))]),st 4 4 24] [4] [4]) (.ret))))),false,false,false⟩
def F297:PFun:=⟨2,[.cell 4 true 4],.seq (rn [bx 2 0,bx 3 1,jj 4 (.alloc [zN,zN,eN,sN])] [2,3,4]) (.seq (rn [l1 5 2,jj 6 (.mkfn 303 [] [(.t 2),(.t 3)]),jj 7 (.bslice 2 [eN,eN] [(0,1,(.c (.string ⟨#[43]⟩))),(1,1,(.c (.string ⟨#[45]⟩)))]),cl 8 285 [5,6,7],st 4 4 8] [4]) (.ret)),false,false,false⟩
def F303:PFun:=⟨2,[.cell 2 true 4],.seq (rn [jj 2 (.alloc [zN,zN,eN,sN])] [0,1,2]) (.seq (rn [l1 3 0,l1 4 1,cl 5 304 [3,4],st 4 2 5] [2]) (.ret)),false,false,false⟩
def F304:PFun:=⟨2,[.cell 4 true 4],.seq (rn [bx 2 0,bx 3 1,jj 4 (.alloc [zN,zN,eN,sN])] [2,3,4]) (.seq (rn [l1 5 2,jj 6 (.mkfn 307 [] [(.t 2),(.t 3)]),jj 7 (.bslice 2 [eN,eN] [(0,1,(.c (.string ⟨#[42]⟩))),(1,1,(.c (.string ⟨#[47]⟩)))]),cl 8 285 [5,6,7],st 4 4 8] [4]) (.ret)),false,false,false⟩
def F307:PFun:=⟨2,[.cell 2 true 4],.seq (rn [jj 2 (.alloc [zN,zN,eN,sN])] [0,1,2]) (.seq (rn [l1 3 0,l1 4 1,cl 5 308 [3,4],st 4 2 5] [2]) (.ret)),false,false,false⟩
def F308:PFun:=⟨2,[.cell 4 true 4],.seq (rn [jj 4 (.alloc [zN,zN,eN,sN])] [0,1,4]) (.seq (.seq (rn [mv 5 0,jj 6 (.bslice 1 [eN] [(0,1,(.c (.string ⟨#[45]⟩)))]),cl 7 269 [5,6]] [0,1,4,7]) (.cond (.t 7) (.seq (rn [mv 8 0,mv 9 1,bk 10 .add 9 1,jj 11 (.call 270 [(.t 8),(.c (.string ⟨#[45]⟩)),(.t 10)])] [0,1,4]) (.seq (rn [mv 12 0,mv 13 1,bk 14 .add 13 1,cl 15 308 [12,14],jj 16 (.bslice 1 [zN,zN,eN,sN] [(0,4,(.t 15))]),jj 17 (.build [zN,zN,eN,sN] [(0,1,(kk 13)),(2,1,(.c (.string ⟨#[45]⟩))),(3,1,(.t 16))]),st 4 4 17] [4]) (.ret))) (.skip))) (.seq (rn [mv 18 0,mv 19 1,cl 20 309 [18,19],st 4 4 20] [4]) (.ret))),false,false,false⟩
def F309:PFun:=⟨2,[.cell 4 true 4],.seq (rn [jj 4 (.alloc [zN,zN,eN,sN])] [0,1,4]) (.seq (rn [mv 7 0,cl 8 252 [7],jj 5 (.alloc [zN,eN,zN,zN,zN]),st 5 5 8] [0,1,4,5]) (.seq (.block 0 (.seq (rn [fa 10 0 5,l1 11 10,bk 12 .eql 11 4,mv 9 12] [0,1,4,5,9]) (.cond (.t 9) (.seq (rn [mv 13 0,cl 14 277 [13]] [4,5]) (.seq (rn [fa 15 3 5,l1 16 15,jj 17 (.build [zN,zN,eN,sN] [(0,1,(kk 8)),(1,1,(.t 16))]),st 4 4 17] [4]) (.ret))) (.seq (rn [fa 19 0 5,l1 20 19,bk 21 .eql 20 1,mv 18 21] [0,1,4,5,18]) (.cond (.t 18) (.seq (rn [mv 22 0,cl 23 277 [22]] [4,5]) (.seq (rn [fa 24 1 5,l1 25 24,jj 26 (.build [zN,zN,eN,sN] [(0,1,(kk 10)),(2,1,(.t 25))]),st 4 4 26] [4]) (.ret))) (.seq (rn [fa 28 0 5,l1 29 28,bk 30 .eql 29 3,mv 27 30] [0,1,4,5,27]) (.cond (.t 27) (.seq (.region (some []) [fa 31 1 5,⟨some 32,.load false 1 (.t 31),none,[4]⟩,mv 33 0,mv 34 1,cl 35 280 [33,34],jj 36 (.bslice 1 [zN,zN,eN,sN] [(0,4,(.t 35))]),jj 37 (.build [zN,zN,eN,sN] [(0,1,(kk 11)),(2,1,(.t 32)),(3,1,(.t 36))]),st 4 4 37] [4] [4]) (.ret)) (.seq (rn [mv 39 0,jj 40 (.bslice 1 [eN] [(0,1,(.c (.string ⟨#[116,114,117,101]⟩)))]),cl 41 269 [39,40],mv 38 41] [0,1,4,5,38]) (.cond (.t 38) (.seq (rn [mv 42 0,cl 43 277 [42]] [4]) (.seq (rn [jj 44 (.build [zN,zN,eN,sN] [(0,1,(kk 9)),(1,1,(kk 1))]),st 4 4 44] [4]) (.ret))) (.seq (rn [mv 46 0,jj 47 (.bslice 1 [eN] [(0,1,(.c (.string ⟨#[102,97,108,115,101]⟩)))]),cl 48 269 [46,47],mv 45 48] [0,1,4,5,45]) (.cond (.t 45) (.seq (rn [mv 49 0,cl 50 277 [49]] [4]) (.seq (rn [jj 51 (.build [zN,zN,eN,sN] [(0,1,(kk 9))]),st 4 4 51] [4]) (.ret))) (.seq (rn [mv 53 0,jj 54 (.bslice 3 [eN,eN,eN] [(0,1,(.c (.string ⟨#[115,101,108,102]⟩))),(1,1,(.c (.string ⟨#[111,116,104,101,114]⟩))),(2,1,(.c (.string ⟨#[116,105,99,107]⟩)))]),cl 55 269 [53,54],mv 52 55] [0,1,4,5,52]) (.cond (.t 52) (.seq (rn [mv 56 0,cl 57 277 [56]] [4,5]) (.seq (rn [fa 58 1 5,l1 59 58,jj 60 (.build [zN,zN,eN,sN] [(0,1,(kk 12)),(2,1,(.t 59))]),st 4 4 60] [4]) (.ret))) (.skip)))))))))))))) (.seq (rn [mv 61 0,mv 62 1,bk 63 .add 62 1,jj 64 (.call 270 [(.t 61),(.c (.string ⟨#[40]⟩)),(.t 63)])] [0,1,4]) (.seq (rn [mv 65 0,mv 66 1,bk 67 .add 66 1,cl 68 279 [65,67],jj 6 (.alloc [zN,zN,eN,sN]),st 4 6 68] [0,4,6]) (.seq (rn [mv 69 0,jj 70 (.call 253 [(.t 69),(.c (.string ⟨#[41]⟩))])] [4,6]) (.seq (rn [la 71 4 6,st 4 4 71] [4]) (.ret))))))),false,false,false⟩
end Go.Pm.F
end
section
namespace Go.Pm.F
variable(C:Task->Option Res)(q:Nat)(fr:Fr)(σ : S)
def G_internal_strconv_uint64pow10:List D:=(List.range 20).map fun i => .lit (.int .u64 (10 ^ i:Nat))
def F245:PFun:=⟨1,[.tmp 2],.seq (rn [jj 2 (.mov (.c (.string ⟨#[]⟩)))] [0]) (.seq (.region (some []) [mv 3 0,nc 4 3,fa 5 1 4,l1 6 5,jj 7 (.usd (.t 6)),mv 8 0,nc 9 8,fa 10 1 9,l1 11 10,ls 12 11,jj 13 (.ustr [3] (.t 7) (.t 12)),mv 2 13] [2]) (.ret)),false,false,false⟩
def F258:PFun:=⟨2,[.tmp 4],.seq (rn [jj 4 (.mov (.c .nilIface))] [0,1]) (.seq (rn [mv 5 0,cl 6 272 [5]] [0,1]) (.seq (rn [mv 7 0,mv 8 0,nc 9 8,fa 10 1 9,l1 11 10,mv 12 1,jj 13 (.bsliceO 1 1 [(.lit (.int .u8 0))] [(0,1,(.t 12))]),jj 14 (.appendT 3 1 1 (.t 11) (.t 13)),nc 15 7,fa 16 1 15,st 1 16 14] []) (.seq (rn [jj 4 (.mov (.c .nilIface))] [4]) (.ret)))),false,false,false⟩
def F259:PFun:=⟨2,[.tmp 4,.tmp 5],.seq (rn [mx 4 (kk 0),jj 5 (.mov (.c .nilIface))] [0,1]) (.seq (rn [mv 6 0,cl 7 272 [6]] [0,1]) (.seq (rn [mv 8 0,mv 9 0,nc 10 9,fa 11 1 10,l1 12 11,mv 13 1,jj 14 (.appendT 3 1 1 (.t 12) (.t 13)),nc 15 8,fa 16 1 15,st 1 16 14] [1]) (.seq (rn [mv 17 1,lz 18 17,mv 4 18,jj 5 (.mov (.c .nilIface))] [4,5]) (.ret)))),false,false,false⟩
def F268:PFun:=⟨2,[.tmp 4],.seq (rn [mx 4 (kk 0)] [0,1]) (.seq (rn [mv 5 0,mv 6 1,cl 7 275 [5,6],mv 4 7] [4]) (.ret)),false,false,false⟩
def F272:PFun:=⟨1,[],.seq (rn [mv 2 0,nc 3 2,fa 4 0 3,l1 5 4,jj 6 (.isnil true false (.t 5))] [0,6]) (.cond (.t 6) (rn [mv 7 0,mv 8 0,jj 9 (.up (.t 8)),mv 10 9,jj 11 (.down [(4,3)] (.t 10)),nc 12 7,fa 13 0 12,st 1 13 11] []) (.seq (rn [mv 14 0,nc 15 14,fa 16 0 15,l1 17 16,mv 18 0,jj 19 (.peq true (.t 17) (.t 18))] [19]) (.cond (.t 19) (.cond (.c .nilIface) (.skip) (.skip)) (.skip)))),false,false,false⟩
def F275:PFun:=⟨2,[.tmp 4],.seq (rn [mx 4 (kk 0)] [0,1]) (.seq (rn [mv 5 0,mv 6 1,jj 7 (.idxb (.t 5) (.t 6)),mv 4 7] [4]) (.ret)),false,false,false⟩
def F276:PFun:=⟨2,[.tmp 4],.seq (rn [mx 4 kF] [0,1]) (.seq (rn [mv 5 0,mv 6 1,cl 7 284 [5,6],bk 8 .geq 7 0,mv 4 8] [4]) (.ret)),false,false,false⟩
def F283:PFun:=⟨1,[.tmp 2],.seq (rn [jj 2 (.mov (.c (.string ⟨#[]⟩)))] [0]) (.seq (rn [mv 3 0,cl 4 288 [3],mv 2 4] [2]) (.ret)),false,false,false⟩
@[simp] def F284l0x:PC:=(.seq (rn [bn 9 .lss 8 7] [0,1,7,8,9]) (.seq (.cond (.t 9) (.skip) (.exit 0)) (.seq (.block 1 (.seq (rn [mv 10 8,mv 5 10] [0,1,5,7,8]) (.seq (rn [mv 11 1,mv 12 0,mv 13 5,jj 14 (.indexAddr 1 (.t 12) (.t 13)),l1 15 14,bn 16 .eql 11 15] [0,1,5,7,8,16]) (.cond (.t 16) (.seq (rn [mv 17 5,mv 4 17] [4]) (.ret)) (.skip))))) (rn [bk 18 .add 8 1,mv 8 18] [0,1,7,8]))))
def F284l0:PC:=F284l0x
theorem qfq:run C q F284l0 fr σ = run C q F284l0x fr σ := rfl
def F284:PFun:=⟨2,[.tmp 4],.seq (rn [mx 4 (kk 0)] [0,1]) (.seq (.seq (rn [mv 6 0,ls 7 6,mx 8 (kk 0)] [0,1,7,8]) (.block 0 (.loop F284l0))) (.seq (rn [mx 4 (kk (-1))] [4]) (.ret))),false,false,false⟩
def F288:PFun:=⟨1,[.tmp 2],.seq (rn [jj 2 (.mov (.c (.string ⟨#[]⟩)))] [0]) (.seq (rn [mv 3 0,jj 4 (.call 291 [(.t 3),(kk 10)]),mv 2 4] [2]) (.ret)),false,false,false⟩
def F291:PFun:=⟨2,[.tmp 4],.seq (rn [jj 4 (.mov (.c (.string ⟨#[]⟩)))] [0,1]) (.seq (.seq (rn [mv 10 1,bk 11 .eql 10 10] [0,1,11]) (.cond (.t 11) (.seq (.seq (rn [mv 12 0,jj 13 (.bin .leq (kk 0) (.t 12)),mv 14 13,jt 15 14 (.mov (.t 0)),jt 16 14 (.bin .lss (.t 15) (kk 100)),jj 17 (.pick (.t 14) (.t 16) kF)] [0,17]) (.cond (.t 17) (.seq (rn [mv 18 0,cl 19 293 [18],mv 4 19] [4]) (.ret)) (.skip))) (.seq (rn [jj 5 (.alloc [(.lit (.int .u8 0)),(.lit (.int .u8 0)),(.lit (.int .u8 0)),(.lit (.int .u8 0)),(.lit (.int .u8 0)),(.lit (.int .u8 0)),(.lit (.int .u8 0)),(.lit (.int .u8 0)),(.lit (.int .u8 0)),(.lit (.int .u8 0)),(.lit (.int .u8 0)),(.lit (.int .u8 0)),(.lit (.int .u8 0)),(.lit (.int .u8 0)),(.lit (.int .u8 0)),(.lit (.int .u8 0)),(.lit (.int .u8 0)),(.lit (.int .u8 0)),(.lit (.int .u8 0)),(.lit (.int .u8 0)),(.lit (.int .u8 0)),(.lit (.int .u8 0)),(.lit (.int .u8 0)),(.lit (.int .u8 0))])] [0,5]) (.seq (rn [mv 20 0,jj 21 (.conv (.int .u64) (.t 20)),mv 6 21] [0,5,6]) (.seq (.seq (rn [mv 22 0,bk 23 .lss 22 0] [0,5,6,23]) (.cond (.t 23) (rn [mv 24 6,jj 25 (.un .neg (.t 24)),mv 6 25] [0,5,6]) (.skip))) (.seq (rn [mv 26 6,cl 27 294 [26],mv 7 27] [0,5,6,7]) (.seq (rn [mv 28 7,jj 29 (.bin .add (kk 1) (.t 28)),jj 30 (.sliceA 24 1 (.t 5) (some (kk 1)) (some (.t 29))),mv 31 6,cl 32 295 [30,31]] [0,5,7]) (.seq (.seq (rn [mv 33 0,bk 34 .lss 33 0] [5,7,34]) (.cond (.t 34) (.seq (rn [jj 35 (.indexAddrA 24 1 (.t 5) (kk 0)),jn (.store 1 (.t 35) (.c (.int .u8 45)))] [5,7]) (.seq (rn [mv 36 7,jj 37 (.bin .add (kk 1) (.t 36)),jj 38 (.sliceA 24 1 (.t 5) none (some (.t 37))),jj 39 (.bstr (.t 38)),mv 4 39] [4]) (.ret))) (.skip))) (.seq (rn [mv 40 7,jj 41 (.bin .add (kk 1) (.t 40)),jj 42 (.sliceA 24 1 (.t 5) (some (kk 1)) (some (.t 41))),jj 43 (.bstr (.t 42)),mv 4 43] [4]) (.ret))))))))) (.skip))) (.seq (rn [mv 45 0,jj 46 (.conv (.int .u64) (.t 45)),mv 47 1,mv 48 0,bk 49 .lss 48 0,jj 50 (.call 296 [(.c (.slice none 0 0)),(.t 46),(.t 47),(.t 49),kF]),mv 44 50,ex 51 44 0,ex 52 44 1,mv 8 51,mv 9 52] [9]) (.seq (rn [mv 53 9,mv 4 53] [4]) (.ret)))),false,false,false⟩
def F293:PFun:=⟨1,[.tmp 2],.seq (rn [jj 2 (.mov (.c (.string ⟨#[]⟩)))] [0]) (.seq (.seq (rn [mv 3 0,bk 4 .lss 3 10] [0,4]) (.cond (.t 4) (.seq (rn [mv 5 0,mv 6 0,bk 7 .add 6 1,jj 8 (.sliceS (.c (.string ⟨#[48,49,50,51,52,53,54,55,56,57,97,98,99,100,101,102,103,104,105,106,107,108,109,110,111,112,113,114,115,116,117,118,119,120,121,122]⟩)) (some (.t 5)) (some (.t 7))),mv 2 8] [2]) (.ret)) (.skip))) (.seq (rn [mv 9 0,bk 10 .mul 9 2,mv 11 0,bk 12 .mul 11 2,bk 13 .add 12 2,jj 14 (.sliceS (.c (.string ⟨#[48,48,48,49,48,50,48,51,48,52,48,53,48,54,48,55,48,56,48,57,49,48,49,49,49,50,49,51,49,52,49,53,49,54,49,55,49,56,49,57,50,48,50,49,50,50,50,51,50,52,50,53,50,54,50,55,50,56,50,57,51,48,51,49,51,50,51,51,51,52,51,53,51,54,51,55,51,56,51,57,52,48,52,49,52,50,52,51,52,52,52,53,52,54,52,55,52,56,52,57,53,48,53,49,53,50,53,51,53,52,53,53,53,54,53,55,53,56,53,57,54,48,54,49,54,50,54,51,54,52,54,53,54,54,54,55,54,56,54,57,55,48,55,49,55,50,55,51,55,52,55,53,55,54,55,55,55,56,55,57,56,48,56,49,56,50,56,51,56,52,56,53,56,54,56,55,56,56,56,57,57,48,57,49,57,50,57,51,57,52,57,53,57,54,57,55,57,56,57,57]⟩)) (some (.t 10)) (some (.t 13))),mv 2 14] [2]) (.ret))),false,false,false⟩
def F294:PFun:=⟨1,[.tmp 2],.seq (rn [mx 2 (kk 0)] [0]) (.seq (rn [mv 4 0,cl 5 299 [4],cl 6 298 [5],mv 3 6] [0,3]) (.seq (rn [mv 7 3,mv 8 0,mv 9 3,jj 10 (.indexAddrA 20 1 (.g G_internal_strconv_uint64pow10) (.t 9)),l1 11 10,bn 12 .geq 8 11,cl 13 300 [12],bn 14 .add 7 13,mv 2 14] [2]) (.ret))),false,false,false⟩
@[simp] def F295l0x:PC:=(.seq (.seq (rn [mv 19 4,bk 20 .geq 19 8] [0,1,4,20]) (.cond (.t 20) (.skip) (.exit 0))) (.block 1 (.seq (rn [mv 21 1,jj 22 (.bin .rem (.t 21) (.c (.int .u64 100000000))),jj 23 (.conv (.int .u32) (.t 22)),mv 5 23] [0,1,4,5]) (.seq (rn [mv 24 1,jj 25 (.bin .quo (.t 24) (.c (.int .u64 100000000))),mv 1 25] [0,1,4,5]) (.seq (rn [mv 26 5,jj 27 (.bin .quo (.t 26) (.c (.int .u32 10000))),mv 28 5,jj 29 (.bin .rem (.t 28) (.c (.int .u32 10000))),mv 6 27,mv 7 29] [0,1,4,6,7]) (.seq (rn [mv 30 7,jj 31 (.bin .quo (.t 30) (.c (.int .u32 100))),jj 32 (.bin .mul (.t 31) (.c (.int .u32 2))),mv 33 7,jj 34 (.bin .rem (.t 33) (.c (.int .u32 100))),jj 35 (.bin .mul (.t 34) (.c (.int .u32 2))),mv 8 32,mv 9 35] [0,1,4,6,8,9]) (.seq (rn [mv 36 6,jj 37 (.bin .quo (.t 36) (.c (.int .u32 100))),jj 38 (.bin .mul (.t 37) (.c (.int .u32 2))),mv 39 6,jj 40 (.bin .rem (.t 39) (.c (.int .u32 100))),jj 41 (.bin .mul (.t 40) (.c (.int .u32 2))),mv 10 38,mv 11 41] [0,1,4,8,9,10,11]) (.seq (.region (some []) [mv 42 0,mv 43 4,bk 44 .sub 43 1,mv 45 0,mv 46 4,bk 47 .sub 46 2,mv 48 9,jj 49 (.bin .add (.t 48) (.c (.int .u32 1))),jj 50 (.indexS (.c (.string ⟨#[48,48,48,49,48,50,48,51,48,52,48,53,48,54,48,55,48,56,48,57,49,48,49,49,49,50,49,51,49,52,49,53,49,54,49,55,49,56,49,57,50,48,50,49,50,50,50,51,50,52,50,53,50,54,50,55,50,56,50,57,51,48,51,49,51,50,51,51,51,52,51,53,51,54,51,55,51,56,51,57,52,48,52,49,52,50,52,51,52,52,52,53,52,54,52,55,52,56,52,57,53,48,53,49,53,50,53,51,53,52,53,53,53,54,53,55,53,56,53,57,54,48,54,49,54,50,54,51,54,52,54,53,54,54,54,55,54,56,54,57,55,48,55,49,55,50,55,51,55,52,55,53,55,54,55,55,55,56,55,57,56,48,56,49,56,50,56,51,56,52,56,53,56,54,56,55,56,56,56,57,57,48,57,49,57,50,57,51,57,52,57,53,57,54,57,55,57,56,57,57]⟩)) (.t 49)),mv 51 9,jj 52 (.indexS (.c (.string ⟨#[48,48,48,49,48,50,48,51,48,52,48,53,48,54,48,55,48,56,48,57,49,48,49,49,49,50,49,51,49,52,49,53,49,54,49,55,49,56,49,57,50,48,50,49,50,50,50,51,50,52,50,53,50,54,50,55,50,56,50,57,51,48,51,49,51,50,51,51,51,52,51,53,51,54,51,55,51,56,51,57,52,48,52,49,52,50,52,51,52,52,52,53,52,54,52,55,52,56,52,57,53,48,53,49,53,50,53,51,53,52,53,53,53,54,53,55,53,56,53,57,54,48,54,49,54,50,54,51,54,52,54,53,54,54,54,55,54,56,54,57,55,48,55,49,55,50,55,51,55,52,55,53,55,54,55,55,55,56,55,57,56,48,56,49,56,50,56,51,56,52,56,53,56,54,56,55,56,56,56,57,57,48,57,49,57,50,57,51,57,52,57,53,57,54,57,55,57,56,57,57]⟩)) (.t 51)),jj 53 (.indexAddr 1 (.t 42) (.t 44)),st 1 53 50,jj 54 (.indexAddr 1 (.t 45) (.t 47)),st 1 54 52] [0,1,4,8,10,11]) (.seq (.region (some []) [mv 55 0,mv 56 4,bk 57 .sub 56 3,mv 58 0,mv 59 4,bk 60 .sub 59 4,mv 61 8,jj 62 (.bin .add (.t 61) (.c (.int .u32 1))),jj 63 (.indexS (.c (.string ⟨#[48,48,48,49,48,50,48,51,48,52,48,53,48,54,48,55,48,56,48,57,49,48,49,49,49,50,49,51,49,52,49,53,49,54,49,55,49,56,49,57,50,48,50,49,50,50,50,51,50,52,50,53,50,54,50,55,50,56,50,57,51,48,51,49,51,50,51,51,51,52,51,53,51,54,51,55,51,56,51,57,52,48,52,49,52,50,52,51,52,52,52,53,52,54,52,55,52,56,52,57,53,48,53,49,53,50,53,51,53,52,53,53,53,54,53,55,53,56,53,57,54,48,54,49,54,50,54,51,54,52,54,53,54,54,54,55,54,56,54,57,55,48,55,49,55,50,55,51,55,52,55,53,55,54,55,55,55,56,55,57,56,48,56,49,56,50,56,51,56,52,56,53,56,54,56,55,56,56,56,57,57,48,57,49,57,50,57,51,57,52,57,53,57,54,57,55,57,56,57,57]⟩)) (.t 62)),mv 64 8,jj 65 (.indexS (.c (.string ⟨#[48,48,48,49,48,50,48,51,48,52,48,53,48,54,48,55,48,56,48,57,49,48,49,49,49,50,49,51,49,52,49,53,49,54,49,55,49,56,49,57,50,48,50,49,50,50,50,51,50,52,50,53,50,54,50,55,50,56,50,57,51,48,51,49,51,50,51,51,51,52,51,53,51,54,51,55,51,56,51,57,52,48,52,49,52,50,52,51,52,52,52,53,52,54,52,55,52,56,52,57,53,48,53,49,53,50,53,51,53,52,53,53,53,54,53,55,53,56,53,57,54,48,54,49,54,50,54,51,54,52,54,53,54,54,54,55,54,56,54,57,55,48,55,49,55,50,55,51,55,52,55,53,55,54,55,55,55,56,55,57,56,48,56,49,56,50,56,51,56,52,56,53,56,54,56,55,56,56,56,57,57,48,57,49,57,50,57,51,57,52,57,53,57,54,57,55,57,56,57,57]⟩)) (.t 64)),jj 66 (.indexAddr 1 (.t 55) (.t 57)),st 1 66 63,jj 67 (.indexAddr 1 (.t 58) (.t 60)),st 1 67 65] [0,1,4,10,11]) (.seq (.region (some []) [mv 68 0,mv 69 4,bk 70 .sub 69 5,mv 71 0,mv 72 4,bk 73 .sub 72 6,mv 74 11,jj 75 (.bin .add (.t 74) (.c (.int .u32 1))),jj 76 (.indexS (.c (.string ⟨#[48,48,48,49,48,50,48,51,48,52,48,53,48,54,48,55,48,56,48,57,49,48,49,49,49,50,49,51,49,52,49,53,49,54,49,55,49,56,49,57,50,48,50,49,50,50,50,51,50,52,50,53,50,54,50,55,50,56,50,57,51,48,51,49,51,50,51,51,51,52,51,53,51,54,51,55,51,56,51,57,52,48,52,49,52,50,52,51,52,52,52,53,52,54,52,55,52,56,52,57,53,48,53,49,53,50,53,51,53,52,53,53,53,54,53,55,53,56,53,57,54,48,54,49,54,50,54,51,54,52,54,53,54,54,54,55,54,56,54,57,55,48,55,49,55,50,55,51,55,52,55,53,55,54,55,55,55,56,55,57,56,48,56,49,56,50,56,51,56,52,56,53,56,54,56,55,56,56,56,57,57,48,57,49,57,50,57,51,57,52,57,53,57,54,57,55,57,56,57,57]⟩)) (.t 75)),mv 77 11,jj 78 (.indexS (.c (.string ⟨#[48,48,48,49,48,50,48,51,48,52,48,53,48,54,48,55,48,56,48,57,49,48,49,49,49,50,49,51,49,52,49,53,49,54,49,55,49,56,49,57,50,48,50,49,50,50,50,51,50,52,50,53,50,54,50,55,50,56,50,57,51,48,51,49,51,50,51,51,51,52,51,53,51,54,51,55,51,56,51,57,52,48,52,49,52,50,52,51,52,52,52,53,52,54,52,55,52,56,52,57,53,48,53,49,53,50,53,51,53,52,53,53,53,54,53,55,53,56,53,57,54,48,54,49,54,50,54,51,54,52,54,53,54,54,54,55,54,56,54,57,55,48,55,49,55,50,55,51,55,52,55,53,55,54,55,55,55,56,55,57,56,48,56,49,56,50,56,51,56,52,56,53,56,54,56,55,56,56,56,57,57,48,57,49,57,50,57,51,57,52,57,53,57,54,57,55,57,56,57,57]⟩)) (.t 77)),jj 79 (.indexAddr 1 (.t 68) (.t 70)),st 1 79 76,jj 80 (.indexAddr 1 (.t 71) (.t 73)),st 1 80 78] [0,1,4,10]) (.seq (.region (some []) [mv 81 0,mv 82 4,bk 83 .sub 82 7,mv 84 0,mv 85 4,bk 86 .sub 85 8,mv 87 10,jj 88 (.bin .add (.t 87) (.c (.int .u32 1))),jj 89 (.indexS (.c (.string ⟨#[48,48,48,49,48,50,48,51,48,52,48,53,48,54,48,55,48,56,48,57,49,48,49,49,49,50,49,51,49,52,49,53,49,54,49,55,49,56,49,57,50,48,50,49,50,50,50,51,50,52,50,53,50,54,50,55,50,56,50,57,51,48,51,49,51,50,51,51,51,52,51,53,51,54,51,55,51,56,51,57,52,48,52,49,52,50,52,51,52,52,52,53,52,54,52,55,52,56,52,57,53,48,53,49,53,50,53,51,53,52,53,53,53,54,53,55,53,56,53,57,54,48,54,49,54,50,54,51,54,52,54,53,54,54,54,55,54,56,54,57,55,48,55,49,55,50,55,51,55,52,55,53,55,54,55,55,55,56,55,57,56,48,56,49,56,50,56,51,56,52,56,53,56,54,56,55,56,56,56,57,57,48,57,49,57,50,57,51,57,52,57,53,57,54,57,55,57,56,57,57]⟩)) (.t 88)),mv 90 10,jj 91 (.indexS (.c (.string ⟨#[48,48,48,49,48,50,48,51,48,52,48,53,48,54,48,55,48,56,48,57,49,48,49,49,49,50,49,51,49,52,49,53,49,54,49,55,49,56,49,57,50,48,50,49,50,50,50,51,50,52,50,53,50,54,50,55,50,56,50,57,51,48,51,49,51,50,51,51,51,52,51,53,51,54,51,55,51,56,51,57,52,48,52,49,52,50,52,51,52,52,52,53,52,54,52,55,52,56,52,57,53,48,53,49,53,50,53,51,53,52,53,53,53,54,53,55,53,56,53,57,54,48,54,49,54,50,54,51,54,52,54,53,54,54,54,55,54,56,54,57,55,48,55,49,55,50,55,51,55,52,55,53,55,54,55,55,55,56,55,57,56,48,56,49,56,50,56,51,56,52,56,53,56,54,56,55,56,56,56,57,57,48,57,49,57,50,57,51,57,52,57,53,57,54,57,55,57,56,57,57]⟩)) (.t 90)),jj 92 (.indexAddr 1 (.t 81) (.t 83)),st 1 92 89,jj 93 (.indexAddr 1 (.t 84) (.t 86)),st 1 93 91] [0,1,4]) (rn [mv 94 4,bk 95 .sub 94 8,mv 4 95] [0,1,4]))))))))))))
def F295l0:PC:=F295l0x
def F295:PFun:=⟨2,[],.seq (rn [mv 17 0,ls 18 17,mv 4 18] [0,1,4]) (.seq (.block 0 (.loop F295l0)) (.seq (rn [mv 96 1,jj 97 (.conv (.int .u32) (.t 96)),mv 12 97] [0,4,12]) (.seq (.seq (rn [mv 98 4,bk 99 .geq 98 4] [0,4,12,99]) (.cond (.t 99) (.seq (rn [mv 100 12,jj 101 (.bin .rem (.t 100) (.c (.int .u32 10000))),mv 13 101] [0,4,12,13]) (.seq (rn [mv 102 12,jj 103 (.bin .quo (.t 102) (.c (.int .u32 10000))),mv 12 103] [0,4,12,13]) (.seq (rn [mv 104 13,jj 105 (.bin .quo (.t 104) (.c (.int .u32 100))),jj 106 (.bin .mul (.t 105) (.c (.int .u32 2))),mv 107 13,jj 108 (.bin .rem (.t 107) (.c (.int .u32 100))),jj 109 (.bin .mul (.t 108) (.c (.int .u32 2))),mv 14 106,mv 15 109] [0,4,12,14,15]) (.seq (.region (some []) [mv 110 0,mv 111 4,bk 112 .sub 111 1,mv 113 0,mv 114 4,bk 115 .sub 114 2,mv 116 15,jj 117 (.bin .add (.t 116) (.c (.int .u32 1))),jj 118 (.indexS (.c (.string ⟨#[48,48,48,49,48,50,48,51,48,52,48,53,48,54,48,55,48,56,48,57,49,48,49,49,49,50,49,51,49,52,49,53,49,54,49,55,49,56,49,57,50,48,50,49,50,50,50,51,50,52,50,53,50,54,50,55,50,56,50,57,51,48,51,49,51,50,51,51,51,52,51,53,51,54,51,55,51,56,51,57,52,48,52,49,52,50,52,51,52,52,52,53,52,54,52,55,52,56,52,57,53,48,53,49,53,50,53,51,53,52,53,53,53,54,53,55,53,56,53,57,54,48,54,49,54,50,54,51,54,52,54,53,54,54,54,55,54,56,54,57,55,48,55,49,55,50,55,51,55,52,55,53,55,54,55,55,55,56,55,57,56,48,56,49,56,50,56,51,56,52,56,53,56,54,56,55,56,56,56,57,57,48,57,49,57,50,57,51,57,52,57,53,57,54,57,55,57,56,57,57]⟩)) (.t 117)),mv 119 15,jj 120 (.indexS (.c (.string ⟨#[48,48,48,49,48,50,48,51,48,52,48,53,48,54,48,55,48,56,48,57,49,48,49,49,49,50,49,51,49,52,49,53,49,54,49,55,49,56,49,57,50,48,50,49,50,50,50,51,50,52,50,53,50,54,50,55,50,56,50,57,51,48,51,49,51,50,51,51,51,52,51,53,51,54,51,55,51,56,51,57,52,48,52,49,52,50,52,51,52,52,52,53,52,54,52,55,52,56,52,57,53,48,53,49,53,50,53,51,53,52,53,53,53,54,53,55,53,56,53,57,54,48,54,49,54,50,54,51,54,52,54,53,54,54,54,55,54,56,54,57,55,48,55,49,55,50,55,51,55,52,55,53,55,54,55,55,55,56,55,57,56,48,56,49,56,50,56,51,56,52,56,53,56,54,56,55,56,56,56,57,57,48,57,49,57,50,57,51,57,52,57,53,57,54,57,55,57,56,57,57]⟩)) (.t 119)),jj 121 (.indexAddr 1 (.t 110) (.t 112)),st 1 121 118,jj 122 (.indexAddr 1 (.t 113) (.t 115)),st 1 122 120] [0,4,12,14]) (.seq (.region (some []) [mv 123 0,mv 124 4,bk 125 .sub 124 3,mv 126 0,mv 127 4,bk 128 .sub 127 4,mv 129 14,jj 130 (.bin .add (.t 129) (.c (.int .u32 1))),jj 131 (.indexS (.c (.string ⟨#[48,48,48,49,48,50,48,51,48,52,48,53,48,54,48,55,48,56,48,57,49,48,49,49,49,50,49,51,49,52,49,53,49,54,49,55,49,56,49,57,50,48,50,49,50,50,50,51,50,52,50,53,50,54,50,55,50,56,50,57,51,48,51,49,51,50,51,51,51,52,51,53,51,54,51,55,51,56,51,57,52,48,52,49,52,50,52,51,52,52,52,53,52,54,52,55,52,56,52,57,53,48,53,49,53,50,53,51,53,52,53,53,53,54,53,55,53,56,53,57,54,48,54,49,54,50,54,51,54,52,54,53,54,54,54,55,54,56,54,57,55,48,55,49,55,50,55,51,55,52,55,53,55,54,55,55,55,56,55,57,56,48,56,49,56,50,56,51,56,52,56,53,56,54,56,55,56,56,56,57,57,48,57,49,57,50,57,51,57,52,57,53,57,54,57,55,57,56,57,57]⟩)) (.t 130)),mv 132 14,jj 133 (.indexS (.c (.string ⟨#[48,48,48,49,48,50,48,51,48,52,48,53,48,54,48,55,48,56,48,57,49,48,49,49,49,50,49,51,49,52,49,53,49,54,49,55,49,56,49,57,50,48,50,49,50,50,50,51,50,52,50,53,50,54,50,55,50,56,50,57,51,48,51,49,51,50,51,51,51,52,51,53,51,54,51,55,51,56,51,57,52,48,52,49,52,50,52,51,52,52,52,53,52,54,52,55,52,56,52,57,53,48,53,49,53,50,53,51,53,52,53,53,53,54,53,55,53,56,53,57,54,48,54,49,54,50,54,51,54,52,54,53,54,54,54,55,54,56,54,57,55,48,55,49,55,50,55,51,55,52,55,53,55,54,55,55,55,56,55,57,56,48,56,49,56,50,56,51,56,52,56,53,56,54,56,55,56,56,56,57,57,48,57,49,57,50,57,51,57,52,57,53,57,54,57,55,57,56,57,57]⟩)) (.t 132)),jj 134 (.indexAddr 1 (.t 123) (.t 125)),st 1 134 131,jj 135 (.indexAddr 1 (.t 126) (.t 128)),st 1 135 133] [0,4,12]) (rn [mv 136 4,bk 137 .sub 136 4,mv 4 137] [0,4,12])))))) (.skip))) (.seq (.seq (rn [mv 138 4,bk 139 .geq 138 2] [0,4,12,139]) (.cond (.t 139) (.seq (rn [mv 140 12,jj 141 (.bin .rem (.t 140) (.c (.int .u32 100))),jj 142 (.bin .mul (.t 141) (.c (.int .u32 2))),mv 16 142] [0,4,12,16]) (.seq (rn [mv 143 12,jj 144 (.bin .quo (.t 143) (.c (.int .u32 100))),mv 12 144] [0,4,12,16]) (.seq (.region (some []) [mv 145 0,mv 146 4,bk 147 .sub 146 1,mv 148 0,mv 149 4,bk 150 .sub 149 2,mv 151 16,jj 152 (.bin .add (.t 151) (.c (.int .u32 1))),jj 153 (.indexS (.c (.string ⟨#[48,48,48,49,48,50,48,51,48,52,48,53,48,54,48,55,48,56,48,57,49,48,49,49,49,50,49,51,49,52,49,53,49,54,49,55,49,56,49,57,50,48,50,49,50,50,50,51,50,52,50,53,50,54,50,55,50,56,50,57,51,48,51,49,51,50,51,51,51,52,51,53,51,54,51,55,51,56,51,57,52,48,52,49,52,50,52,51,52,52,52,53,52,54,52,55,52,56,52,57,53,48,53,49,53,50,53,51,53,52,53,53,53,54,53,55,53,56,53,57,54,48,54,49,54,50,54,51,54,52,54,53,54,54,54,55,54,56,54,57,55,48,55,49,55,50,55,51,55,52,55,53,55,54,55,55,55,56,55,57,56,48,56,49,56,50,56,51,56,52,56,53,56,54,56,55,56,56,56,57,57,48,57,49,57,50,57,51,57,52,57,53,57,54,57,55,57,56,57,57]⟩)) (.t 152)),mv 154 16,jj 155 (.indexS (.c (.string ⟨#[48,48,48,49,48,50,48,51,48,52,48,53,48,54,48,55,48,56,48,57,49,48,49,49,49,50,49,51,49,52,49,53,49,54,49,55,49,56,49,57,50,48,50,49,50,50,50,51,50,52,50,53,50,54,50,55,50,56,50,57,51,48,51,49,51,50,51,51,51,52,51,53,51,54,51,55,51,56,51,57,52,48,52,49,52,50,52,51,52,52,52,53,52,54,52,55,52,56,52,57,53,48,53,49,53,50,53,51,53,52,53,53,53,54,53,55,53,56,53,57,54,48,54,49,54,50,54,51,54,52,54,53,54,54,54,55,54,56,54,57,55,48,55,49,55,50,55,51,55,52,55,53,55,54,55,55,55,56,55,57,56,48,56,49,56,50,56,51,56,52,56,53,56,54,56,55,56,56,56,57,57,48,57,49,57,50,57,51,57,52,57,53,57,54,57,55,57,56,57,57]⟩)) (.t 154)),jj 156 (.indexAddr 1 (.t 145) (.t 147)),st 1 156 153,jj 157 (.indexAddr 1 (.t 148) (.t 150)),st 1 157 155] [0,4,12]) (rn [mv 158 4,bk 159 .sub 158 2,mv 4 159] [0,4,12])))) (.skip))) (.seq (rn [mv 160 4,bk 161 .gtr 160 0] [0,12,161]) (.cond (.t 161) (rn [mv 162 0,mv 163 12,jj 164 (.bin .add (.c (.int .u32 48)) (.t 163)),jj 165 (.conv (.int .u8) (.t 164)),jj 166 (.indexAddr 1 (.t 162) (kk 0)),st 1 166 165] []) (.skip))))))),false,false,false⟩
def F298:PFun:=⟨1,[.tmp 2],.seq (rn [mx 2 (kk 0)] [0]) (.seq (rn [mv 3 0,bk 4 .mul 3 78913,jj 5 (.bin .shr (.t 4) (.c (.int .u64 18))),mv 2 5] [2]) (.ret)),false,false,false⟩
def F299:PFun:=⟨1,[.tmp 2],.seq (rn [mx 2 (kk 0)] [0,2]) (.seq (.seq (rn [mv 3 0,jj 4 (.bin .geq (.t 3) (.c (.int .u64 4294967296)))] [0,2,4]) (.cond (.t 4) (.seq (rn [mv 5 0,jj 6 (.bin .shr (.t 5) (.c (.int .u64 32))),mv 0 6] [0]) (rn [mx 2 (kk 32)] [0,2])) (.skip))) (.seq (.seq (rn [mv 7 0,jj 8 (.bin .geq (.t 7) (.c (.int .u64 65536)))] [0,2,8]) (.cond (.t 8) (.seq (rn [mv 9 0,jj 10 (.bin .shr (.t 9) (.c (.int .u64 16))),mv 0 10] [0,2]) (rn [mv 11 2,bk 12 .add 11 16,mv 2 12] [0,2])) (.skip))) (.seq (.seq (rn [mv 13 0,jj 14 (.bin .geq (.t 13) (.c (.int .u64 256)))] [0,2,14]) (.cond (.t 14) (.seq (rn [mv 15 0,jj 16 (.bin .shr (.t 15) (.c (.int .u64 8))),mv 0 16] [0,2]) (rn [mv 17 2,bk 18 .add 17 8,mv 2 18] [0,2])) (.skip))) (.seq (rn [mv 19 2,mv 20 0,jj 21 (.conv (.int .u8) (.t 20)),jj 22 (.indexS (.c (.string ⟨#[0,1,2,2,3,3,3,3,4,4,4,4,4,4,4,4,5,5,5,5,5,5,5,5,5,5,5,5,5,5,5,5,6,6,6,6,6,6,6,6,6,6,6,6,6,6,6,6,6,6,6,6,6,6,6,6,6,6,6,6,6,6,6,6,7,7,7,7,7,7,7,7,7,7,7,7,7,7,7,7,7,7,7,7,7,7,7,7,7,7,7,7,7,7,7,7,7,7,7,7,7,7,7,7,7,7,7,7,7,7,7,7,7,7,7,7,7,7,7,7,7,7,7,7,7,7,7,7,8,8,8,8,8,8,8,8,8,8,8,8,8,8,8,8,8,8,8,8,8,8,8,8,8,8,8,8,8,8,8,8,8,8,8,8,8,8,8,8,8,8,8,8,8,8,8,8,8,8,8,8,8,8,8,8,8,8,8,8,8,8,8,8,8,8,8,8,8,8,8,8,8,8,8,8,8,8,8,8,8,8,8,8,8,8,8,8,8,8,8,8,8,8,8,8,8,8,8,8,8,8,8,8,8,8,8,8,8,8,8,8,8,8,8,8,8,8,8,8,8,8,8,8,8,8,8,8]⟩)) (.t 21)),jj 23 (.conv (.int .i64) (.t 22)),bn 24 .add 19 23,mv 2 24] [2]) (.ret))))),false,false,false⟩
def F300:PFun:=⟨1,[.tmp 2],.seq (rn [mx 2 (kk 0)] [0]) (.seq (.seq (rn [mv 3 0] [3]) (.cond (.t 3) (.seq (rn [mx 2 (kk 1)] [2]) (.ret)) (.skip))) (.seq (rn [mx 2 (kk 0)] [2]) (.ret))),false,false,false⟩
end Go.Pm.F
end
section
namespace Go.Pm.F
def tQ:Nat->Option PFun
 |231=>some F231
 |243=>some F243
 |244=>some F244
 |245=>some F245
 |257=>some F257
 |258=>some F258
 |259=>some F259
 |260=>some F260
 |264=>some F264
 |266=>some F266
 |272=>some F272
 |273=>some F273
 |274=>some F274
 |282=>some F282
 |283=>some F283
 |288=>some F288
 |291=>some F291
 |293=>some F293
 |294=>some F294
 |295=>some F295
 |298=>some F298
 |299=>some F299
 |300=>some F300
 |_=>none
end Go.Pm.F
end
namespace Go.Pm
section
open F
theorem qqG(c:UInt8):Z tQ (.call 264 [.dat (.lit (.int .u8 c.toNat))] [])=some (.ret (.bool (qaW c)) []):=by
 refine qaa (pf:=F264) rfl rfl ?_
 by_cases h1:(97:Int)<=c.toNat
 ·have h1':97<=c.toNat:=by omega
  by_cases h2:(c.toNat:Int)<=122
  ·have h2':c.toNat<=122:=by omega
   simp[F264,qaW,h1,h1',h2,h2']
  ·have h2' : ¬ c.toNat<=122:=by omega
   simp[F264,qaW,h1,h1',h2,h2']
 ·have h1' : ¬ 97<=c.toNat:=by omega
  simp[F264,qaW,h1,h1']
theorem qso(c:UInt8):Z tQ (.call 266 [.dat (.lit (.int .u8 c.toNat))] [])=some (.ret (.bool (qav c)) []):=by
 refine qaa (pf:=F266) rfl rfl ?_
 by_cases h1:(48:Int)<=c.toNat
 ·have h1':48<=c.toNat:=by omega
  by_cases h2:(c.toNat:Int)<=57
  ·have h2':c.toNat<=57:=by omega
   simp[F266,qav,h1,h1',h2,h2']
  ·have h2' : ¬ c.toNat<=57:=by omega
   simp[F266,qav,h1,h1',h2,h2']
 ·have h1' : ¬ 48<=c.toNat:=by omega
  simp[F266,qav,h1,h1']
theorem qmA(c:UInt8):Z tQ (.call 257 [.dat (.lit (.int .u8 c.toNat))] [])=some (.ret (.bool (qaL c)) []):=by
 have z1:=qqG c
 have z2:=qso c
 refine qaa (pf:=F257) rfl rfl ?_
 unfold qaL
 cases h:qaW c<;>rw[h] at z1<;>simp[F257,z1,z2]
end
section
open F
def vb(w:List UInt8):List V:=w.map fun b => .dat (.lit (.int .u8 b.toNat))
theorem qjp(w:List UInt8):(vb w).length=w.length:=by simp[vb]
theorem qsM(a b:List UInt8):vb a++vb b=vb (a++b):=by simp[vb]
theorem qw7(w:List UInt8):(vb w).all V.one=true:=by
 rw[WA]
 intro x hx
 simp only[vb,Yf] at hx
 obtain⟨b,_,rfl⟩:=hx
 rfl
theorem qfV(w:List UInt8):qaJ (vb w)=[]:=by
 induction w with
 |nil=>rfl
 |cons x w ih=>simpa [vb] using ih
theorem qiu(r:Nat->Nat)(w:List UInt8):qeq r (vb w)=vb w:=by
 induction w with
 |nil=>rfl
 |cons x w ih=>simpa [vb] using ih
theorem qhP(s:ByteArray):(qcH s).map V.dat=vb (byl s):=by
 simp[qcH,vb,byl,List.map_map,Function.comp_def]
theorem qjq(w:List UInt8):qdd (vb w)=some w:=by
 induction w with
 |nil=>rfl
 |cons x w ih=>
  have h:((x.toNat:Int)<256):=by have:=x.toNat_lt; omega
  show qdd (V.dat (.lit (.int .u8 x.toNat))::vb w)=_
  simp[qdd,h,ih]
theorem qw8(w:List UInt8):(∀ x∈vb w,V.one x=true)↔True:=by
 have:=qw7 w
 rw[WA] at this
 exact⟨fun _=>trivial,fun _=>this⟩
theorem qjr(t:ByteArray):(∀ x∈qcH t,V.one (.dat x)=true)↔True:=by
 refine⟨fun _=>trivial,fun _ x hx=>?_⟩
 simp only[qcH,Yf] at hx
 obtain⟨b,_,rfl⟩:=hx
 rfl
abbrev PW'(w:List UInt8)(c:Nat):S:=[.cellsT 4 [.ptr 0 0,.own 1 w.length 1,.dat (.lit (.int .u8 c))],.vecT 3 (vb w)]
abbrev PE:S:=[.cellsT 4 [.dat (.lit (.pointer none)),.dat (.lit (.slice none 0 0)),.dat (.lit (.int .u8 0))]]
attribute [local simp] qfV qiu
theorem qsN(w:List UInt8)(c:Nat):Z tQ (.call 272 [.ptr 0 0] (PW' w c))=some (.ret (.tup []) (PW' w c)):=by
 refine qaa (pf:=F272) rfl rfl ?_
 simp[F272,Wa]
theorem quj:Z tQ (.call 272 [.ptr 0 0] PE)=some (.ret (.tup []) [.cellsT 4 [.ptr 0 0,.dat (.lit (.slice none 0 0)),.dat (.lit (.int .u8 0))]]):=by
 refine qaa (pf:=F272) rfl rfl ?_
 simp[F272,Wa]
theorem quk(w:List UInt8)(c:Nat)(b:UInt8)(h:w.length<2 ^ 40):Z tQ (.call 258 [.ptr 0 0,.dat (.lit (.int .u8 b.toNat))] (PW' w c))=some (.ret (.dat (.lit .nilIface)) (PW' (w++[b]) c)):=by
 have z:=qsN w c
 have hr:qaK (w.length+1) 1=true:=by simp[qaK]; omega
 have hv:vb w++[.dat (.lit (.int .u8 b.toNat))]=vb (w++[b]):=qsM w [b]
 have hl:=qjp w
 refine qaa (pf:=F258) rfl rfl ?_
 simp[F258,z,hr,hv,hl,Wa]
theorem qpF(w:List UInt8)(c:Nat)(t:ByteArray)(h:(w++byl t).length<2 ^ 40)(ht:t.size≠0):Z tQ (.call 259 [.ptr 0 0,.str t] (PW' w c))=some (.ret (.tup [.int t.size,.dat (.lit .nilIface)]) (PW' (w++byl t) c)):=by
 have z:=qsN w c
 have hs:=qaA t
 have hr:qaK (w.length+t.size) 1=true:=by rw[Wc] at h; simp[qaK]; omega
 have hv:vb w++(qcH t).map V.dat=vb (w++byl t):=by rw[qhP,qsM]
 have hl:=qjp w
 have hb:(qcH t).length=t.size:=by rw[<- List.length_map (f:=V.dat),qhP,qjp,hs]
 have ho:=qjr t
 have hn:(w++byl t).length=w.length+t.size:=by rw[Wc,hs]
 have w1:=qah (t.size:Int) (by rw[hn] at h; omega)
 refine qaa (pf:=F259) rfl rfl ?_
 simp[F259,z,hr,hv,hl,hb,ho,hn,ht,hs,V.len,Wa]
theorem qul(t:ByteArray)(h:t.size<2 ^ 40)(ht:t.size≠0):Z tQ (.call 259 [.ptr 0 0,.str t] PE)=some (.ret (.tup [.int t.size,.dat (.lit .nilIface)]) (PW' (byl t) 0)):=by
 have z:=quj
 have hs:=qaA t
 have hr:qaK t.size 1=true:=by simp[qaK]; omega
 have hb:(qcH t).length=t.size:=by rw[<- List.length_map (f:=V.dat),qhP,qjp,hs]
 have ho:=qjr t
 have hv:(qcH t).map V.dat=vb (byl t):=by rw[qhP]
 refine qaa (pf:=F259) rfl rfl ?_
 simp[F259,z,hr,hb,ho,ht,hs,hv,qjp,qw8,V.len,Wa]
end
section
open F
def qeh(w:List UInt8):UInt8:=(w.getLast?).getD 0
def wl(w:List UInt8):Bool:=qaL (qeh w)
def pw(w:List UInt8)(ts:List ByteArray):List UInt8:=w++qfI (wl w) ts
abbrev PW(w:List UInt8):S:=PW' w (qeh w).toNat
theorem qsO:wl []=false:=by decide
theorem qlq(w r:List UInt8)(h:r≠[]):qeh (w++r)=qeh r:=by
 unfold qeh
 rw[List.getLast?_append]
 cases hr:r.getLast? with
 |none=>exact absurd (List.getLast?_eq_none_iff.1 hr) h
 |some c=>rfl
theorem qrD(w:List UInt8)(t:ByteArray):qdI (wl w) t=wl (w++(gap (wl w) t++byl t)):=by
 unfold qdI
 cases h:byl t with
 |nil=>
  have hs:qaG qaL t=false:=by rw[qbM,h]; rfl
  simp[gap,hs]
 |cons c r=>
  have hne:c::r≠[]:=by simp
  rw[<- List.append_assoc,show wl (w++gap (wl w) t++c::r)=qaL (qeh (c::r)) by unfold wl; rw[qlq _ _ hne]]
  unfold qeh
  cases hl:(c::r).getLast? with
  |none=>exact absurd (List.getLast?_eq_none_iff.1 hl) hne
  |some d=>rfl
theorem qki(w:List UInt8)(t:ByteArray)(ts:List ByteArray):pw w (t::ts)=pw (w++(gap (wl w) t++byl t)) ts:=by
 unfold pw
 rw[qfI,qrD,Wt,Wt]
theorem qna(w:List UInt8):pw w []=w:=by simp[pw,qfI]
theorem qaw(w:List UInt8)(a b:List ByteArray):pw w (a++b)=pw (pw w a) b:=by
 induction a generalizing w with
 |nil=>rw[Wf,qna]
 |cons t a ih=>rw[Wh,qki,qki,ih]
theorem qnb(w:List UInt8)(ts:List ByteArray):w.length<=(pw w ts).length:=by simp[pw]
theorem qe3{w:List UInt8}(h:w≠[])(ts:List ByteArray):pw w ts≠[]:=by
 intro e
 have h2:=qnb w ts
 rw[e] at h2
 exact h (WH (by simpa using h2))
theorem qrE{t:ByteArray}(h:t.size≠0) : ∃ b,t[0]?=some b/\qaG qaL t=qaL b:=by
 have hd:=qg6 t 0
 rw[WO] at hd
 cases hb:byl t with
 |nil=>exact absurd (by rw[<- qaA,hb]; rfl) h
 |cons b r=>
  rw[hb] at hd
  exact⟨b,hd,by rw[qbM,hb]; rfl⟩
theorem qpG{t:ByteArray}(h:t.size≠0):t[t.size-1]?=some (qeh (byl t)):=by
 rw[qg6,List.head?_drop,<- qaA,qeh]
 rw[List.getLast?_eq_getElem?]
 cases hg:(byl t)[(byl t).length-1]? with
 |some c=>rfl
 |none=>
  rw[List.getElem?_eq_none_iff] at hg
  have:=qaA t
  omega
attribute [local simp] qfV qiu
theorem qhQ {kk:Nat} (hkk:kk=1\/kk=2) (fl:Bool) (ts:List ByteArray) (hts : ∀ t∈ts,t.size≠0) (hn:ts.length<2 ^ 30) : ∀ (m i:Nat) (w:List UInt8),i+m=ts.length->(pw w (ts.drop i)).length<2 ^ 40 ->
  Z tQ (.loop kk F243l0 [(0,.ptr 0 0),(6,.dat (.sl (strC ts) ts.length fl)),(7,.int ts.length),(8,.int i)] (PW w))=some (.out (.exit 0) [(0,.ptr 0 0),(6,.dat (.sl (strC ts) ts.length fl)),(7,.int ts.length),(8,.int ts.length),(9,.bool false)] (PW (pw w (ts.drop i))))
 |0,i,w,hi,hsz=>by
  have hi':i=ts.length:=by omega
  subst hi'
  rw[List.drop_length,qna]
  rw[qab]
  rcases hkk with rfl|rfl<;>simp[qac,qd9,Wa]
 |m+1,i,w,hi,hsz=>by
  have hlt:i<ts.length:=by omega
  have hd:ts.drop i=ts[i]::ts.drop (i+1):=WK hlt
  have ht:=hts ts[i] (Yl hlt)
  rw[hd,qki] at hsz ⊢
  have hc:=qgH ts i hlt
  generalize ts[i]=t at *
  obtain⟨b,hb,hs⟩:=qrE ht
  have hla:=qpG ht
  have hpos:0<t.size:=by omega
  have hw0:(w++(gap (wl w) t++byl t)).length<2 ^ 40:=YH (qnb _ _) hsz
  have hts2:t.size<2 ^ 40:=by rw[Wc,Wc,qaA] at hw0; omega
  have ih:=qhQ hkk fl ts hts hn m (i+1) (w++(gap (wl w) t++byl t)) (by omega) hsz
  have hlc:qeh (w++(gap (wl w) t++byl t))=qeh (byl t):=by
   rw[<- List.append_assoc,qlq]
   intro e
   rw[<- qaA,e] at ht
   exact ht rfl
  rw[<- ih]
  have zl:=qmA (qeh w)
  have zb:=qmA b
  have w1:=qah ((i:Int)+1) (by omega)
  have w2:=qah ((t.size:Int)-1) (by omega)
  have w3:((t.size:Int)-1).toNat=t.size-1:=by omega
  have w4:(0:Int)<=(t.size:Int)-1:=by omega
  have hge:(1:Int)<=t.size:=by omega
  have hne : ¬ t=⟨#[]⟩:=fun e=>by rw[e] at ht; exact ht rfl
  have hlt':(i:Int)<ts.length:=by omega
  have hne2:eqS t ⟨#[]⟩=false:=by rw[qbh]; simp[hne]
  conv=>lhs; rw[qab]
  simp only[PW,hlc]
  by_cases h1:qaL (qeh w)=true
  ·by_cases h2:qaL b=true
   ·have hg:gap (wl w) t=[32]:=by simp[gap,wl,h1,hs,h2]
    rw[hg] at hw0 ⊢
    have hw1:w.length<2 ^ 40:=by rw[Wc] at hw0; omega
    have z1:Z tQ (.call 258 [.ptr 0 0,.dat (.lit (.int .u8 32))] (PW' w (qeh w).toNat))=_:=quk w (qeh w).toNat 32 hw1
    have z2:=qpF (w++[32]) (qeh w).toNat t (by rw[Wt]; exact hw0) ht
    rw[Wt] at z2
    rw[h1] at zl
    rw[h2] at zb
    simp only[PW',Wc,We,Wl,WM,qaA] at z1 z2
    rcases hkk with rfl|rfl<;>simp[qac,qd9,zl,zb,z1,z2,hb,hla,hc,w1,w2,w3,w4,qaA,PW',YI 1,hge,hne,hne2,hlt',hlt,qak,V.len,Wa]
   ·have hg:gap (wl w) t=[]:=by simp[gap,hs,h2]
    rw[hg] at hw0 ⊢
    rw[Wf] at hw0 ⊢
    have z2:=qpF w (qeh w).toNat t hw0 ht
    rw[h1] at zl
    rw[Bool.not_eq_true] at h2
    rw[h2] at zb
    simp only[PW',Wc,We,Wl,WM,qaA] at z2
    rcases hkk with rfl|rfl<;>simp[qac,qd9,zl,zb,z2,hb,hla,hc,w1,w2,w3,w4,qaA,PW',YI 1,hge,hne,hne2,hlt',hlt,qak,V.len,Wa]
  ·have hg:gap (wl w) t=[]:=by simp[gap,wl,h1]
   rw[hg] at hw0 ⊢
   rw[Wf] at hw0 ⊢
   have z2:=qpF w (qeh w).toNat t hw0 ht
   rw[Bool.not_eq_true] at h1
   rw[h1] at zl
   simp only[PW',Wc,We,Wl,WM,qaA] at z2
   rcases hkk with rfl|rfl<;>simp[qac,qd9,zl,zb,z2,hb,hla,hc,w1,w2,w3,w4,qaA,PW',YI 1,hge,hne,hne2,hlt',hlt,qak,V.len,Wa]
theorem qw9 (fl:Bool) {ts:List ByteArray} (hts : ∀ t∈ts,t.size≠0) (hn:ts.length<2 ^ 30) {w:List UInt8} (hsz:(pw w ts).length<2 ^ 40) :
  Z tQ (.call 243 [.ptr 0 0,.dat (.sl (strC ts) ts.length fl)] (PW w))=some (.ret (.tup []) (PW (pw w ts))):=by
 have z:=qhQ (.inr rfl) fl ts hts hn ts.length 0 w (by omega) (by rw[WO]; exact hsz)
 rw[WO] at z
 simp only[PW,PW'] at z
 refine qaa (pf:=F243) rfl rfl ?_
 simp only[Wn] at z
 simp[F243,z,V.len,Wa]
theorem qxa (fl:Bool) {ts:List ByteArray} (hts : ∀ t∈ts,t.size≠0) (hn:ts.length<2 ^ 30) {w:List UInt8} (hsz:(pw w ts).length<2 ^ 40) :
  Z tQ (.dcall 243 [.dat (.lit .nilIface),.ptr 0 0,.dat (.sl (strC ts) ts.length fl)] (PW w))=some (.ret (.dat (.lit undef)) (PW (pw w ts))):=by
 have z:=qhQ (.inr rfl) fl ts hts hn ts.length 0 w (by omega) (by rw[WO]; exact hsz)
 rw[WO] at z
 simp only[PW,PW'] at z
 refine qjO (pf:=F243) rfl ?_
 have hfl:F243.body.flat=true:=rfl
 simp only[qaR]
 rw[if_pos ⟨rfl,rfl,rfl,hfl,.inr rfl⟩]
 simp only[Wn] at z
 simp[F243,z,qfR,V.len,Wa]
theorem qxb (fl:Bool) {t:ByteArray} {ts:List ByteArray} (ht:t.size≠0) (hts : ∀ t∈ts,t.size≠0) (hn:ts.length<2 ^ 29) (hsz:(pw [] (t::ts)).length<2 ^ 40) :
  Z tQ (.call 243 [.ptr 0 0,.dat (.sl (strC (t::ts)) (t::ts).length fl)] PE)=some (.ret (.tup []) (PW (pw [] (t::ts)))):=by
 have hg:gap (wl []) t=[]:=by rw[qsO]; rfl
 rw[qki,hg] at hsz ⊢
 simp only[Wf] at hsz ⊢
 have hall : ∀ x∈t::ts,x.size≠0:=fun x hx=>by
  rcases Wq.1 hx with rfl|hx
  ·exact ht
  ·exact hts x hx
 have z:=qhQ (kk:=1) (.inl rfl) fl (t::ts) hall (by rw[We]; omega) ts.length 1 (byl t) (by rw[We]; omega) hsz
 simp only[PW,PW',Yr,WO] at z
 have hla:=qpG ht
 have hw0:(byl t).length<2 ^ 40:=YH (qnb _ _) hsz
 rw[qaA] at hw0
 have z2:=qul t hw0 ht
 have zl:Z tQ (.call 257 [.dat (.lit (.int .u8 0))] [])=some (.ret (.bool false) []):=qmA 0
 have w2:=qah ((t.size:Int)-1) (by omega)
 have w3:((t.size:Int)-1).toNat=t.size-1:=by omega
 have w4:(0:Int)<=(t.size:Int)-1:=by omega
 have hge:(1:Int)<=t.size:=by omega
 have hne : ¬ t=⟨#[]⟩:=fun e=>by rw[e] at ht; exact ht rfl
 have hne2:eqS t ⟨#[]⟩=false:=by rw[qbh]; simp[hne]
 have w5:IntKind.i64.wrap 1=1:=rfl
 have hpos:(0:Int)<(ts.length:Int)+1:=by omega
 have hc:=qgH (t::ts) 0 (by rw[We]; omega)
 simp only[List.getElem_cons_zero] at hc
 simp only[PW',qaA] at z2
 simp only[qaA,Wn] at z
 refine qaa (pf:=F243) rfl rfl ?_
 have z1:Z tQ (.loop 1 F243l0 [(0,.ptr 0 0),(6,.dat (.sl (strC (t::ts)) (t::ts).length fl)),(7,.int (t::ts).length),(8,.int 0)] PE)=Z tQ (.loop 1 F243l0 [(0,.ptr 0 0),(6,.dat (.sl (strC (t::ts)) (t::ts).length fl)),(7,.int (t::ts).length),(8,.int 1)] [.cellsT 4 [.ptr 0 0,.own 1 t.size 1,.dat (.lit (.int .u8 (qeh (byl t)).toNat))],.vecT 3 (vb (byl t))]):=by
  conv=>lhs; rw[qab]
  generalize strC (t::ts)=row at *
  simp[qac,qd9,zl,z2,hla,hc,w2,w3,w4,w5,qaA,hge,hne,hne2,hpos,qak,V.len,Wa]
 rw[z] at z1
 generalize strC (t::ts)=row at *
 generalize (t::ts).length=M at *
 simp[F243,z1,V.len,Wa]
end
section
def E.lev:E->Nat
 |.un _ neg _=>qeO neg
 |.bin _ o _ _=>o.prec
 |_=>8
theorem qs8 : ∀ {l:List ByteArray},Ok2 l -> ∀ t∈l,Tg (byl t)
 |[],_,t,h=>by cases h
 |u::l,ho,t,h=>by
  rcases Wq.1 h with rfl|h
  ·exact ho.1
  ·exact qs8 ho.2.2 t h
theorem qkt{s:ByteArray}(h:Tg (byl s)):s.size≠0:=by
 obtain⟨c,r,e,_⟩:=qfU h
 intro h0
 rw[<- qaA,e] at h0
 cases h0
theorem qfa(ts:List ByteArray):pw [] ts=qfI false ts:=by rw[pw,qsO,Wf]
theorem qjB : ∀ (l:List ByteArray) (p:Bool),(∀ t∈l,t.size≠0)->l.length<=(qfI p l).length
 |[],p,_=>by simp
 |t::l,p,h=>by
  have:=qjB l (qdI p t) (fun x hx=>h x (WF _ hx))
  have h1:=h t (WT ..)
  have h2:=qaA t
  simp only[qfI,Wc,We]
  omega
theorem qfw : ∀ s:Ss,s.good none->s.fo.len<=s.tx.length
 |.nil,_=>by simp[Ss.fo]
 |.assign _ s e r,h=>by have:=qfw r h.2.2.2; simp[Ss.fo,Ss.tx]; omega
 |.store _ s a b r,h=>by have:=qfw r h.2.2.2.2; simp[Ss.fo,Ss.tx]; omega
 |.effect _ a b r,h=>by have:=qfw r h.2.2.2; simp[Ss.fo,Ss.tx]; omega
 |.stop r,h=>by have:=qfw r h.2; simp[Ss.fo,Ss.tx]; omega
 |.cond w _ c b r,h=>by have:=qfw r h.2.2.2; simp[Ss.fo,Ss.tx]; omega
 |.block _ b r,h=>by obtain⟨n,hn,_⟩:=h; cases hn
theorem qqa{b:Ss}(h:b.good (some 1)) : ∃ fb b1,b = .block fb b1 .nil/\b1.good none:=by
 cases b with
 |block fb b1 r=>
  obtain⟨n,hn,h1,h2⟩:=h
  have:n=0:=by simpa using hn.symm
  subst this
  cases r with
  |nil=>exact⟨fb,b1,rfl,h1⟩
  |block _ _ _=>obtain⟨n,hn,_⟩:=h2; simp at hn
  |_=>simp[Ss.good] at h2
 |_=>simp[Ss.good] at h
theorem qvo{b:Ss}(h:b.good (some 2)) : ∃ fb b1 fc b2,b = .block fb b1 (.block fc b2 .nil)/\b1.good none/\b2.good none:=by
 cases b with
 |block fb b1 r=>
  obtain⟨n,hn,h1,h2⟩:=h
  have:n=1:=by simpa using hn.symm
  subst this
  obtain⟨fc,b2,rfl,h3⟩:=qqa h2
  exact⟨fb,b1,fc,b2,rfl,h1,h3⟩
 |_=>simp[Ss.good] at h
def Hd.opt:Hd->Option Ss
 |.none=>Option.none
 |.some _ b=>Option.some b
def Hd.opts(a b c:Hd):Nat->Option Ss
 |0=>a.opt
 |1=>b.opt
 |_=>c.opt
end
end Go.Pm
section
namespace Go.Pm.F
def tR:Nat->Option PFun
 |132=>some F132
 |149=>some F149
 |150=>some F150
 |151=>some F151
 |152=>some F152
 |153=>some F153
 |154=>some F154
 |155=>some F155
 |170=>some F170
 |171=>some F171
 |172=>some F172
 |173=>some F173
 |192=>some F192
 |193=>some F193
 |194=>some F194
 |195=>some F195
 |196=>some F196
 |197=>some F197
 |198=>some F198
 |199=>some F199
 |202=>some F202
 |203=>some F203
 |_=>none
end Go.Pm.F
end
namespace Go.Pm
section
open F
structure RowS(d:D)(l:List ByteArray):Prop where
 len : ∀ σ,V.len σ .sl (.dat d)=some l.length
 at_ : ∀ i:Nat,i<l.length->qak 1 (.dat d) i=some (.dat (.imm (strC l) i))
 one:V.one (.dat d)=true
 cells:V.cells (.dat d)=[.dat d]
theorem qaj(l:List ByteArray)(f:Bool):RowS (.sl (strC l) l.length f) l where
 len _:=rfl
 at_ i h:=by simp[qak,h]
 one:=rfl
 cells:=rfl
theorem qve(s:ByteArray)(i:Nat):s[i]?=s.data.toList[i]?:=by
 by_cases h:i<s.size
 ·rw[getElem?_pos s i h,WN (by rw[Wy]; exact h)]
  simp[ByteArray.getElem_eq_getElem_data]
 ·rw[getElem?_neg s i h,W5 (by rw[Wy]; exact YJ.1 h)]
theorem qoq{s:ByteArray}{i:Nat}(h:i<s.size) : ∃ c,s[i]?=some c/\s.data.toList[i]?=some c:=by
 refine⟨s.data.toList[i]'(by rw[Wy]; exact h),?_,WN _⟩
 rw[qve]
 exact WN _
end
section
open F
theorem qg5{s:ByteArray}{i:Nat}{c:UInt8}(h:s.data.toList[i]?=some c):(byl s).drop i=c::(byl s).drop (i+1):=by
 have hi:=(Wd.1 h)
 obtain⟨h1,h2⟩:=hi
 rw[<- h2]
 exact WK h1
end
section
open F
theorem qmJ(p:UInt8->Bool) : ∀ l:List UInt8,∀ b∈l.take (qbF p l),p b=true
 |[],b,h=>by simp[qbF] at h
 |c::r,b,h=>by
  simp only[qbF] at h
  split at h
  ·rename_i hc
   rw[List.take_succ_cons] at h
   rcases Wq.1 h with rfl|h
   ·exact hc
   ·exact qmJ p r b h
  ·simp at h
end
section
open F
theorem qsn(eS eL eR:Nat)(c:UInt8)(r:List UInt8):1<=(tokL eS eL eR (c::r)).1.length/\(tokL eS eL eR (c::r)).1.length<=r.length+1:=by
 have h1:=qf7 qaL (c::r)
 have h2:=qf7 qav (c::r)
 simp only[tokL]
 split
 ·rename_i h
  have hw:qaL c=true:=by simp[qaL,h]
  have:1<=qbF qaL (c::r):=by simp only[qbF,hw,if_true]; omega
  simp only[WR,We] at h1 ⊢
  omega
 split
 ·rename_i h
  have:1<=qbF qav (c::r):=by simp only[qbF,h,if_true]; omega
  simp only[WR,We] at h2 ⊢
  omega
 split
 ·rename_i h
  have:=qfx h
  rw[qbq] at this
  simp only[WR,We] at this ⊢
  omega
 split<;>simp
theorem qlJ{s:ByteArray}{i:Nat}(hi:i<s.size)(eS eL eR:Nat):1<=(tokAt eS eL eR s i).s.size/\i+(tokAt eS eL eR s i).s.size<=s.size:=by
 obtain⟨c,h1,h2⟩:=qoq hi
 have hd:=qg5 h2
 rw[qdV]
 simp only[qbq]
 rw[hd]
 have:=qsn eS eL eR c ((byl s).drop (i+1))
 rw[W4,qaA] at this
 omega
def qAu:List Tk->List Tk
 |[]=>[]
 |t::r=>if t.bad≠0\/t.s.size=0 then [t] else t::qAu r
end
section
open F
structure Ps where
 i:Nat
 a:Nat
 e:Nat
def qwz(T:List Tk)(i:Nat):Tk:=T.getD i ⟨0,⟨#[]⟩,0⟩
def qS:ByteArray:=bs [63]
end
section
open F
structure TokP(t:Tk):Prop where
 q:t.bad=0->t.s≠qS
 dig:t.bad=0->qaG qav t.s=true->(∀ c∈t.s.data.toList,qav c=true)/\digV t.s.data.toList<=2147483647/\t.s.size<2 ^ 40
structure WfT(T:List Tk):Prop where
 len:T.length<2 ^ 40
 tok : ∀ t∈T,TokP t
 pos : ∀ i,i+1<T.length->(qwz T i).s.size≠0
 last : ∀ i,i+1=T.length->(qwz T i).s=⟨#[]⟩/\(qwz T i).bad=0
structure Gd(T:List Tk)(s:Ps)(ts:List Tk):Prop where
 e:s.e=0
 a:s.a=0
 lt:s.i<T.length
 ts:qAu (T.drop s.i)=ts
structure Er(T:List Tk)(s:Ps)(p c:Nat):Prop where
 lt:s.i<T.length
 c0:c≠0
 or:(s.e=c/\s.a=p)\/(s.e=0/\(qwz T s.i).bad=c/\(qwz T s.i).at_=p)
end
section
open F
section
variable{T:List Tk}{s:Ps}{lv:Nat}
abbrev k1(k n:Int)(y:ByteArray)(ks:D):D := .sl [.lit (.int .i64 k),.lit (.int .i64 n),.lit (.string y),ks] 1 true
abbrev k2(k n:Int)(y:ByteArray)(ks:D)(k' n':Int)(y':ByteArray)(ks':D):D := .sl [.lit (.int .i64 k),.lit (.int .i64 n),.lit (.string y),ks,.lit (.int .i64 k'),.lit (.int .i64 n'),.lit (.string y'),ks'] 2 true
abbrev k3(k n:Int)(y:ByteArray)(ks:D)(k' n':Int)(y':ByteArray)(ks':D)(k'' n'':Int)(y'':ByteArray)(ks'':D):D := .sl [.lit (.int .i64 k),.lit (.int .i64 n),.lit (.string y),ks,.lit (.int .i64 k'),.lit (.int .i64 n'),.lit (.string y'),ks',.lit (.int .i64 k''),.lit (.int .i64 n''),.lit (.string y''),ks''] 3 false
end
end
section
open F
structure N4 where
 k:Int
 n:Int
 s:ByteArray
 d:D
 one:V.one (.dat d)=true
 cl:V.cells (.dat d)=[.dat d]
abbrev rob(r:Nat->N4):Ob := .cells [.int (r 0).k,.int (r 0).n,.str (r 0).s,.dat (r 0).d,.int (r 1).k,.int (r 1).n,.str (r 1).s,.dat (r 1).d,.int (r 2).k,.int (r 2).n,.str (r 2).s,.dat (r 2).d]
def qyl(r:Nat->N4)(k:Nat)(v:N4):Nat->N4:=fun i=>if i=k then v else r i
abbrev qvW:Ob := .cells [.int 0,.int 0,.str ⟨#[]⟩,.dat (.lit (.slice none 0 0)),.int 0,.int 0,.str ⟨#[]⟩,.dat (.lit (.slice none 0 0)),.int 0,.int 0,.str ⟨#[]⟩,.dat (.lit (.slice none 0 0))]
section
variable{T:List Tk}{s:Ps}{r:Nat->N4}
def qfD:Option Ss->N4
 |none=>⟨0,0,⟨#[]⟩,.lit (.slice none 0 0),rfl,rfl⟩
 |some b=>⟨7,0,⟨#[]⟩,kd false b.fo.len b.fo.cells,by simp,by simp⟩
end
end
section
open F
theorem qvh{s:ByteArray}(hl:s.size<2 ^ 30){j:Nat}(hj:j<s.size):TokP (tokAt 12 2 6 s j):=by
 obtain⟨p1,p2⟩:=qlJ hj 12 2 6
 obtain⟨c,h1,h2⟩:=qoq hj
 have hd:=qg5 h2
 rw[qdV,hd] at p2 ⊢
 generalize (byl s).drop (j+1)=r at *
 have hsz:(bs (tokL 12 2 6 (c::r)).1).size<2 ^ 40:=by simp only at p2; omega
 have start : ∀ (p:UInt8->Bool) (x:UInt8) (w:List UInt8),qaG p (bs (x::w))=p x:=fun p x w=>by rw[qbM,qdk]; rfl
 by_cases hlet:qaW c=true
 ·have hw:qaL c=true:=by simp[qaL,hlet]
  have e:(c::r).take (qbF qaL (c::r))=c::r.take (qbF qaL r):=by simp[qbF,hw]
  have ht:(tokL 12 2 6 (c::r)).1=c::r.take (qbF qaL r):=by simp only[tokL,hlet,if_true]; exact e
  rw[ht]
  have hnd:qav c=false:=by
   simp only[qav,qaW,Wu,decide_eq_true_eq,W0,decide_eq_false_iff_not] at hlet ⊢
   omega
  refine⟨fun _ h=>?_,fun _ h=>?_⟩
  ·have:=qlE h
   simp only[WG] at this
   rw[this.1] at hlet
   exact absurd hlet (by decide)
  ·simp only at h
   rw[start,hnd] at h
   cases h
 ·by_cases hdig:qav c=true
  ·have e:(c::r).take (qbF qav (c::r))=c::r.take (qbF qav r):=by simp[qbF,hdig]
   have ht:tokL 12 2 6 (c::r)=((c::r).take (qbF qav (c::r)),if 2147483647<digV ((c::r).take (qbF qav (c::r))) then 6 else 0):=by simp only[tokL,hlet,hdig,if_true,Wo,if_false]
   rw[ht] at hsz ⊢
   refine⟨fun _ h=>?_,fun h _=>⟨fun b hb=>?_,?_,hsz⟩⟩
   ·simp only at h
    rw[e] at h
    have:=qlE h
    simp only[WG] at this
    rw[this.1] at hdig
    exact absurd hdig (by decide)
   ·exact qmJ qav (c::r) b hb
   ·simp only at h ⊢
    split at h
    ·cases h
    ·rename_i hb
     exact YJ.1 hb
  ·by_cases hp:bs ((c::r).take 2)∈qd7
   ·have ht:tokL 12 2 6 (c::r)=((c::r).take 2,0):=by simp only[tokL,hlet,hdig,if_pos hp,Wo,if_false]
    rw[ht]
    have key : ∀ w:List UInt8,bs w∈qd7->bs w≠qS/\qaG qav (bs w)=false:=fun w hw=>by
     rcases pair_cases hw with rfl|rfl|rfl|rfl|rfl|rfl<;>decide
    obtain⟨k1,k2⟩:=key _ hp
    exact⟨fun _=>k1,fun _ h=>by rw[k2] at h; cases h⟩
   ·by_cases hs:c.toNat∈qj2
    ·have ht:tokL 12 2 6 (c::r)=([c],0):=by simp only[tokL,hlet,hdig,if_neg hp,if_pos hs,Wo,if_false]
     rw[ht]
     refine⟨fun _ h=>?_,fun _ h=>?_⟩
     ·have:=qlE h
      simp only[WG,and_true] at this
      rw[this] at hs
      exact absurd hs (by decide)
     ·simp only at h
      rw[start] at h
      exact absurd h hdig
    ·have ht:tokL 12 2 6 (c::r)=([c],12):=by simp only[tokL,hlet,hdig,if_neg hp,if_neg hs,Wo,if_false]
     rw[ht]
     exact⟨fun h=>(by cases h),fun h=>(by cases h)⟩
def qkE(s:ByteArray):List Tk:=qcf 12 2 6 s (s.size+1) 0
def qhs(f fi fb:Bool)(s:ByteArray):Rz (Nat->Option Ss):=
 if 2000<s.size then .er 2000 2 else match qdO 12 2 4 f fi fb (10*(qkE s).length+10) (fun _=>none) (qkE s) with
  |some x=>x
  |none => .er 0 0
theorem qiC{f fi fb:Bool}{s:ByteArray}(h : ¬ 2000<s.size):qdO 12 2 4 f fi fb (10*(qkE s).length+10) (fun _=>none) (qkE s)=some (qhs f fi fb s):=by
 obtain⟨y,hy,_⟩:=qkI 12 2 4 f fi fb (10*(qkE s).length+10) (fun _=>none) (qkE s) (by omega)
 unfold qhs
 rw[if_neg h,hy]
abbrev qr0(r:Nat->N4):V := .dat (.agg [.lit (.int .i64 (r 0).k),.lit (.int .i64 (r 0).n),.lit (.string (r 0).s),(r 0).d,.lit (.int .i64 (r 1).k),.lit (.int .i64 (r 1).n),.lit (.string (r 1).s),(r 1).d,.lit (.int .i64 (r 2).k),.lit (.int .i64 (r 2).n),.lit (.string (r 2).s),(r 2).d])
def qnv(f fi fb:Bool)(s:ByteArray):V:=match qhs f fi fb s with
 |.ok h _ => .tup [qr0 fun k=>qfD (h k),.int 0,.int 0]
 |.er a c => .tup [qr0 fun _=>qfD none,.int a,.int c]
end
section
inductive Red:List ByteArray->List ByteArray->Prop
 |nil:Red [] []
 |keep {t:ByteArray} {l m:List ByteArray} (h:Red l m):Red (t::l) (t::m)
 |del {t:ByteArray} {l m:List ByteArray} (h0:t.size≠0) (h:Red l m):Red (t::l) m
 |dig {t u:ByteArray} {l m:List ByteArray} (h0:u.size<=t.size) (h1 : ∀ p,qdI p u=qdI p t) (h2:qaG qaL u=qaG qaL t) (h:Red l m):Red (t::l) (u::m)
end
section
def qoT(g:List UInt8):Prop := ∀ r,qa5 false (g++r)=g.length+qa5 false r
theorem qkL:qoT []:=fun r=>by simp
theorem qoU{c:UInt8}(h:c.toNat=32\/c.toNat=9\/c.toNat=10):qoT [c]:=fun r=>by
 simp only[Wh,Wf,qa5,Wi]
 by_cases h10:c.toNat=10
 ·rw[if_pos h10]; omega
 ·rw[if_neg h10,if_pos (by rcases h with h|h|h; exact .inr (.inl h); exact .inr (.inr h); exact absurd h h10)]; omega
theorem qqP{w:List UInt8}(h:Tg w)(r:List UInt8):qa5 false (w++r)=0:=by
 obtain⟨c,q,hw,h1,h2,h3,h4⟩:=qfU h
 rw[hw]
 simp[qa5,h1,h2,h3,h4]
def qfy:List (List UInt8 × ByteArray)->List UInt8
 |[]=>[]
 | (g,t)::r=>g++(byl t++qfy r)
def Sep(t:ByteArray)(g:List UInt8)(u:ByteArray):Prop:=(∃ c q,g=c::q/\(c.toNat=32\/c.toNat=10\/c.toNat=9\/c.toNat=35))\/(g=[]/\(qdI false t&&qaG qaL u)=false/\Adj t u)
def OkG:List (List UInt8 × ByteArray)->Prop
 |[]=>True
 | (g,t)::r=>qoT g/\Tg (byl t)/\(∀ p,r.head?=some p->Sep t p.1 p.2)/\OkG r
theorem qkM{w:List UInt8}(h:Tg w){c:UInt8}(hc:c.toNat=32\/c.toNat=10\/c.toNat=9\/c.toNat=35)(r:List UInt8):Fol w (c::r):=by
 have hw:qaL c=false:=by
  simp only[qaL,qaW,qav,Bool.or_eq_false_iff,W0,decide_eq_false_iff_not]
  omega
 have hd:qav c=false:=by
  simp only[qav,W0,decide_eq_false_iff_not]
  omega
 obtain⟨a,q,rfl,-⟩:=qfU h
 simp only[Fol]
 split
 ·exact hw
 split
 ·exact hd
 ·intro _ hp
  rcases pair_cases hp with h|h|h|h|h|h<;>simp only[WG,and_true] at h<;>rw[h.2] at hc<;>exact absurd hc (by decide)
theorem qtf(w:List UInt8):Fol w []:=by cases w<;>trivial
theorem qqQ{w:ByteArray}(h:Tg (byl w))(p q:Bool):qdI p w=qdI q w:=by
 obtain⟨c,r,hw,-⟩:=qfU h
 unfold qdI
 rw[hw]
 cases hl:(c::r).getLast? with
 |none=>simp at hl
 |some b=>rfl
theorem qkN (eS eL eR:Nat) : ∀ (l:List (List UInt8 × ByteArray)) (n i:Nat) (tail:List UInt8),OkG l->(∀ p,l.getLast?=some p->Fol (byl p.2) tail)->l.length<=n ->
  ∃ ts,qtb eS eL eR n i (qfy l++tail)=ts++qtb eS eL eR (n-l.length) (i+(qfy l).length) tail /\ ∀ r,Hx (l.map (·.2)) (ts++r) r
 |[],n,i,tail,_,_,_=>⟨[],by simp[qfy],fun r=>rfl⟩
 | (g,t)::l,0,i,tail,_,_,h=>by simp at h
 | (g,t)::l,n+1,i,tail,ho,hl,h=>by
  obtain⟨hg,ht,ha,ho'⟩:=ho
  have hf:Fol (byl t) (qfy l++tail):=by
   cases l with
   |nil=>exact hl (g,t) rfl
   |cons u us=>
    obtain⟨g',u⟩:=u
    simp only[qfy,Wt]
    rcases ha (g',u) rfl with ⟨c,q,h1,h2⟩|⟨h1,h2,h3⟩
    ·simp only at h1
     rw[h1]
     exact qkM ht h2 _
    ·simp only at h1 h2 h3
     rw[h1]
     have:=qrx (p:=false) ht ho'.2.1 h3 (qfy us++tail)
     rwa [gap,h2] at this
  have hsk:qa5 false (g++(byl t++(qfy l++tail)))=g.length:=by rw[hg,qqP ht]; omega
  have htk:=qpB eS eL eR ht hf
  have hne:(byl t).length≠0:=by
   obtain⟨c,w,hw,-⟩:=qfU ht
   rw[hw]; simp
  obtain⟨ts,e1,e2⟩:=qkN eS eL eR l n (i+g.length+t.size) tail ho' (fun u hu=>hl u (by
   cases l with
   |nil=>cases hu
   |cons v vs=>rw[Ys]; exact hu)) (by simpa using h)
  refine⟨⟨i+g.length,t,0⟩::ts,?_,fun r=>⟨⟨i+g.length,t,0⟩,ts++r,rfl,rfl,rfl,e2 r⟩⟩
  simp only[qfy,Wt,qtb,hsk,List.drop_left,htk]
  rw[if_neg (by
   rintro (h|h)
   ·exact h rfl
   ·exact hne h)]
  rw[qfM,qaA,e1]
  simp only[Wh,Wc,We,qaA]
  congr 3<;>omega
theorem qnN (eS eL eR:Nat) {l:List (List UInt8 × ByteArray)} {w:List UInt8} (ho:OkG l) (hw:qoT w) (hsep:w=[] \/ ∃ c q,w=c::q/\(c.toNat=32\/c.toNat=10\/c.toNat=9\/c.toNat=35)) {s:ByteArray} (hs:byl s=qfy l++w) :
  ∃ e,Hx (l.map (·.2)) (qcf eS eL eR s (s.size+1) 0) [⟨e,⟨#[]⟩,0⟩]:=by
 have htgs : ∀ p∈l,Tg (byl p.2):=by
  induction l with
  |nil=>intro p hp; cases hp
  |cons q l ih=>
   intro p hp
   obtain⟨g,t⟩:=q
   rcases Wq.1 hp with rfl|hp
   ·exact ho.2.1
   ·have hl : ∀ (l:List (List UInt8 × ByteArray)),OkG l -> ∀ p∈l,Tg (byl p.2):=fun l=>by
     induction l with
     |nil=>intro _ p hp; cases hp
     |cons q l ih=>intro h p hp; rcases Wq.1 hp with rfl|hp; exact h.2.1; exact ih h.2.2.2 p hp
    exact hl l ho.2.2.2 p hp
 have hlen:l.length<=(qfy l).length:=by
  clear ho hs
  induction l with
  |nil=>simp
  |cons q l ih=>
   obtain⟨g,t⟩:=q
   have h1:=htgs (g,t) (WT ..)
   obtain⟨c,w,hw,-⟩:=qfU h1
   have:=ih fun p hp=>htgs p (WF _ hp)
   simp only[qfy,Wc,We]
   have h2:1<=(byl t).length:=by simp only at hw; rw[hw]; simp
   omega
 have hsz:s.size=(qfy l).length+w.length:=by rw[<- qaA,hs,Wc]
 rw[qnB,WO,hs]
 obtain⟨ts,e1,e2⟩:=qkN eS eL eR l (s.size+1) 0 w ho (fun p hp=>by
  have ht:=htgs p (List.mem_of_getLast? hp)
  rcases hsep with h|⟨c,q,h1,h2⟩
  ·rw[h]; exact qtf _
  ·rw[h1]; exact qkM ht h2 _) (by omega)
 rw[e1]
 obtain⟨k,hk⟩ : ∃ k,s.size+1-l.length=k+1:=⟨s.size-l.length,by omega⟩
 have hend : ∀ j,qtb eS eL eR (k+1) j w=[⟨j+w.length,⟨#[]⟩,0⟩]:=fun j=>by
  have h1:qa5 false w=w.length:=by
   have:=hw []
   rw[WJ] at this
   rw[this]; simp[qa5]
  simp only[qtb,h1,List.drop_length,tokL]
  rw[if_pos (.inr rfl)]
  rfl
 rw[hk,hend]
 exact⟨_,e2 _⟩
end
section
theorem qqC{f fi fb:Bool}{s:ByteArray}(hs : ¬ 2000<s.size){y:Rz (Nat->Option Ss)}(h : ∃ n,qdO 12 2 4 f fi fb n (fun _=>none) (qkE s)=some y):qhs f fi fb s=y:=by
 obtain⟨n,h⟩:=h
 have h1:=qgV h (WE n (10*(qkE s).length+10))
 have h2:=qgV (qiC (f:=f) (fi:=fi) (fb:=fb) hs) (WB n (10*(qkE s).length+10))
 rw[h1] at h2
 exact (WC h2).symm
theorem qqD{ts:List ByteArray}(hcl:Ok2 ts) : ∃ e,Hx ts (qkE (bs (qfI false ts))) [⟨e,⟨#[]⟩,0⟩]:=by
 obtain⟨l,hl,hm⟩ : ∃ l:List (List UInt8 × ByteArray),OkG l/\l.map (·.2)=ts/\qfy l=qfI false ts:=by
  have key : ∀ (ts:List ByteArray) (p:Bool),Ok2 ts -> ∃ l:List (List UInt8 × ByteArray),OkG l/\l.map (·.2)=ts/\qfy l=qfI p ts/\(∀ q,l.head?=some q -> ∃ t,ts.head?=some t/\q=(gap p t,t)):=by
   intro ts
   induction ts with
   |nil=>intro p _; exact⟨[],trivial,rfl,rfl,fun q h=>by cases h⟩
   |cons t ts ih=>
    intro p ho
    obtain⟨l,l1,l2,l3,l4⟩:=ih (qdI p t) ho.2.2
    have hwg:qoT (gap p t):=by
     unfold gap
     split
     ·exact qoU (.inl rfl)
     ·exact qkL
    refine⟨(gap p t,t)::l,⟨hwg,ho.1,fun q hq=>?_,l1⟩,by simp[l2],by simp[qfy,qfI,l3],fun q hq=>⟨t,rfl,by cases hq; rfl⟩⟩
    obtain⟨u,hu,rfl⟩:=l4 q hq
    have hadj:=ho.2.1 u hu
    simp only
    by_cases hgap:(qdI p t&&qaG qaL u)=true
    ·left
     exact⟨32,[],by simp[gap,hgap],.inl rfl⟩
    ·right
     have hgap':(qdI p t&&qaG qaL u)=false:=by simpa using hgap
     refine⟨by simp[gap,hgap'],?_,hadj⟩
     rw[qqQ ho.1 false p]
     exact hgap'
  obtain⟨l,l1,l2,l3,_⟩:=key ts false hcl
  exact⟨l,l1,l2,l3⟩
 have:=qnN 12 2 6 hl qkL (.inl rfl) (s:=bs (qfI false ts)) (by rw[qdk,hm.2,WJ])
 rw[hm.1] at this
 exact this
theorem qoD{h:Nat->Option Ss}(hg : ∀ k,qhq (h k)) : ∃ e,Hx (qco h) (qkE (bs (qfI false (qco h)))) [⟨e,⟨#[]⟩,0⟩]:=qqD (qub hg).ok
theorem qmz{f fi fb:Bool}{h:Nat->Option Ss}(hg : ∀ k,qhq (h k))(hs:(qfI false (qco h)).length<=2000) : ∃ r,qhs f fi fb (bs (qfI false (qco h))) = .ok (fun k=>if k<3 then (h k).map (·.fl f fi fb) else none) r:=by
 obtain⟨e,hx⟩:=qoD hg
 exact⟨_,qqC (by rw[qbq]; omega) (rbP hg hx rfl)⟩
end
end Go.Pm
section
namespace Go.Pm.F
def tE:Nat->Option PFun
 |_=>none
end Go.Pm.F
end
namespace Go.Pm
section
theorem qc0(f:Bool) : ∀ (e:E) {r r':Fo},r.eqv r'=true->((e.fl f).fo r).eqv (e.fo r')=true
 |.int n,r,r',h=>by simp[E.fl,E.fo,Fo.eqv,h]
 |.bool n,r,r',h=>by simp[E.fl,E.fo,Fo.eqv,h]
 |.var s,r,r',h=>by simp[E.fl,E.fo,Fo.eqv,h]
 |.name s,r,r',h=>by simp[E.fl,E.fo,Fo.eqv,h]
 |.field _ s e,r,r',h=>by simp[E.fl,E.fo,Fo.eqv,h,qc0 f e (r := .nil) (r' := .nil) rfl]
 |.un _ n e,r,r',h=>by simp[E.fl,E.fo,Fo.eqv,h,qc0 f e (r := .nil) (r' := .nil) rfl]
 |.bin _ o a b,r,r',h=>by simp[E.fl,E.fo,Fo.eqv,h,qc0 f a (qc0 f b (r := .nil) (r' := .nil) rfl)]
theorem qc1(f fi fb:Bool) : ∀ (s:Ss),((s.fl f fi fb).fo).eqv s.fo=true
 |.nil=>rfl
 |.assign _ s e r=>by simp[Ss.fl,Ss.fo,Fo.eqv,qc0 f e (r := .nil) (r' := .nil) rfl,qc1 f fi fb r]
 |.store _ s a b r=>by simp[Ss.fl,Ss.fo,Fo.eqv,qc0 f a (qc0 f b (r := .nil) (r' := .nil) rfl),qc1 f fi fb r]
 |.effect _ a b r=>by simp[Ss.fl,Ss.fo,Fo.eqv,qc0 f a (qc0 f b (r := .nil) (r' := .nil) rfl),qc1 f fi fb r]
 |.stop r=>by simp[Ss.fl,Ss.fo,Fo.eqv,qc1 f fi fb r]
 |.cond w _ c b r=>by cases w<;>simp[Ss.fl,Ss.fo,Fo.eqv,qc0 f c (qc1 f fi fb b),qc1 f fi fb r]
 |.block _ b r=>by simp[Ss.fl,Ss.fo,Fo.eqv,qc1 f fi fb b,qc1 f fi fb r]
theorem qkA : ∀ {a b:Fo},a.eqv b=true->a.size=b.size
 |.nil,.nil,_=>rfl
 |.cons ..,.cons ..,h=>by
  simp only[Fo.eqv,Wu] at h
  simp only[Fo.size,qkA h.2.1,qkA h.2.2]
 |.nil,.cons ..,h=>by cases h
 |.cons ..,.nil,h=>by cases h
end
section
def wt:List ByteArray->Nat
 |[]=>0
 |t::l=>t.size+1+wt l
theorem qe9(a b:List ByteArray):wt (a++b)=wt a+wt b:=by
 induction a with
 |nil=>simp[wt]
 |cons t a ih=>simp only[Wh,wt,ih]; omega
theorem qp4 : ∀ (l:List ByteArray) (p:Bool),(qfI p l).length<=wt l
 |[],p=>by simp[qfI,wt]
 |t::l,p=>by
  have h1:=qp4 l (qdI p t)
  have h2:=qaA t
  have h3:(gap p t).length<=1:=by unfold gap; split<;>simp
  simp only[qfI,Wc,wt]
  omega
theorem qnt(b:Bool)(l:List ByteArray):wt (qdo b l)<=wt l+4:=by
 cases b with
 |false=>simp[qdo]
 |true=>
  have:wt (qdo true l)=2+(wt l+2):=by
   show wt (bs [40]::(l++[bs [41]]))=_
   rw[wt,qe9]
   rfl
  omega
theorem qiU(full:Bool) : ∀ (e:E) p,wt (e.tx full p)<=e.cost
 |.int n,p=>by simp[E.tx,wt,E.cost,qbq]
 |.bool n,p=>by
  simp only[E.tx,wt,E.cost]
  split<;>simp[qhr,qls,qbq]
 |.var s,p=>by simp[E.tx,wt,E.cost]
 |.name s,p=>by simp[E.tx,wt,E.cost]
 |.field _ s e,p=>by
  have:=qiU full e 1
  simp only[E.tx,wt,qe9,E.cost,qbq,We,Wl]
  omega
 |.un _ neg e,p=>by
  have h1:=qiU full e (qeO neg)
  have h2:=qnt (full||decide (qeO neg<p)) (ustr neg::e.tx full (qeO neg))
  have h3:(ustr neg).size=1:=by cases neg<;>rfl
  simp only[E.tx,E.cost]
  rw[wt,h3] at h2
  omega
 |.bin _ o a b,p=>by
  have h1:=qiU full a o.left
  have h2:=qiU full b (o.prec+1)
  have h3:=qnt (full||decide (o.prec<p)) (a.tx full o.left++o.str::b.tx full (o.prec+1))
  simp only[E.tx,E.cost]
  rw[qe9,wt] at h3
  omega
theorem qkq : ∀ s:Ss,wt s.tx<=s.cost
 |.nil=>Wk _
 |.assign _ s e r=>by
  have h1:=qiU false e 1
  have h2:=qkq r
  simp only[Ss.tx,wt,qe9,Ss.cost,qbq,We,Wl]
  omega
 |.store _ s a b r=>by
  have h1:=qiU false a 1
  have h3:=qiU false b 1
  have h2:=qkq r
  simp only[Ss.tx,wt,qe9,Ss.cost,qbq,We,Wl]
  omega
 |.effect _ a b r=>by
  have h1:=qiU false a 1
  have h3:=qiU false b 1
  have h2:=qkq r
  simp only[Ss.tx,wt,qe9,Ss.cost,qmg,qbq,We,Wl]
  omega
 |.stop r=>by
  have h2:=qkq r
  simp only[Ss.tx,wt,qe9,Ss.cost,qum,qbq,We,Wl]
  omega
 |.cond w _ c b r=>by
  have h1:=qiU false c 1
  have h3:=qkq b
  have h2:=qkq r
  cases w<;>simp only[Ss.tx,wt,qe9,Ss.cost,qpH,ifS,qbq,We,Wl,if_true,Wo,if_false]<;>omega
 |.block _ b r=>by
  have h3:=qkq b
  have h2:=qkq r
  simp only[Ss.tx,wt,qe9,Ss.cost,qbq,We,Wl]
  split
  ·simp only[wt,qkj,qbq,We,Wl]; omega
  ·simp only[wt]; omega
theorem qnu{s:ByteArray}(h:s∈qse):qrF s/\s.size<=3:=by
 simp only[qse,qoA,Wh,Wf,Wq,Ww,or_false] at h
 have key : ∀ (c:UInt8) (r:List UInt8),qaW c=true->(∀ b∈r,qaL b=true)->(c::r).length<=8->Tg (byl (bs (c::r))):=fun c r h1 h2 h3=>qt8 h1 h2 h3
 rcases h with rfl|rfl|rfl|rfl|rfl
 ·exact⟨⟨key 105 [] (by decide) (by decide) (by decide),by decide,by decide,by decide⟩,by decide⟩
 ·exact⟨⟨key 110 [] (by decide) (by decide) (by decide),by decide,by decide,by decide⟩,by decide⟩
 ·exact⟨⟨key 115 [117,109] (by decide) (by decide) (by decide),by decide,by decide,by decide⟩,by decide⟩
 ·exact⟨⟨key 118 [51] (by decide) (by decide) (by decide),by decide,by decide,by decide⟩,by decide⟩
 ·exact⟨⟨key 118 [] (by decide) (by decide) (by decide),by decide,by decide,by decide⟩,by decide⟩
theorem qp5{s:ByteArray}(h:s∈qlF):(s=qxl\/s=qsQ\/s=qiT)/\s.size<=5:=by
 simp only[qlF,Wq,Ww,or_false] at h
 rcases h with rfl|rfl|rfl
 ·exact⟨.inl rfl,by decide⟩
 ·exact⟨.inr (.inl rfl),by decide⟩
 ·exact⟨.inr (.inr rfl),by decide⟩
theorem qjA{s:ByteArray}(h:s∈qdM):s∈fieldNames/\s.size<=5:=by
 simp only[qdM,qf8,Wh,Wf,Wq,Ww,or_false] at h
 rcases h with rfl|rfl|rfl|rfl|rfl|rfl|rfl|rfl<;>exact⟨by decide,by decide⟩
theorem qbN : ∀ e:E,e.fine->e.good
 |.int n,h=>h
 |.bool n,h=>h
 |.var s,h=>(qnu h).1
 |.name s,h=>(qp5 h).1
 |.field _ s e,h=>⟨(qjA h.1).1,qbN e h.2.1⟩
 |.un _ neg e,h=>qbN e h.1
 |.bin _ o a b,h=>⟨qbN a h.1,qbN b h.2.1⟩
theorem qcZ(full:Bool) : ∀ (e:E) p,e.nest full p<=2*e.dp
 |.int n,p | .bool n,p | .var s,p | .name s,p=>by simp[E.nest]
 |.field _ s e,p=>by have:=qcZ full e 1; simp only[E.nest,E.dp]; omega
 |.un _ neg e,p=>by have:=qcZ full e (qeO neg); simp only[E.nest,E.dp]; split<;>omega
 |.bin _ o a b,p=>by have h1:=qcZ full a o.left; have h2:=qcZ full b (o.prec+1); simp only[E.nest,E.dp]; split<;>omega
theorem qoo{s:ByteArray}(h:s∈qf8):s∈qdM:=YA _ h
theorem qop(s:Ss):s.fine->s.good none:=by
 fun_induction Ss.fine s with
 |case1=>intro _; exact .inl rfl
 |case2 _ s e r ih=>intro h; exact⟨rfl,(qnu h.1.1).1,qbN e h.1.2.1,ih h.2⟩
 |case3 _ s a b r ih=>intro h; exact⟨rfl,(qjA (qoo h.1.1)).1,qbN a h.1.2.1,qbN b h.1.2.2.2.1,ih h.2⟩
 |case4 _ a b r ih=>intro h; exact⟨rfl,qbN a h.1.1,qbN b h.1.2.2.1,ih h.2⟩
 |case5 r ih=>intro h; exact⟨rfl,ih h⟩
 |case6 _ c _ x _ y r ih1 ih2 ih3=>intro h; exact⟨rfl,qbN c h.1.1,⟨1,rfl,ih1 h.2.1,⟨0,rfl,ih2 h.2.2.1,.inr rfl⟩⟩,ih3 h.2.2.2⟩
 |case7 _ c _ x r ih1 ih2=>intro h; exact⟨rfl,qbN c h.1.1,⟨0,rfl,ih1 h.2.1,.inr rfl⟩,ih2 h.2.2⟩
 |case8=>intro h; exact h.elim
theorem qdq : ∀ s:Ss,s.nest<=2*s.edp+1+s.dp
 |.nil=>by simp[Ss.nest]
 |.assign _ s e r=>by have h1:=qcZ false e 1; have h2:=qdq r; simp only[Ss.nest,Ss.edp,Ss.dp]; omega
 |.store _ s a b r=>by have h1:=qcZ false a 1; have h3:=qcZ false b 1; have h2:=qdq r; simp only[Ss.nest,Ss.edp,Ss.dp]; omega
 |.effect _ a b r=>by have h1:=qcZ false a 1; have h3:=qcZ false b 1; have h2:=qdq r; simp only[Ss.nest,Ss.edp,Ss.dp]; omega
 |.stop r=>by have h2:=qdq r; simp only[Ss.nest,Ss.edp,Ss.dp]; omega
 |.cond _ _ c b r=>by have h1:=qcZ false c 1; have h3:=qdq b; have h2:=qdq r; simp only[Ss.nest,Ss.edp,Ss.dp]; omega
 |.block _ b r=>by have h3:=qdq b; have h2:=qdq r; simp only[Ss.nest,Ss.edp,Ss.dp]; omega
theorem qkr{h:Hd}(hg:h.gen):qhq h.opt:=by
 cases h with
 |none=>intro b hb; cases hb
 |some f b=>
  intro x hx
  cases hx
  have h1:=hg.dp
  have h2:=hg.edp
  have h3:=qdq b
  simp only[Hd.ss] at h1 h2
  exact⟨qop b hg.fine,by omega⟩
theorem qp6{a b c:Hd}(ha:a.gen)(hb:b.gen)(hc:c.gen) : ∀ k,qhq (Hd.opts a b c k)
 |0=>qkr ha
 |1=>qkr hb
 |_+2=>qkr hc
theorem qvd(k:Nat)(h:Hd):wt (qlP k h.opt)<=h.cost:=by
 cases h with
 |none=>simp[Hd.opt,qlP,wt]
 |some f b=>
  have:=qkq b
  have hk:(qeI k).size<=4:=by unfold qeI; split<;>decide
  simp only[Hd.opt,qlP,wt,qe9,Hd.cost,onS,qbq,We,Wl]
  omega
theorem qrY(a b c:Hd):(qfI false (qco (Hd.opts a b c))).length<=a.cost+(b.cost+c.cost):=by
 refine W7 (qp4 (qco (Hd.opts a b c)) false) ?_
 simp only[qco,qe9]
 exact Nat.add_le_add (qvd 0 a) (Nat.add_le_add (qvd 1 b) (qvd 2 c))
end
end Go.Pm
section
namespace Go.Pm.F
def tK:Nat->Option PFun
 |_=>none
end Go.Pm.F
end
