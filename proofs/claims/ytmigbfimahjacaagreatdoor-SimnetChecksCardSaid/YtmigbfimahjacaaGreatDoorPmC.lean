/- What abstract values mean in a world; how worlds go on. -/
import Derived.Test.YtmigbfimahjacaaGreatDoorPmAL
import Derived.Laws.World
import Derived.CallsIn
import Derived.OrdersIn
set_option linter.unusedSimpArgs false
set_option linter.unusedVariables false
namespace Go.Pm
section
def Row(F:Nat->Nat)(w:World)(b o:Nat)(vs:List Value):Prop:=
 (∀ i v,vs[i]?=some v->w.cell? ⟨b,o+i,none⟩=some v)/\(0<vs.length->o+vs.length<=F b) /\ ∀ v∈vs,v.oneCell'=true
mutual
def RepD(F:Nat->Nat)(w:World):D->Value->Prop
 |.lit v,x=>x=v/\qbo v=true
 |.sl cs n full,x => ∃ b o cap vs,x = .slice (some ⟨b,o,none⟩) n cap/\n<=cap/\(full=true->cap=n)/\RepDs F w cs vs/\Row F w b o vs
 |.imm cs o,x => ∃ b o' vs,x = .pointer (some ⟨b,o'+o,none⟩)/\RepDs F w cs vs/\Row F w b o' vs
 |.agg cs,x => ∃ vs,x = .agg vs.toArray/\RepDs F w cs vs
 |.iface _ _,_=>False
def RepDs(F:Nat->Nat)(w:World):List D->List Value->Prop
 |[],vs=>vs=[]
 |d::ds,vs => ∃ x xs,vs=x::xs/\RepD F w d x/\RepDs F w ds xs
end
def Ob.isTip:Ob->Bool
 |.tip _ | .vec _ | .vecT _ _ | .froz _ | .dead=>true
 |_=>false
def Ob.fz:Ob->Nat
 |.froz ds=>ds.length
 |_=>0
structure Ctx where
 σ : S
 μ : Nat->Option Nat
 F:Nat->Nat
 w:World
structure Fid where
 fn:Nat->FuncId
 cr:Nat->Code->PC->Prop
 ty:Nat->TypeId
 mt:Nat->TypeId->String->Prop
 gl:Nat->Option (List D)
instance:CoeFun Fid (fun _=>Nat->FuncId):=⟨Fid.fn⟩
def Ctx.fix(Γ : Ctx)(l:Nat):Prop := ∃ ob,Γ.σ[l]?=some ob/\ob.isTip=false
mutual
def Rep(fid:Fid)(Γ : Ctx):V->Value->Prop
 |.dat d,x=>RepD Γ.F Γ.w d x
 |.ptr l o,x => ∃ b,Γ.μ l=some b/\x = .pointer (some ⟨b,o,none⟩) /\ Γ.fix l
 | .gsl cs n sz l,x => ∃ b cap vs m,x = .slice (some ⟨b,0,none⟩) n cap/\n<=cap/\RepDs Γ.F Γ.w cs vs/\Row Γ.F Γ.w b 0 vs/\cs≠[] /\
   Γ.σ[l]?=some (.tip m)/\(Γ.μ l).isSome=true/\cs.length<=m /\
   (cs.length=m -> Γ.μ l=some b /\ ∃ arr e,Γ.w.heap[b]?=some (.cells arr e (0,0))/\cap*sz<=arr.size)
 |.msl l o n cap _,x => ∃ b,Γ.μ l=some b/\x = .slice (some ⟨b,o,none⟩) n cap/\n<=cap /\ Γ.fix l
 | .own l n sz,x => ∃ a cap,x = .slice (some a) n cap/\n<=cap/\0<sz/\(∃ ob,Γ.σ[l]?=some ob/\ob.isTip=true) /\ ∀ ob cs,Γ.σ[l]?=some ob->ob.rows=some cs->n*sz<=cs.length/\(cs.length=n*sz ->
   ∃ b arr e,Γ.μ l=some b/\a=⟨b,Γ.F b-ob.fz,none⟩ /\ Γ.w.heap[b]?=some (.cells arr e (0,0)) /\ Γ.F b-ob.fz+cap*sz<=arr.size)
 | .eptr l n o,x => ∃ a,x = .pointer (some a)/\(∃ ob,Γ.σ[l]?=some ob/\ob.isTip=true) /\ ∀ ob cs,Γ.σ[l]?=some ob->ob.rows=some cs->n<=cs.length/\(cs.length=n ->
   ∃ b arr e,Γ.μ l=some b/\a=⟨b,Γ.F b-ob.fz+o,none⟩ /\ Γ.w.heap[b]?=some (.cells arr e (0,0)) /\ Γ.F b-ob.fz+n<=arr.size)
 | .vw l n o k sz,x => ∃ a cap,x = .slice (some a) k cap/\k<=cap/\0<sz/\(∃ ob,Γ.σ[l]?=some ob/\ob.isTip=true) /\ ∀ ob cs,Γ.σ[l]?=some ob->ob.rows=some cs->n<=cs.length/\(cs.length=n ->
   ∃ b arr e,Γ.μ l=some b/\(0<cap->a=⟨b,Γ.F b-ob.fz+o,none⟩) /\ Γ.w.heap[b]?=some (.cells arr e (0,0))/\o+k*sz<=n /\ Γ.F b-ob.fz+n<=arr.size /\ Γ.F b-ob.fz+(o+cap*sz)<=arr.size)
 |.rw cs n,x => ∃ b o cap vs,x = .slice (some ⟨b,o,none⟩) n cap/\n<=cap/\Reps fid Γ cs vs/\Row Γ.F Γ.w b o vs
 |.bm g v,x => ∃ t nm y,x = .func (.method nm) #[.iface t y] #[]/\fid.mt g t nm/\Rep fid Γ v y
 |.agg cs,x => ∃ vs,x = .agg vs.toArray/\Reps fid Γ cs vs
 |.fn f a b,x => ∃ as bs,x = .func (.func (fid f)) as.toArray bs.toArray/\Reps fid Γ a as/\Reps fid Γ b bs
 |.mp l,x => ∃ b,Γ.μ l=some b/\x = .map (some b) /\ Γ.fix l
 |.iface t v,x => ∃ y,x = .iface (fid.ty t) y/\Rep fid Γ v y
 |.tup vs,x => ∃ xs,x = .tuple xs.toArray/\Reps fid Γ vs xs
 |.yld l,x => ∃ b,Γ.μ l=some b/\x = .func (.yield b) #[] #[] /\ Γ.fix l
 |.pan _,_=>False
def Reps(fid:Fid)(Γ : Ctx):List V->List Value->Prop
 |[],vs=>vs=[]
 |d::ds,vs => ∃ x xs,vs=x::xs/\Rep fid Γ d x/\Reps fid Γ ds xs
end
def RepE(fid:Fid)(Γ : Ctx):List (Value × V)->List MapEntry->Prop
 |[],es=>es=[]
 | (k,v)::r,es => ∃ e es',es=e::es'/\e.key=k/\Rep fid Γ v e.val/\RepE fid Γ r es'
def FrRep(fid:Fid)(Γ : Ctx)(N:Nat)(fr:Fr)(tmps:Array Value):Prop:=
 tmps.size=N /\ ∀ t v,t<N->fr.get t=some v->Rep fid Γ v (tmps.getD t undef)
def Ex.code:Ex->Code
 |.normal => .skip
 |.exit id => .exit id
 |.ret => .ret
 |.pan _ => .skip
def qvs:Nat->LoopState
 |0 => .ready
 |1 => .busy
 |2 => .done
 |_ => .exhausted
def RepOb(fid:Fid)(Γ : Ctx)(b:Nat):Ob->Prop
 |.cells cs => Γ.F b=0 /\ ∃ arr e,Γ.w.heap[b]?=some (.cells arr e (0,0))/\Reps fid Γ cs arr.toList
 |.map es => Γ.F b=0 /\ ∃ ents clock,Γ.w.heap[b]?=some (.map ents clock)/\RepE fid Γ es ents.toList
 |.tip m => Γ.F b=m/\0<m
 |.vec cs => ∃ arr e,Γ.w.heap[b]?=some (.cells arr e (0,0)) /\ Γ.F b+cs.length<=arr.size/\Reps fid Γ cs ((arr.toList.drop (Γ.F b)).take cs.length) /\ ∀ v∈(arr.toList.drop (Γ.F b)).take cs.length,v.oneCell'=true
 |.cellsT t cs => Γ.F b=0 /\ ∃ arr,Γ.w.heap[b]?=some (.cells arr (fid.ty t) (0,0))/\Reps fid Γ cs arr.toList
 |.vecT t cs => Γ.F b=0 /\ ∃ arr,Γ.w.heap[b]?=some (.cells arr (fid.ty t) (0,0))/\cs.length<=arr.size/\Reps fid Γ cs (arr.toList.take cs.length) /\ ∀ v∈arr.toList.take cs.length,v.oneCell'=true
 |.froz ds=>ds.length <= Γ.F b /\ ∃ arr e,Γ.w.heap[b]?=some (.cells arr e (0,0)) /\ Γ.F b<=arr.size/\RepDs Γ.F Γ.w ds ((arr.toList.drop (Γ.F b-ds.length)).take ds.length) /\ ∀ v∈(arr.toList.drop (Γ.F b-ds.length)).take ds.length,v.oneCell'=true
 |.iter m => Γ.F b=0 /\ ∃ c since seen last,Γ.μ m=some c /\ Γ.fix m /\ Γ.w.heap[b]?=some (.mapIter (some c) since seen last)
 |.dead=>False
 | .loop lp => Γ.F b=0 /\ ∃ L:Loop,Γ.w.heap[b]?=some (.loop L)/\L.params.toList=lp.ps/\L.state=qvs lp.st/\L.pending=lp.pend.map Ex.code /\
   ∃ N,fid.cr N L.assign lp.assign/\fid.cr N L.body lp.body/\(∀ p∈lp.ps,p<N)/\FrRep fid Γ N lp.fr L.tmps /\ ∀ l∈qaR lp.fr,l < Γ.σ.length
structure Real(fid:Fid)(Γ : Ctx):Prop where
 obs : ∀ l ob b,Γ.σ[l]?=some ob -> Γ.μ l=some b->RepOb fid Γ b ob
 dom : ∀ l b,Γ.μ l=some b->l < Γ.σ.length/\b < Γ.w.heap.size
 inj : ∀ l l' b,Γ.μ l=some b -> Γ.μ l'=some b->l=l'
 imm : ∀ b,0 < Γ.F b -> ∃ arr e fz,Γ.w.heap[b]?=some (.cells arr e fz) /\ Γ.F b<=arr.size
 glb : ∀ g cs,fid.gl g=some cs -> ∃ vs,RepDs Γ.F Γ.w cs vs/\Row Γ.F Γ.w g 0 vs
structure Ext(Γ Γ':Ctx):Prop where
 size : Γ.w.heap.size <= Γ'.w.heap.size
 os : Γ'.w.os = Γ.w.os
 tape : Γ'.w.tape = Γ.w.tape
 output : Γ'.w.output = Γ.w.output
 mono : ∀ b,Γ.F b <= Γ'.F b
 cell : ∀ b i v,i < Γ.F b -> Γ.w.cell? ⟨b,i,none⟩=some v -> Γ'.w.cell? ⟨b,i,none⟩=some v
 arr : ∀ b arr e,0 < Γ.F b -> Γ.w.heap[b]?=some (.cells arr e (0,0)) -> ∃ arr',Γ'.w.heap[b]?=some (.cells arr' e (0,0))/\arr'.size=arr.size
 len : Γ.σ.length <= Γ'.σ.length
 fix : ∀ l ob,Γ.σ[l]?=some ob->ob.isTip=false->(∃ ob',Γ'.σ[l]?=some ob'/\ob'.isTip=false) /\ ∀ b,Γ.μ l=some b -> Γ'.μ l=some b
 tip : ∀ l m,Γ.σ[l]?=some (.tip m) -> ∃ m',Γ'.σ[l]?=some (.tip m')/\m<=m'/\((Γ.μ l).isSome=true->(Γ'.μ l).isSome=true)/\(m=m' -> ∀ b,Γ.μ l=some b -> Γ'.μ l=some b)
 row : ∀ l ob,Γ.σ[l]?=some ob->ob.isTip=true -> ∃ ob',Γ'.σ[l]?=some ob'/\ob'.isTip=true /\
  ∀ cs',ob'.rows=some cs' -> ∃ cs,ob.rows=some cs/\cs.length<=cs'.length /\
   (cs.length=cs'.length -> ∀ b,Γ.μ l=some b -> Γ'.μ l=some b /\ Γ'.F b-ob'.fz = Γ.F b-ob.fz /\ ∀ arr e,Γ.w.heap[b]?=some (.cells arr e (0,0)) -> ∃ arr',Γ'.w.heap[b]?=some (.cells arr' e (0,0))/\arr'.size=arr.size)
structure Frm(Γ Γ':Ctx):Prop where
 same : ∀ b,b < Γ.w.heap.size->(∀ l,Γ.μ l≠some b) -> Γ'.w.heap[b]? = Γ.w.heap[b]? /\ Γ'.F b = Γ.F b
 new : ∀ l b,Γ'.μ l=some b->b < Γ.w.heap.size -> ∃ l',Γ.μ l'=some b
def Non(Γ Γ':Ctx):Prop := ∀ l,l < Γ.σ.length -> Γ.μ l=none -> Γ'.μ l=none
structure Step(Γ Γ':Ctx):Prop where
 ext:Ext Γ Γ'
 frm:Frm Γ Γ'
 non:Non Γ Γ'
theorem Ext.refl(Γ : Ctx):Ext Γ Γ:=
 ⟨Wg _,rfl,rfl,rfl,fun _=>Wg _,fun _ _ _ _ h=>h,fun _ arr _ _ h=>⟨arr,h,rfl⟩,Wg _,
  fun _ ob h ht=>⟨⟨ob,h,ht⟩,fun _ h=>h⟩,fun _ m h=>⟨m,h,Wg _,fun h=>h,fun _ _ h=>h⟩,
  fun _ ob h ht=>⟨ob,h,ht,fun cs h=>⟨cs,h,Wg _,fun _ _ hb=>⟨hb,rfl,fun arr _ ha=>⟨arr,ha,rfl⟩⟩⟩⟩⟩
theorem Ext.trans{A B C:Ctx}(h:Ext A B)(k:Ext B C):Ext A C where
 size:=Yc h.size k.size
 os:=k.os.trans h.os
 tape:=k.tape.trans h.tape
 output:=k.output.trans h.output
 mono b:=Yc (h.mono b) (k.mono b)
 cell b i v hi hv:=k.cell b i v (W3 hi (h.mono b)) (h.cell b i v hi hv)
 arr b arr e hb ha:=by
  obtain⟨a1,h1,s1⟩:=h.arr b arr e hb ha
  obtain⟨a2,h2,s2⟩:=k.arr b a1 e (W3 hb (h.mono b)) h1
  exact⟨a2,h2,s2.trans s1⟩
 len:=Yc h.len k.len
 fix l ob ho ht:=by
  obtain⟨⟨o1,h1,t1⟩,m1⟩:=h.fix l ob ho ht
  obtain⟨⟨o2,h2,t2⟩,m2⟩:=k.fix l o1 h1 t1
  exact⟨⟨o2,h2,t2⟩,fun b hb=>m2 b (m1 b hb)⟩
 tip l m hm:=by
  obtain⟨m1,h1,le1,s1,e1⟩:=h.tip l m hm
  obtain⟨m2,h2,le2,s2,e2⟩:=k.tip l m1 h1
  refine⟨m2,h2,Yc le1 le2,fun hs=>s2 (s1 hs),fun hm b hb=>?_⟩
  have:m=m1:=by omega
  subst this
  exact e2 hm b (e1 rfl b hb)
 row l ob ho ht:=by
  obtain⟨o1,h1,t1,r1⟩:=h.row l ob ho ht
  obtain⟨o2,h2,t2,r2⟩:=k.row l o1 h1 t1
  refine⟨o2,h2,t2,fun cs2 hc2=>?_⟩
  obtain⟨cs1,c1,l1,q1⟩:=r2 cs2 hc2
  obtain⟨cs,c,l2,q2⟩:=r1 cs1 c1
  refine⟨cs,c,Yc l2 l1,fun hl b hb=>?_⟩
  obtain⟨m1,f1,a1⟩:=q2 (by omega) b hb
  obtain⟨m2,f2,a2⟩:=q1 (by omega) b m1
  refine⟨m2,f2.trans f1,fun arr e ha=>?_⟩
  obtain⟨arr1,g1,s1⟩:=a1 arr e ha
  obtain⟨arr2,g2,s2⟩:=a2 arr1 e g1
  exact⟨arr2,g2,s2.trans s1⟩
theorem Frm.refl(Γ : Ctx):Frm Γ Γ := ⟨fun _ _ _=>⟨rfl,rfl⟩,fun l _ h _=>⟨l,h⟩⟩
theorem Frm.trans{A B C:Ctx}(hs:A.w.heap.size<=B.w.heap.size)(h:Frm A B)(k:Frm B C):Frm A C where
 same b hb hn:=by
  obtain⟨h1,h2⟩:=h.same b hb hn
  have hn' : ∀ l,B.μ l≠some b:=fun l hl=>by
   obtain⟨l',hl'⟩:=h.new l b hl hb
   exact hn l' hl'
  obtain⟨k1,k2⟩:=k.same b (W3 hb hs) hn'
  exact⟨k1.trans h1,k2.trans h2⟩
 new l b hl hb:=by
  obtain⟨l',hl'⟩:=k.new l b hl (W3 hb hs)
  exact h.new l' b hl' hb
theorem Step.refl(Γ : Ctx):Step Γ Γ := ⟨.refl _,.refl _,fun _ _ h=>h⟩
theorem Step.trans{A B C:Ctx}(h:Step A B)(k:Step B C):Step A C:=⟨h.ext.trans k.ext,.trans h.ext.size h.frm k.frm,fun l hl hn=>k.non l (W3 hl h.ext.len) (h.non l hl hn)⟩
theorem Row.ext{Γ Γ':Ctx}(h:Ext Γ Γ'){b o:Nat}{vs:List Value}(hr:Row Γ.F Γ.w b o vs):Row Γ'.F Γ'.w b o vs:=by
 refine⟨fun i v hi=>?_,fun hp=>Yc (hr.2.1 hp) (h.mono b),hr.2.2⟩
 have hlt:i<vs.length:=by
  rcases Yn i vs.length with h'|h'
  ·exact h'
  ·rw[WX h'] at hi; cases hi
 have hp:0<vs.length:=by omega
 exact h.cell b (o+i) v (by have:=hr.2.1 hp; omega) (hr.1 i v hi)
mutual
theorem RepD.ext{Γ Γ':Ctx}(h:Ext Γ Γ') : ∀ (d:D) (x:Value),RepD Γ.F Γ.w d x->RepD Γ'.F Γ'.w d x
 |.lit v,x,hr=>by simpa only [RepD] using hr
 |.sl cs n full,x,hr=>by
  simp only[RepD] at hr ⊢
  obtain⟨b,o,cap,vs,h1,h2,h3,h4,h5⟩:=hr
  exact⟨b,o,cap,vs,h1,h2,h3,RepDs.ext h cs vs h4,h5.ext h⟩
 |.imm cs o,x,hr=>by
  simp only[RepD] at hr ⊢
  obtain⟨b,o',vs,h1,h4,h5⟩:=hr
  exact⟨b,o',vs,h1,RepDs.ext h cs vs h4,h5.ext h⟩
 |.agg cs,x,hr=>by
  simp only[RepD] at hr ⊢
  obtain⟨vs,h1,h2⟩:=hr
  exact⟨vs,h1,RepDs.ext h cs vs h2⟩
 |.iface t d,x,hr=>by simp only[RepD] at hr
theorem RepDs.ext{Γ Γ':Ctx}(h:Ext Γ Γ') : ∀ (ds:List D) (xs:List Value),RepDs Γ.F Γ.w ds xs->RepDs Γ'.F Γ'.w ds xs
 |[],xs,hr=>by simpa only [RepDs] using hr
 |d::ds,xs,hr=>by
  simp only[RepDs] at hr ⊢
  obtain⟨y,ys,h1,h2,h3⟩:=hr
  exact⟨y,ys,h1,RepD.ext h d y h2,RepDs.ext h ds ys h3⟩
end
theorem Ctx.fix.ext{Γ Γ':Ctx}(h:Ext Γ Γ'){l:Nat}(hf : Γ.fix l) : Γ'.fix l:=by
 obtain⟨ob,h1,h2⟩:=hf
 exact (h.fix l ob h1 h2).1
theorem μ_ext{Γ Γ':Ctx}(h:Ext Γ Γ'){l b:Nat}(hf : Γ.fix l)(hm : Γ.μ l=some b) : Γ'.μ l=some b:=by
 obtain⟨ob,h1,h2⟩:=hf
 exact (h.fix l ob h1 h2).2 b hm
theorem RepDs.length{F:Nat->Nat}{w:World} : ∀ {ds:List D} {xs:List Value},RepDs F w ds xs->xs.length=ds.length
 |[],xs,hr=>by simp only[RepDs] at hr; simp[hr]
 |d::ds,xs,hr=>by
  simp only[RepDs] at hr
  obtain⟨y,ys,h1,_,h3⟩:=hr
  simp[h1,RepDs.length h3]
mutual
theorem Rep.ext{fid:Fid}{Γ Γ':Ctx}(h:Ext Γ Γ') : ∀ (v:V) (x:Value),Rep fid Γ v x->Rep fid Γ' v x
 |.dat d,x,hr=>by simp only[Rep] at hr ⊢; exact RepD.ext h d x hr
 |.ptr l o,x,hr=>by
  simp only[Rep] at hr ⊢
  obtain⟨b,h1,h2,h3⟩:=hr
  exact⟨b,μ_ext h h3 h1,h2,h3.ext h⟩
 |.gsl cs n sz l,x,hr=>by
  simp only[Rep] at hr ⊢
  obtain⟨b,cap,vs,m,h1,h2,h3,h4,h5,h6,h7,h8,h9⟩:=hr
  obtain⟨m',t1,t2,t3,t4⟩:=h.tip l m h6
  refine⟨b,cap,vs,m',h1,h2,RepDs.ext h cs vs h3,h4.ext h,h5,t1,t3 h7,by omega,fun hm=>?_⟩
  have:cs.length=m:=by omega
  obtain⟨k1,arr,e,k2,k3⟩:=h9 this
  have hF:0 < Γ.F b:=by
   have hl:=RepDs.length h3
   have hp:0<vs.length:=by rw[hl]; exact List.length_pos_iff.2 h5
   have:=h4.2.1 hp; omega
  obtain⟨arr',a1,a2⟩:=h.arr b arr e hF k2
  exact⟨t4 (by omega) b k1,arr',e,a1,by omega⟩
 |.msl l o n cap sz,x,hr=>by
  simp only[Rep] at hr ⊢
  obtain⟨b,h1,h2,h3,h4⟩:=hr
  exact⟨b,μ_ext h h4 h1,h2,h3,h4.ext h⟩
 |.own l n sz,x,hr=>by
  simp only[Rep] at hr ⊢
  obtain⟨a,cap,h1,h2,hz,⟨ob,h3,h4⟩,h5⟩:=hr
  obtain⟨ob',g1,g2,g3⟩:=h.row l ob h3 h4
  refine⟨a,cap,h1,h2,hz,⟨ob',g1,g2⟩,fun ob1 cs1 k1 k2=>?_⟩
  rw[g1] at k1; cases k1
  obtain⟨cs,c1,c2,c3⟩:=g3 cs1 k2
  obtain⟨d1,d2⟩:=h5 ob cs h3 c1
  refine⟨Yc d1 c2,fun hl=>?_⟩
  obtain⟨b,arr,e,e1,e2,e3,e4⟩:=d2 (by omega)
  obtain⟨m1,mf,m2⟩:=c3 (by omega) b e1
  obtain⟨arr',a1,a2⟩:=m2 arr e e3
  exact⟨b,arr',e,m1,by rw[mf]; exact e2,a1,by rw[mf]; omega⟩
 |.eptr l n o,x,hr=>by
  simp only[Rep] at hr ⊢
  obtain⟨a,h1,⟨ob,h3,h4⟩,h5⟩:=hr
  obtain⟨ob',g1,g2,g3⟩:=h.row l ob h3 h4
  refine⟨a,h1,⟨ob',g1,g2⟩,fun ob1 cs1 k1 k2=>?_⟩
  rw[g1] at k1; cases k1
  obtain⟨cs,c1,c2,c3⟩:=g3 cs1 k2
  obtain⟨d1,d2⟩:=h5 ob cs h3 c1
  refine⟨Yc d1 c2,fun hl=>?_⟩
  obtain⟨b,arr,e,e1,e2,e3,e4⟩:=d2 (by omega)
  obtain⟨m1,mf,m2⟩:=c3 (by omega) b e1
  obtain⟨arr',a1,a2⟩:=m2 arr e e3
  exact⟨b,arr',e,m1,by rw[mf]; exact e2,a1,by rw[mf]; omega⟩
 |.vw l n o k sz,x,hr=>by
  simp only[Rep] at hr ⊢
  obtain⟨a,cap,h1,h2,hz,⟨ob,h3,h4⟩,h5⟩:=hr
  obtain⟨ob',g1,g2,g3⟩:=h.row l ob h3 h4
  refine⟨a,cap,h1,h2,hz,⟨ob',g1,g2⟩,fun ob1 cs1 k1 k2=>?_⟩
  rw[g1] at k1; cases k1
  obtain⟨cs,c1,c2,c3⟩:=g3 cs1 k2
  obtain⟨d1,d2⟩:=h5 ob cs h3 c1
  refine⟨Yc d1 c2,fun hl=>?_⟩
  obtain⟨b,arr,e,e1,e2,e3,e4,e5,e6⟩:=d2 (by omega)
  obtain⟨m1,mf,m2⟩:=c3 (by omega) b e1
  obtain⟨arr',a1,a2⟩:=m2 arr e e3
  exact⟨b,arr',e,m1,by rw[mf]; exact e2,a1,e4,by rw[mf]; omega,by rw[mf]; omega⟩
 |.rw cs n,x,hr=>by
  simp only[Rep] at hr ⊢
  obtain⟨b,o,cap,vs,h1,h2,h3,h4⟩:=hr
  exact⟨b,o,cap,vs,h1,h2,Reps.ext h cs vs h3,h4.ext h⟩
 |.bm g v,x,hr=>by
  simp only[Rep] at hr ⊢
  obtain⟨t,nm,y,h1,h2,h3⟩:=hr
  exact⟨t,nm,y,h1,h2,Rep.ext h v y h3⟩
 |.agg cs,x,hr=>by
  simp only[Rep] at hr ⊢
  obtain⟨vs,h1,h2⟩:=hr
  exact⟨vs,h1,Reps.ext h cs vs h2⟩
 |.fn f a b,x,hr=>by
  simp only[Rep] at hr ⊢
  obtain⟨as,bs,h1,h2,h3⟩:=hr
  exact⟨as,bs,h1,Reps.ext h a as h2,Reps.ext h b bs h3⟩
 |.mp l,x,hr=>by
  simp only[Rep] at hr ⊢
  obtain⟨b,h1,h2,h3⟩:=hr
  exact⟨b,μ_ext h h3 h1,h2,h3.ext h⟩
 |.iface t v,x,hr=>by
  simp only[Rep] at hr ⊢
  obtain⟨y,h1,h2⟩:=hr
  exact⟨y,h1,Rep.ext h v y h2⟩
 |.tup vs,x,hr=>by
  simp only[Rep] at hr ⊢
  obtain⟨xs,h1,h2⟩:=hr
  exact⟨xs,h1,Reps.ext h vs xs h2⟩
 |.yld l,x,hr=>by
  simp only[Rep] at hr ⊢
  obtain⟨b,h1,h2,h3⟩:=hr
  exact⟨b,μ_ext h h3 h1,h2,h3.ext h⟩
 |.pan _,x,hr=>by simp only[Rep] at hr
theorem Reps.ext{fid:Fid}{Γ Γ':Ctx}(h:Ext Γ Γ') : ∀ (vs:List V) (xs:List Value),Reps fid Γ vs xs->Reps fid Γ' vs xs
 |[],xs,hr=>by simpa only [Reps] using hr
 |d::ds,xs,hr=>by
  simp only[Reps] at hr ⊢
  obtain⟨y,ys,h1,h2,h3⟩:=hr
  exact⟨y,ys,h1,Rep.ext h d y h2,Reps.ext h ds ys h3⟩
end
theorem FrRep.ext{fid:Fid}{Γ Γ':Ctx}(h:Ext Γ Γ'){N:Nat}{fr:Fr}{tmps:Array Value}(hf:FrRep fid Γ N fr tmps):FrRep fid Γ' N fr tmps:=
 ⟨hf.1,fun t v ht hv=>Rep.ext h _ _ (hf.2 t v ht hv)⟩
theorem RepE.ext{fid:Fid}{Γ Γ':Ctx}(h:Ext Γ Γ') : ∀ (es:List (Value × V)) (xs:List MapEntry),RepE fid Γ es xs->RepE fid Γ' es xs
 |[],xs,hr=>by simpa only [RepE] using hr
 | (k,v)::r,xs,hr=>by
  simp only[RepE] at hr ⊢
  obtain⟨e,es,h1,h2,h3,h4⟩:=hr
  exact⟨e,es,h1,h2,Rep.ext h v e.val h3,RepE.ext h r es h4⟩
theorem Reps.length{fid:Fid}{Γ : Ctx} : ∀ {vs:List V} {xs:List Value},Reps fid Γ vs xs->xs.length=vs.length
 |[],xs,hr=>by simp only[Reps] at hr; simp[hr]
 |d::ds,xs,hr=>by
  simp only[Reps] at hr
  obtain⟨y,ys,h1,_,h3⟩:=hr
  simp[h1,Reps.length h3]
theorem Glb.ext{fid:Fid}{Γ Γ':Ctx}(h:Ext Γ Γ')(hg : ∀ g cs,fid.gl g=some cs -> ∃ vs,RepDs Γ.F Γ.w cs vs/\Row Γ.F Γ.w g 0 vs) : ∀ g cs,fid.gl g=some cs -> ∃ vs,RepDs Γ'.F Γ'.w cs vs/\Row Γ'.F Γ'.w g 0 vs:=
 fun g cs hc=>let ⟨vs,h1,h2⟩:=hg g cs hc; ⟨vs,RepDs.ext h cs vs h1,h2.ext h⟩
theorem RepOb.ext{fid:Fid}{Γ Γ':Ctx}(h:Ext Γ Γ'){b:Nat}(hh : Γ'.w.heap[b]? = Γ.w.heap[b]?)(hF : Γ'.F b = Γ.F b) : ∀ ob,RepOb fid Γ b ob->RepOb fid Γ' b ob
 |.cells cs,hr=>by
  simp only[RepOb] at hr ⊢
  obtain⟨h1,arr,e,h2,h3⟩:=hr
  exact⟨hF.trans h1,arr,e,hh.trans h2,Reps.ext h cs _ h3⟩
 |.map es,hr=>by
  simp only[RepOb] at hr ⊢
  obtain⟨h1,arr,e,h2,h3⟩:=hr
  exact⟨hF.trans h1,arr,e,hh.trans h2,RepE.ext h es _ h3⟩
 |.tip m,hr=>by
  simp only[RepOb] at hr ⊢
  exact⟨hF.trans hr.1,hr.2⟩
 |.vec cs,hr=>by
  simp only[RepOb,hF] at hr ⊢
  obtain⟨arr,e,h2,h3,h4,h5⟩:=hr
  exact⟨arr,e,hh.trans h2,h3,Reps.ext h cs _ h4,h5⟩
 |.cellsT t cs,hr=>by
  simp only[RepOb] at hr ⊢
  obtain⟨h1,arr,h2,h3⟩:=hr
  exact⟨hF.trans h1,arr,hh.trans h2,Reps.ext h cs _ h3⟩
 |.vecT t cs,hr=>by
  simp only[RepOb] at hr ⊢
  obtain⟨h1,arr,h2,h3,h4,h5⟩:=hr
  exact⟨hF.trans h1,arr,hh.trans h2,h3,Reps.ext h cs _ h4,h5⟩
 |.froz ds,hr=>by
  simp only[RepOb,hF] at hr ⊢
  obtain⟨h1,arr,e,h2,h3,h4,h5⟩:=hr
  exact⟨h1,arr,e,hh.trans h2,h3,RepDs.ext h ds _ h4,h5⟩
 |.iter m,hr=>by
  simp only[RepOb] at hr ⊢
  obtain⟨h1,c,s,n,t,h2,h3,h4⟩:=hr
  exact⟨hF.trans h1,c,s,n,t,μ_ext h h3 h2,h3.ext h,hh.trans h4⟩
 |.dead,hr=>by simp only[RepOb] at hr
 |.loop lp,hr=>by
  simp only[RepOb] at hr ⊢
  obtain⟨h1,L,h2,h3,h4,h5,N,h6,h7,h8,h9,h10⟩:=hr
  exact⟨hF.trans h1,L,hh.trans h2,h3,h4,h5,N,h6,h7,h8,FrRep.ext h h9,fun l hl=>W3 (h10 l hl) h.len⟩
theorem qkj{tmps:Array Value}{d:Nat}{x:Value}(h:d<tmps.size):(tmps.setIfInBounds d x).getD d undef=x:=by
 simp[Array.getD,h]
theorem qiF{tmps:Array Value}{d t:Nat}{x:Value}(h:d≠t):(tmps.setIfInBounds d x).getD t undef=tmps.getD t undef:=by
 simp only[Array.getD_eq_getD_getElem?,Yq h]
theorem FrRep.put {fid:Fid} {Γ : Ctx} {N:Nat} {fr:Fr} {a:Act} {dst:Option Nat} {v:V} {x:Value} (hf:FrRep fid Γ N fr a.tmps)
  (hd : ∀ d,dst=some d->d<N) (hr:Rep fid Γ v x):FrRep fid Γ N (fr.put dst v) (a.put dst x).tmps:=by
 cases dst with
 |none=>exact hf
 |some d=>
  refine⟨by simp[Act.put,hf.1],fun t u ht hu=>?_⟩
  simp only[Fr.put,Fr.get] at hu
  simp only[Act.put]
  split at hu
  ·rename_i e
   subst e
   cases hu
   rw[qkj (by rw[hf.1]; exact hd _ rfl)]
   exact hr
  ·rename_i e
   rw[qiF e]
   exact hf.2 t u ht hu
theorem Fr.get_keep{fr:Fr} : ∀ {ks:List Nat} {t:Nat} {v:V},(fr.keep ks).get t=some v->fr.get t=some v
 |[],t,v,h=>by simp[Fr.keep,Fr.get] at h
 |k::ks,t,v,h=>by
  simp only[Fr.keep] at h
  split at h
  ·rename_i u hu
   simp only[Fr.get] at h
   split at h
   ·rename_i e; subst e; cases h; exact hu
   ·exact Fr.get_keep h
  ·exact Fr.get_keep h
theorem FrRep.keep{fid:Fid}{Γ : Ctx}{N:Nat}{fr:Fr}{tmps:Array Value}(hf:FrRep fid Γ N fr tmps)(ks:List Nat):FrRep fid Γ N (fr.keep ks) tmps:=
 ⟨hf.1,fun t v ht hv=>hf.2 t v ht (Fr.get_keep hv)⟩
end
section
structure WOnly(b:Nat)(w w':World):Prop where
 os:w'.os=w.os
 tape:w'.tape=w.tape
 output:w'.output=w.output
 size:w'.heap.size=w.heap.size
 other : ∀ k,k≠b->w'.heap[k]?=w.heap[k]?
theorem WOnly.refl(b:Nat)(w:World):WOnly b w w:=⟨rfl,rfl,rfl,rfl,fun _ _=>rfl⟩
theorem WOnly.trans{b:Nat}{w w' w'':World}(h:WOnly b w w')(k:WOnly b w' w''):WOnly b w w'':=
 ⟨k.os.trans h.os,k.tape.trans h.tape,k.output.trans h.output,k.size.trans h.size,fun j hj=>(k.other j hj).trans (h.other j hj)⟩
theorem qeQ {Γ Γ':Ctx} (h : ∀ l ob,Γ.σ[l]?=some ob->ob.isTip=true ->
   (Γ'.σ[l]?=some ob /\ ∀ b,Γ.μ l=some b -> Γ'.μ l=some b /\ Γ'.F b = Γ.F b /\ ∀ arr e,Γ.w.heap[b]?=some (.cells arr e (0,0)) -> Γ'.w.heap[b]?=some (.cells arr e (0,0))) \/
   (∃ ob',Γ'.σ[l]?=some ob'/\ob'.isTip=true/\ob'.rows=none)) :
  ∀ l ob,Γ.σ[l]?=some ob->ob.isTip=true -> ∃ ob',Γ'.σ[l]?=some ob'/\ob'.isTip=true /\
   ∀ cs',ob'.rows=some cs' -> ∃ cs,ob.rows=some cs/\cs.length<=cs'.length /\
    (cs.length=cs'.length -> ∀ b,Γ.μ l=some b -> Γ'.μ l=some b /\ Γ'.F b-ob'.fz = Γ.F b-ob.fz /\ ∀ arr e,Γ.w.heap[b]?=some (.cells arr e (0,0)) -> ∃ arr',Γ'.w.heap[b]?=some (.cells arr' e (0,0))/\arr'.size=arr.size):=by
 intro l ob ho ht
 rcases h l ob ho ht with ⟨h1,h2⟩|⟨ob',h1,h2,h3⟩
 ·exact⟨ob,h1,ht,fun cs' hc=>⟨cs',hc,Wg _,fun _ b hb=>⟨(h2 b hb).1,by rw[(h2 b hb).2.1],fun arr e ha=>⟨arr,(h2 b hb).2.2 arr e ha,rfl⟩⟩⟩⟩
 ·exact⟨ob',h1,h2,fun cs' hc=>by rw[h3] at hc; cases hc⟩
theorem cell?_of_block{w w':World}{b:Nat}(h:w'.heap[b]?=w.heap[b]?)(i:Nat):w'.cell? ⟨b,i,none⟩=w.cell? ⟨b,i,none⟩:=by
 simp only[World.cell?,h]
theorem Real.F_lt{fid:Fid}{Γ : Ctx}(h:Real fid Γ){b:Nat}(hb:0 < Γ.F b):b < Γ.w.heap.size:=by
 obtain⟨arr,e,fz,h1,_⟩:=h.imm b hb
 exact (WY.1 h1).1
theorem Real.F_size{fid:Fid}{Γ : Ctx}(h:Real fid Γ) : Γ.F Γ.w.heap.size=0:=by
 rcases W6 (Γ.F Γ.w.heap.size) with h0|h0
 ·exact h0
 ·exact absurd (h.F_lt h0) (WP _)
theorem Real.F_obj{fid:Fid}{Γ : Ctx}(h:Real fid Γ){l b:Nat}{ob:Ob}(ho : Γ.σ[l]?=some ob)(ht:ob.isTip=false)(hm : Γ.μ l=some b) : Γ.F b=0:=by
 have:=h.obs l ob b ho hm
 cases ob with
 |cells cs=>exact this.1
 |cellsT t cs=>exact this.1
 |map es=>exact this.1
 |loop lp=>exact this.1
 |tip m=>simp[Ob.isTip] at ht
 |vec m=>simp[Ob.isTip] at ht
 |vecT t m=>simp[Ob.isTip] at ht
 |froz m=>simp[Ob.isTip] at ht
 |dead=>simp[Ob.isTip] at ht
 |iter m=>exact this.1
theorem upd {fid:Fid} {Γ : Ctx} (hr:Real fid Γ) {l b:Nat} {ob ob':Ob} {w':World} (ho : Γ.σ[l]?=some ob) (ht:ob.isTip=false) (ht':ob'.isTip=false)
  (hm : Γ.μ l=some b) (hw:WOnly b Γ.w w')
  (hn:Ext Γ ⟨Γ.σ.set l ob',Γ.μ,Γ.F,w'⟩->RepOb fid ⟨Γ.σ.set l ob',Γ.μ,Γ.F,w'⟩ b ob') :
  Real fid ⟨Γ.σ.set l ob',Γ.μ,Γ.F,w'⟩/\Step Γ ⟨Γ.σ.set l ob',Γ.μ,Γ.F,w'⟩:=by
 have hF:=hr.F_obj ho ht hm
 have hlt:l < Γ.σ.length:=(Wb.1 ho).1
 have hext:Ext Γ ⟨Γ.σ.set l ob',Γ.μ,Γ.F,w'⟩:=by
  refine⟨YE hw.size.symm,hw.os,hw.tape,hw.output,fun _=>Wg _,fun k i v hi hv=>?_,fun k arr e hk ha=>⟨arr,?_,rfl⟩,by simp,fun j o hj hjt=>⟨?_,fun _ h=>h⟩,fun j m hj=>⟨m,?_,Wg _,fun h=>h,fun _ _ h=>h⟩,qeQ fun j o hj hjt => .inl ?_⟩
  ·have:k≠b:=fun e=>by subst e; omega
   rw[cell?_of_block (hw.other k this)]; exact hv
  ·have:k≠b:=fun e=>by subst e; omega
   rw[hw.other k this]; exact ha
  ·by_cases e:l=j
   ·subst e; exact⟨ob',by simp[hlt],ht'⟩
   ·exact⟨o,by rw[Wj e]; exact hj,hjt⟩
  ·by_cases e:l=j
   ·subst e; rw[ho] at hj; cases hj; simp[Ob.isTip] at ht
   ·rw[Wj e]; exact hj
  ·have e:l≠j:=fun e=>by subst e; rw[ho] at hj; cases hj; rw[ht] at hjt; cases hjt
   refine⟨by rw[Wj e]; exact hj,fun k hk=>⟨hk,rfl,fun arr t ha=>?_⟩⟩
   have:k≠b:=fun e'=>by subst e'; exact e (hr.inj _ _ _ hm hk)
   rw[hw.other k this]; exact ha
 refine⟨⟨fun j o k hj hk=>?_,fun j k hk=>?_,hr.inj,fun k hk=>?_,Glb.ext hext hr.glb⟩,hext,⟨fun k hk hno=>⟨hw.other k fun e=>by subst e; exact hno l hm,rfl⟩,fun j k hj _=>⟨j,hj⟩⟩,fun _ _ h=>h⟩
 ·by_cases e:l=j
  ·subst e
   simp only[Yi hlt,Wd] at hj
   subst hj
   rw[hm] at hk; cases hk
   exact hn hext
  ·rw[Wj e] at hj
   have hb:k≠b:=fun e'=>by subst e'; exact e (hr.inj _ _ _ hm hk)
   exact RepOb.ext hext (hw.other k hb) rfl o (hr.obs j o k hj hk)
 ·have:=hr.dom j k hk
  exact⟨by simpa using this.1,by rw[hw.size]; exact this.2⟩
 ·obtain⟨arr,e,fz,h1,h2⟩:=hr.imm k hk
  have:k≠b:=fun e=>by subst e; simp only at hk; omega
  exact⟨arr,e,fz,by rw[hw.other k this]; exact h1,h2⟩
theorem qaw(w:World)(o:Obj){k:Nat}(h:k<w.heap.size):(w.alloc o).heap[k]?=w.heap[k]?:=by
 simp only[World.alloc,Array.getElem?_push]
 rw[if_neg (by omega)]
theorem qav(w:World)(o:Obj):(w.alloc o).heap[w.heap.size]?=some o:=by
 show (w.heap.push o)[w.heap.size]?=some o
 simp
theorem qcp{w:World}{k:Nat}{o:Obj}(h:w.heap[k]?=some o):k<w.heap.size:=(WY.1 h).1
def bind(μ : Nat->Option Nat)(l b:Nat):Nat->Option Nat:=fun j=>if j=l then some b else μ j
def grow(F:Nat->Nat)(b n:Nat):Nat->Nat:=fun j=>if j=b then n else F j
theorem qf6 {Γ : Ctx} (hF : Γ.F Γ.w.heap.size=0) (hlt : ∀ b,0 < Γ.F b->b < Γ.w.heap.size) (o:Obj) (σ':S) (μ':Nat->Option Nat) (n:Nat)
  (hσ : Γ.σ.length <= σ'.length)
  (hfix : ∀ l ob,Γ.σ[l]?=some ob->ob.isTip=false->(∃ ob',σ'[l]?=some ob'/\ob'.isTip=false) /\ ∀ b,Γ.μ l=some b -> μ' l=some b)
  (htip : ∀ l m,Γ.σ[l]?=some (.tip m) -> ∃ m',σ'[l]?=some (.tip m')/\m<=m'/\((Γ.μ l).isSome=true->(μ' l).isSome=true)/\(m=m' -> ∀ b,Γ.μ l=some b -> μ' l=some b))
  (hrow : ∀ l ob,Γ.σ[l]?=some ob->ob.isTip=true->(σ'[l]?=some ob /\ ∀ b,Γ.μ l=some b -> μ' l=some b/\b < Γ.w.heap.size)\/(∃ ob',σ'[l]?=some ob'/\ob'.isTip=true/\ob'.rows=none)) :
  Ext Γ ⟨σ',μ',grow Γ.F Γ.w.heap.size n,Γ.w.alloc o⟩:=by
 have hal : ∀ b,b < Γ.w.heap.size->(Γ.w.alloc o).heap[b]? = Γ.w.heap[b]?:=fun b hb=>by
  simp only[World.alloc,Array.getElem?_push]
  rw[if_neg (by omega)]
 refine⟨by simp,rfl,rfl,rfl,fun b=>?_,fun b i v hi hv=>?_,fun b arr e hb ha=>⟨arr,?_,rfl⟩,hσ,hfix,htip,qeQ fun l ob ho ht=>?_⟩
 ·simp only[grow]; split
  ·rename_i e; subst e; omega
  ·exact Wg _
 ·have hb:b < Γ.w.heap.size:=hlt b (by omega)
  rw[cell?_of_block (qaw Γ.w o hb)]; exact hv
 ·have hb:b < Γ.w.heap.size:=hlt b hb
  rw[qaw Γ.w o hb]; exact ha
 ·rcases hrow l ob ho ht with ⟨h1,h2⟩|h1
  ·exact .inl ⟨h1,fun b hb=>⟨(h2 b hb).1,by simp only[grow]; rw[if_neg (by have:=(h2 b hb).2; omega)],fun arr e ha=>by show (Γ.w.alloc o).heap[b]?=_; rw[hal b (h2 b hb).2]; exact ha⟩⟩
  ·exact .inr h1
theorem qne {fid:Fid} {Γ : Ctx} (hr:Real fid Γ) (arr:Array Value) (e:TypeId) (n:Nat) (hn:n<=arr.size) :
  Real fid ⟨Γ.σ,Γ.μ,grow Γ.F Γ.w.heap.size n,Γ.w.alloc (.cells arr e)⟩/\Step Γ ⟨Γ.σ,Γ.μ,grow Γ.F Γ.w.heap.size n,Γ.w.alloc (.cells arr e)⟩:=by
 have hext:=qf6 hr.F_size (fun b=>hr.F_lt) (.cells arr e) Γ.σ Γ.μ n (Wg _) (fun l ob h ht=>⟨⟨ob,h,ht⟩,fun _ h=>h⟩)
  (fun l m h=>⟨m,h,Wg _,fun h=>h,fun _ _ h=>h⟩) (fun l ob h _ => .inl ⟨h,fun b hb=>⟨hb,(hr.dom l b hb).2⟩⟩)
 refine⟨⟨fun l ob b h1 h2=>?_,fun l b h=>?_,hr.inj,fun b hb=>?_,Glb.ext hext hr.glb⟩,hext,⟨fun b hb hn=>⟨qaw _ _ hb,?_⟩,fun l b h _=>⟨l,h⟩⟩,fun _ _ h=>h⟩
 ·have hb:=(hr.dom l b h2).2
  exact RepOb.ext hext (qaw _ _ hb) (by simp only[grow]; rw[if_neg (by omega)]) ob (hr.obs l ob b h1 h2)
 ·have:=hr.dom l b h
  exact⟨this.1,by simp; omega⟩
 ·simp only[grow] at hb ⊢
  split at hb
  ·rename_i e'; subst e'
   exact⟨arr,e,(0,0),qav _ _,by simpa using hn⟩
  ·rename_i e'
   obtain⟨a,t,fz,h1,h2⟩:=hr.imm b hb
   exact⟨a,t,fz,by rw[qaw _ _ (qcp h1)]; exact h1,by simpa [e'] using h2⟩
 ·simp only[grow]; rw[if_neg (by omega)]
theorem qbW {fid:Fid} {Γ : Ctx} (hr:Real fid Γ) (ob:Ob) (o:Obj) (n:Nat)
  (hn : ∀ Γ':Ctx,Γ'=⟨Γ.σ ++ [ob],bind Γ.μ Γ.σ.length Γ.w.heap.size,grow Γ.F Γ.w.heap.size n,Γ.w.alloc o⟩->Ext Γ Γ'->RepOb fid Γ' Γ.w.heap.size ob)
  (hi:0<n -> ∃ arr e fz,o = .cells arr e fz/\n<=arr.size) :
  Real fid ⟨Γ.σ ++ [ob],bind Γ.μ Γ.σ.length Γ.w.heap.size,grow Γ.F Γ.w.heap.size n,Γ.w.alloc o⟩ /\
  Step Γ ⟨Γ.σ ++ [ob],bind Γ.μ Γ.σ.length Γ.w.heap.size,grow Γ.F Γ.w.heap.size n,Γ.w.alloc o⟩:=by
 have hlast : ∀ l ob',Γ.σ[l]?=some ob'->l < Γ.σ.length/\(Γ.σ ++ [ob])[l]?=some ob':=fun l ob' h=>by
  have hl:=(Wb.1 h).1
  exact⟨hl,by rw[Wo hl]; exact h⟩
 have hext:=qf6 hr.F_size (fun b=>hr.F_lt) o (Γ.σ ++ [ob]) (bind Γ.μ Γ.σ.length Γ.w.heap.size) n (by simp)
  (fun l ob' h ht=>⟨⟨ob',(hlast l ob' h).2,ht⟩,fun b hb=>by simp only[bind]; rw[if_neg (by have:=(hlast l ob' h).1; omega)]; exact hb⟩)
  (fun l m h=>⟨m,(hlast l _ h).2,Wg _,fun hs=>by simp only[bind]; split<;>simp_all,fun _ b hb=>by simp only[bind]; rw[if_neg (by have:=(hlast l _ h).1; omega)]; exact hb⟩)
  (fun l ob' h _ => .inl ⟨(hlast l ob' h).2,fun b hb=>⟨by simp only[bind]; rw[if_neg (by have:=(hlast l ob' h).1; omega)]; exact hb,(hr.dom l b hb).2⟩⟩)
 refine⟨⟨fun l ob' b h1 h2=>?_,fun l b h=>?_,fun l l' b h h'=>?_,fun b hb=>?_,Glb.ext hext hr.glb⟩,hext,⟨fun b hb hn=>⟨qaw _ _ hb,?_⟩,fun l b h hb=>?_⟩,fun l hl h=>by simp only[bind]; rw[if_neg (by omega)]; exact h⟩
 ·simp only[bind] at h2
  split at h2
  ·rename_i e; subst e; cases h2
   simp at h1; subst h1
   exact hn _ rfl hext
  ·rename_i e
   have hd:=hr.dom l b h2
   have h1' : Γ.σ[l]?=some ob':=by
    simp only at h1
    rw[Wo hd.1] at h1; exact h1
   exact RepOb.ext hext (qaw _ _ hd.2) (by simp only[grow]; rw[if_neg (by omega)]) ob' (hr.obs l ob' b h1' h2)
 ·simp only[bind] at h
  split at h
  ·rename_i e; subst e; cases h; simp
  ·have:=hr.dom l b h
   exact⟨by simp; omega,by simp; omega⟩
 ·simp only[bind] at h h'
  split at h<;>split at h'
  ·rename_i e e'; exact e.trans e'.symm
  ·cases h; have:=(hr.dom l' _ h').2; omega
  ·cases h'; have:=(hr.dom l _ h).2; omega
  ·exact hr.inj l l' b h h'
 ·simp only[grow] at hb ⊢
  split at hb
  ·rename_i e'; subst e'
   obtain⟨arr,e,fz,ho,hle⟩:=hi hb
   exact⟨arr,e,fz,by rw[qav,ho],by simpa using hle⟩
  ·rename_i e'
   obtain⟨a,t,fz,h1,h2⟩:=hr.imm b hb
   exact⟨a,t,fz,by rw[qaw _ _ (qcp h1)]; exact h1,by simpa [e'] using h2⟩
 ·simp only[grow]; rw[if_neg (by omega)]
 ·simp only[bind] at h
  split at h
  ·cases h; omega
  ·exact⟨l,h⟩
theorem qtW {fid:Fid} {Γ : Ctx} (hr:Real fid Γ) (l0:Nat) (ob:Ob) (o:Obj) (h0 : Γ.σ[l0]?=some ob) (hm : Γ.μ l0=none)
  (hn : ∀ Γ':Ctx,Γ'=⟨Γ.σ,bind Γ.μ l0 Γ.w.heap.size,grow Γ.F Γ.w.heap.size 0,Γ.w.alloc o⟩->Ext Γ Γ'->RepOb fid Γ' Γ.w.heap.size ob) :
  Real fid ⟨Γ.σ,bind Γ.μ l0 Γ.w.heap.size,grow Γ.F Γ.w.heap.size 0,Γ.w.alloc o⟩ /\
  Ext Γ ⟨Γ.σ,bind Γ.μ l0 Γ.w.heap.size,grow Γ.F Γ.w.heap.size 0,Γ.w.alloc o⟩/\Frm Γ ⟨Γ.σ,bind Γ.μ l0 Γ.w.heap.size,grow Γ.F Γ.w.heap.size 0,Γ.w.alloc o⟩:=by
 have hlt:=(Wb.1 h0).1
 have hne : ∀ l b,Γ.μ l=some b->l≠l0:=fun l b h e=>by subst e; rw[hm] at h; cases h
 have hext:=qf6 hr.F_size (fun b=>hr.F_lt) o Γ.σ (bind Γ.μ l0 Γ.w.heap.size) 0 (Wg _)
  (fun l ob' h ht=>⟨⟨ob',h,ht⟩,fun b hb=>by simp only[bind]; rw[if_neg (hne l b hb)]; exact hb⟩)
  (fun l m h=>⟨m,h,Wg _,fun hs=>by simp only[bind]; split<;>simp_all,fun _ b hb=>by simp only[bind]; rw[if_neg (hne l b hb)]; exact hb⟩)
  (fun l ob' h _ => .inl ⟨h,fun b hb=>⟨by simp only[bind]; rw[if_neg (hne l b hb)]; exact hb,(hr.dom l b hb).2⟩⟩)
 refine⟨⟨fun l ob' b h1 h2=>?_,fun l b h=>?_,fun l l' b h h'=>?_,fun b hb=>?_,Glb.ext hext hr.glb⟩,hext,⟨fun b hb hn=>⟨qaw _ _ hb,?_⟩,fun l b h hb=>?_⟩⟩
 ·simp only[bind] at h2
  split at h2
  ·rename_i e; subst e; cases h2
   simp only at h1; rw[h0] at h1; cases h1
   exact hn _ rfl hext
  ·have hd:=hr.dom l b h2
   exact RepOb.ext hext (qaw _ _ hd.2) (by simp only[grow]; rw[if_neg (by omega)]) ob' (hr.obs l ob' b h1 h2)
 ·simp only[bind] at h
  split at h
  ·rename_i e; subst e; cases h; simp[hlt]
  ·have:=hr.dom l b h
   exact⟨this.1,by simp; omega⟩
 ·simp only[bind] at h h'
  split at h<;>split at h'
  ·rename_i e e'; exact e.trans e'.symm
  ·cases h; have:=(hr.dom l' _ h').2; omega
  ·cases h'; have:=(hr.dom l _ h).2; omega
  ·exact hr.inj l l' b h h'
 ·simp only[grow] at hb ⊢
  split at hb
  ·omega
  ·rename_i e'
   obtain⟨a,t,fz,h1,h2⟩:=hr.imm b hb
   exact⟨a,t,fz,by rw[qaw _ _ (qcp h1)]; exact h1,by simpa [e'] using h2⟩
 ·simp only[grow]; rw[if_neg (by omega)]
 ·simp only[bind] at h
  split at h
  ·cases h; omega
  ·exact⟨l,h⟩
theorem qtX {fid:Fid} {Γ : Ctx} (hr:Real fid Γ) {l m m':Nat} (h0 : Γ.σ[l]?=some (.tip m)) (hsome:(Γ.μ l).isSome=true) (hmm:m<m') (arr:Array Value) (e:TypeId) (hn:m'<=arr.size) :
  Real fid ⟨Γ.σ.set l (.tip m'),bind Γ.μ l Γ.w.heap.size,grow Γ.F Γ.w.heap.size m',Γ.w.alloc (.cells arr e)⟩ /\
  Step Γ ⟨Γ.σ.set l (.tip m'),bind Γ.μ l Γ.w.heap.size,grow Γ.F Γ.w.heap.size m',Γ.w.alloc (.cells arr e)⟩:=by
 have hlt:=(Wb.1 h0).1
 have hset : ∀ j ob,Γ.σ[j]?=some ob->j≠l->(Γ.σ.set l (.tip m'))[j]?=some ob:=fun j ob h hj=>by
  rw[Wj (Yb hj)]; exact h
 have hext:=qf6 hr.F_size (fun b=>hr.F_lt) (.cells arr e) (Γ.σ.set l (.tip m')) (bind Γ.μ l Γ.w.heap.size) m' (by simp)
  (fun j ob' h ht=>by
   have hj:j≠l:=fun e=>by subst e; rw[h0] at h; cases h; simp[Ob.isTip] at ht
   exact⟨⟨ob',hset j ob' h hj,ht⟩,fun b hb=>by simp only[bind]; rw[if_neg hj]; exact hb⟩)
  (fun j k h=>by
   by_cases hj:j=l
   ·subst hj; rw[h0] at h; cases h
    exact⟨m',by simp[hlt],YB hmm,fun _=>by simp[bind],fun e=>by omega⟩
   ·exact⟨k,hset j _ h hj,Wg _,fun hs=>by simp only[bind]; rw[if_neg hj]; exact hs,fun _ b hb=>by simp only[bind]; rw[if_neg hj]; exact hb⟩)
  (fun j ob' h _=>by
   by_cases hj:j=l
   ·subst hj; exact .inr ⟨.tip m',by simp[hlt],rfl,rfl⟩
   ·exact .inl ⟨hset j ob' h hj,fun b hb=>⟨by simp only[bind]; rw[if_neg hj]; exact hb,(hr.dom j b hb).2⟩⟩)
 refine⟨⟨fun j ob' b h1 h2=>?_,fun j b h=>?_,fun j j' b h h'=>?_,fun b hb=>?_,Glb.ext hext hr.glb⟩,hext,⟨fun b hb hn=>⟨qaw _ _ hb,?_⟩,fun j b h hb=>?_⟩,fun j _ h=>by simp only[bind]; rw[if_neg (fun e=>by subst e; rw[h] at hsome; cases hsome)]; exact h⟩
 ·simp only[bind] at h2
  split at h2
  ·rename_i e'; subst e'; cases h2
   simp only[Yi hlt,Wd] at h1
   subst h1
   simp[RepOb,grow]; omega
  ·rename_i e'
   have hd:=hr.dom j b h2
   simp only at h1
   rw[Wj (Yb e')] at h1
   exact RepOb.ext hext (qaw _ _ hd.2) (by simp only[grow]; rw[if_neg (by omega)]) ob' (hr.obs j ob' b h1 h2)
 ·simp only[bind] at h
  split at h
  ·rename_i e'; subst e'; cases h; simp[hlt]
  ·have:=hr.dom j b h
   exact⟨by simpa using this.1,by simp; omega⟩
 ·simp only[bind] at h h'
  split at h<;>split at h'
  ·rename_i e e'; exact e.trans e'.symm
  ·cases h; have:=(hr.dom j' _ h').2; omega
  ·cases h'; have:=(hr.dom j _ h).2; omega
  ·exact hr.inj j j' b h h'
 ·simp only[grow] at hb ⊢
  split at hb
  ·rename_i e'; subst e'
   exact⟨arr,e,(0,0),qav _ _,by simpa using hn⟩
  ·rename_i e'
   obtain⟨a,t,fz,h1,h2⟩:=hr.imm b hb
   exact⟨a,t,fz,by rw[qaw _ _ (qcp h1)]; exact h1,by simpa [e'] using h2⟩
 ·simp only[grow]; rw[if_neg (by omega)]
 ·simp only[bind] at h
  split at h
  ·cases h; omega
  ·exact⟨j,h⟩
theorem qtY {fid:Fid} {Γ : Ctx} (hr:Real fid Γ) {l m m' b:Nat} {w':World} (h0 : Γ.σ[l]?=some (.tip m)) (hm : Γ.μ l=some b) (hmm:m<m') (hw:WOnly b Γ.w w')
  {arr arr':Array Value} {e:TypeId} (ha : Γ.w.heap[b]?=some (.cells arr e (0,0))) (ha':w'.heap[b]?=some (.cells arr' e (0,0))) (hs:arr'.size=arr.size) (hn:m'<=arr.size)
  (hpre : ∀ i,i<m->arr'[i]?=arr[i]?) :
  Real fid ⟨Γ.σ.set l (.tip m'),Γ.μ,grow Γ.F b m',w'⟩/\Step Γ ⟨Γ.σ.set l (.tip m'),Γ.μ,grow Γ.F b m',w'⟩:=by
 have hlt:=(Wb.1 h0).1
 have hFb : Γ.F b=m:=(hr.obs l _ b h0 hm).1
 have hext:Ext Γ ⟨Γ.σ.set l (.tip m'),Γ.μ,grow Γ.F b m',w'⟩:=by
  refine⟨YE hw.size.symm,hw.os,hw.tape,hw.output,fun k=>?_,fun k i v hi hv=>?_,fun k a t hk h=>?_,by simp,fun j ob h ht=>?_,fun j k h=>?_,qeQ fun j ob h ht=>?_⟩
  ·simp only[grow]; split
   ·rename_i e'; subst e'; omega
   ·exact Wg _
  ·by_cases e':k=b
   ·subst e'
    simp only[World.cell?,ha] at hv
    simp only[World.cell?,ha']
    simpa [hpre i (by omega)] using hv
   ·rw[cell?_of_block (hw.other k e')]; exact hv
  ·by_cases e':k=b
   ·subst e'; rw[ha] at h; cases h; exact⟨arr',ha',hs⟩
   ·exact⟨a,by rw[hw.other k e']; exact h,rfl⟩
  ·have hj:l≠j:=fun e=>by subst e; rw[h0] at h; cases h; simp[Ob.isTip] at ht
   exact⟨⟨ob,by rw[Wj hj]; exact h,ht⟩,fun _ h=>h⟩
  ·by_cases hj:l=j
   ·subst hj; rw[h0] at h; cases h
    exact⟨m',by simp[hlt],YB hmm,fun h=>h,fun e=>by omega⟩
   ·exact⟨k,by rw[Wj hj]; exact h,Wg _,fun h=>h,fun _ _ h=>h⟩
  ·by_cases hj:l=j
   ·subst hj; exact .inr ⟨.tip m',by simp[hlt],rfl,rfl⟩
   ·refine .inl ⟨by rw[Wj hj]; exact h,fun k hk=>⟨hk,by simp only[grow]; rw[if_neg (fun e'=>by subst e'; exact hj (hr.inj _ _ _ hm hk))],fun a t ha2=>?_⟩⟩
    have hb:k≠b:=fun e'=>by subst e'; exact hj (hr.inj _ _ _ hm hk)
    rw[hw.other k hb]; exact ha2
 refine⟨⟨fun j ob' k h1 h2=>?_,fun j k h=>?_,hr.inj,fun k hk=>?_,Glb.ext hext hr.glb⟩,hext,⟨fun k hk hn=>?_,fun j k h _=>⟨j,h⟩⟩,fun _ _ h=>h⟩
 ·by_cases e':l=j
  ·subst e'
   simp only[Yi hlt,Wd] at h1
   subst h1
   rw[hm] at h2; cases h2
   simp[RepOb,grow]; omega
  ·simp only at h1
   rw[Wj e'] at h1
   have hb:k≠b:=fun e''=>by subst e''; exact e' (hr.inj _ _ _ hm h2)
   exact RepOb.ext hext (hw.other k hb) (by simp only[grow]; rw[if_neg hb]) ob' (hr.obs j ob' k h1 h2)
 ·have:=hr.dom j k h
  exact⟨by simpa using this.1,by rw[hw.size]; exact this.2⟩
 ·simp only[grow] at hk ⊢
  split at hk
  ·rename_i e'; subst e'
   exact⟨arr',e,(0,0),ha',by simp; omega⟩
  ·rename_i e'
   obtain⟨a,t,fz,h1,h2⟩:=hr.imm k hk
   exact⟨a,t,fz,by rw[hw.other k e']; exact h1,by simpa [e'] using h2⟩
 ·have hb:k≠b:=fun e'=>by subst e'; exact hn l hm
  exact⟨hw.other k hb,by simp only[grow]; rw[if_neg hb]⟩
theorem qf7{fid:Fid}{Γ : Ctx}(hr:Real fid Γ):Real fid ⟨Γ.σ,Γ.μ,Γ.F,Γ.w.drew⟩/\Step Γ ⟨Γ.σ,Γ.μ,Γ.F,Γ.w.drew⟩:=by
 have hext:Ext Γ ⟨Γ.σ,Γ.μ,Γ.F,Γ.w.drew⟩:=⟨Wg _,rfl,rfl,rfl,fun _=>Wg _,fun _ _ _ _ h=>h,fun _ arr _ _ h=>⟨arr,h,rfl⟩,Wg _,
  fun _ ob h ht=>⟨⟨ob,h,ht⟩,fun _ h=>h⟩,fun _ m h=>⟨m,h,Wg _,fun h=>h,fun _ _ h=>h⟩,qeQ fun _ _ h _ => .inl ⟨h,fun _ hb=>⟨hb,rfl,fun _ _ ha=>ha⟩⟩⟩
 exact⟨⟨fun l ob b h1 h2=>RepOb.ext hext rfl rfl ob (hr.obs l ob b h1 h2),hr.dom,hr.inj,hr.imm,Glb.ext hext hr.glb⟩,hext,⟨fun _ _ _=>⟨rfl,rfl⟩,fun l _ h _=>⟨l,h⟩⟩,fun _ _ h=>h⟩
theorem qpU{fid:Fid}{Γ : Ctx}(hr:Real fid Γ)(o:Obj):Real fid ⟨Γ.σ,Γ.μ,Γ.F,Γ.w.alloc o⟩/\Step Γ ⟨Γ.σ,Γ.μ,Γ.F,Γ.w.alloc o⟩:=by
 have hext:Ext Γ ⟨Γ.σ,Γ.μ,Γ.F,Γ.w.alloc o⟩:=by
  refine⟨by simp,rfl,rfl,rfl,fun _=>Wg _,fun b i v hi hv=>?_,fun b arr e hb ha=>⟨arr,?_,rfl⟩,Wg _,fun _ ob h ht=>⟨⟨ob,h,ht⟩,fun _ h=>h⟩,fun _ m h=>⟨m,h,Wg _,fun h=>h,fun _ _ h=>h⟩,
   qeQ fun l ob h _ => .inl ⟨h,fun b hb=>⟨hb,rfl,fun _ _ ha=>by show (Γ.w.alloc o).heap[b]?=_; rw[qaw Γ.w o (hr.dom l b hb).2]; exact ha⟩⟩⟩
  ·have hb:b < Γ.w.heap.size:=hr.F_lt (by omega)
   rw[cell?_of_block (qaw Γ.w o hb)]; exact hv
  ·rw[qaw Γ.w o (hr.F_lt hb)]; exact ha
 refine⟨⟨fun l ob b h1 h2=>RepOb.ext hext (qaw _ _ (hr.dom l b h2).2) rfl ob (hr.obs l ob b h1 h2),fun l b h=>?_,hr.inj,fun b hb=>?_,Glb.ext hext hr.glb⟩,hext,⟨fun b hb _=>⟨qaw _ _ hb,rfl⟩,fun l _ h _=>⟨l,h⟩⟩,fun _ _ h=>h⟩
 ·have:=hr.dom l b h
  exact⟨this.1,by simp; omega⟩
 ·obtain⟨a,t,fz,h1,h2⟩:=hr.imm b hb
  exact⟨a,t,fz,by rw[qaw _ _ (qcp h1)]; exact h1,h2⟩
end
section
theorem qww {fid:Fid} {Γ : Ctx} (hr:Real fid Γ) {l b:Nat} {cs cs':List V} {w':World} {arr arr':Array Value} {e:TypeId} (ho : Γ.σ[l]?=some (.vec cs)) (hm : Γ.μ l=some b) (hl:cs.length<=cs'.length)
  (hw:WOnly b Γ.w w') (ha : Γ.w.heap[b]?=some (.cells arr e (0,0))) (ha':w'.heap[b]?=some (.cells arr' e (0,0))) (hs:arr'.size=arr.size)
  (hp : ∀ i v,i < Γ.F b -> Γ.w.cell? ⟨b,i,none⟩=some v->w'.cell? ⟨b,i,none⟩=some v)
  (hn:Ext Γ ⟨Γ.σ.set l (.vec cs'),Γ.μ,Γ.F,w'⟩->RepOb fid ⟨Γ.σ.set l (.vec cs'),Γ.μ,Γ.F,w'⟩ b (.vec cs')) :
  Real fid ⟨Γ.σ.set l (.vec cs'),Γ.μ,Γ.F,w'⟩/\Step Γ ⟨Γ.σ.set l (.vec cs'),Γ.μ,Γ.F,w'⟩:=by
 have hlt:l < Γ.σ.length:=(Wb.1 ho).1
 have hext:Ext Γ ⟨Γ.σ.set l (.vec cs'),Γ.μ,Γ.F,w'⟩:=by
  refine⟨YE hw.size.symm,hw.os,hw.tape,hw.output,fun _=>Wg _,fun k i v hi hv=>?_,fun k a2 e2 hk h2=>?_,by simp,fun j o hj hjt=>⟨⟨o,?_,hjt⟩,fun _ h=>h⟩,fun j m hj=>⟨m,?_,Wg _,fun h=>h,fun _ _ h=>h⟩,fun j o hj hjt=>?_⟩
  ·by_cases e:k=b
   ·subst e; exact hp i v hi hv
   ·rw[cell?_of_block (hw.other k e)]; exact hv
  ·by_cases e:k=b
   ·subst e; rw[ha] at h2; cases h2; exact⟨arr',ha',hs⟩
   ·exact⟨a2,by rw[hw.other k e]; exact h2,rfl⟩
  ·have e:l≠j:=fun e=>by subst e; rw[ho] at hj; cases hj; cases hjt
   rw[Wj e]; exact hj
  ·grind
  ·by_cases e:l=j
   ·subst e
    rw[ho] at hj; cases hj
    refine⟨.vec cs',by simp[hlt],rfl,fun c hc=>?_⟩
    simp only[Ob.rows,Wd] at hc; subst hc
    refine⟨cs,rfl,hl,fun _ k hk=>⟨hk,rfl,fun a t h=>?_⟩⟩
    rw[hm] at hk; cases hk
    rw[ha] at h; cases h
    exact⟨arr',ha',hs⟩
   ·refine⟨o,by rw[Wj e]; exact hj,hjt,fun c hc=>⟨c,hc,Wg _,fun _ k hk=>⟨hk,rfl,fun a t h=>⟨a,?_,rfl⟩⟩⟩⟩
    have:k≠b:=fun e'=>by subst e'; exact e (hr.inj _ _ _ hm hk)
    rw[hw.other k this]; exact h
 refine⟨⟨fun j o k hj hk=>?_,fun j k hk=>?_,hr.inj,fun k hk=>?_,Glb.ext hext hr.glb⟩,hext,⟨fun k hk hno=>⟨hw.other k fun e=>by subst e; exact hno l hm,rfl⟩,fun j k hj _=>⟨j,hj⟩⟩,fun _ _ h=>h⟩
 ·by_cases e:l=j
  ·grind
  ·rw[Wj e] at hj
   have hb:k≠b:=fun e'=>by subst e'; exact e (hr.inj _ _ _ hm hk)
   exact RepOb.ext hext (hw.other k hb) rfl o (hr.obs j o k hj hk)
 ·have:=hr.dom j k hk
  exact⟨by simpa using this.1,by rw[hw.size]; exact this.2⟩
 ·obtain⟨a1,e1,fz,h1,h2⟩:=hr.imm k hk
  by_cases e':k=b
  ·subst e'
   rw[ha] at h1; cases h1
   exact⟨arr',e,_,ha',by rw[hs]; exact h2⟩
  ·exact⟨a1,e1,fz,by rw[hw.other k e']; exact h1,h2⟩
theorem quh {fid:Fid} {Γ : Ctx} (hr:Real fid Γ) {l:Nat} {cs cs':List V} (ho : Γ.σ[l]?=some (.vec cs)) (hsome:(Γ.μ l).isSome=true) (hl:cs.length<cs'.length) (arr:Array Value) (e:TypeId)
  (hn:Ext Γ ⟨Γ.σ.set l (.vec cs'),bind Γ.μ l Γ.w.heap.size,grow Γ.F Γ.w.heap.size 0,Γ.w.alloc (.cells arr e)⟩->RepOb fid ⟨Γ.σ.set l (.vec cs'),bind Γ.μ l Γ.w.heap.size,grow Γ.F Γ.w.heap.size 0,Γ.w.alloc (.cells arr e)⟩ Γ.w.heap.size (.vec cs')) :
  Real fid ⟨Γ.σ.set l (.vec cs'),bind Γ.μ l Γ.w.heap.size,grow Γ.F Γ.w.heap.size 0,Γ.w.alloc (.cells arr e)⟩ /\
  Step Γ ⟨Γ.σ.set l (.vec cs'),bind Γ.μ l Γ.w.heap.size,grow Γ.F Γ.w.heap.size 0,Γ.w.alloc (.cells arr e)⟩:=by
 have hlt:=(Wb.1 ho).1
 have hext:Ext Γ ⟨Γ.σ.set l (.vec cs'),bind Γ.μ l Γ.w.heap.size,grow Γ.F Γ.w.heap.size 0,Γ.w.alloc (.cells arr e)⟩:=by
  have hal : ∀ b,b < Γ.w.heap.size->(Γ.w.alloc (.cells arr e)).heap[b]? = Γ.w.heap[b]?:=fun b hb=>qaw _ _ hb
  refine⟨by simp,rfl,rfl,rfl,fun b=>?_,fun b i v hi hv=>?_,fun b a t hb ha=>⟨a,?_,rfl⟩,by simp,fun j o hj hjt=>?_,fun j m hj=>?_,fun j o hj hjt=>?_⟩
  ·simp only[grow]; split
   ·rename_i e; subst e; rw[hr.F_size]; exact Wg _
   ·exact Wg _
  ·rw[cell?_of_block (hal b (hr.F_lt (by omega)))]; exact hv
  ·rw[hal b (hr.F_lt hb)]; exact ha
  ·have e:l≠j:=fun e=>by subst e; rw[ho] at hj; cases hj; cases hjt
   exact⟨⟨o,by rw[Wj e]; exact hj,hjt⟩,fun b hb=>by simp only[bind]; rw[if_neg (Yb e)]; exact hb⟩
  ·have e:l≠j:=fun e=>by subst e; rw[ho] at hj; cases hj
   exact⟨m,by rw[Wj e]; exact hj,Wg _,fun hs=>by simp only[bind]; rw[if_neg (Yb e)]; exact hs,fun _ b hb=>by simp only[bind]; rw[if_neg (Yb e)]; exact hb⟩
  ·by_cases e:l=j
   ·subst e
    rw[ho] at hj; cases hj
    refine⟨.vec cs',by simp[hlt],rfl,fun c hc=>?_⟩
    simp only[Ob.rows,Wd] at hc; subst hc
    exact⟨cs,rfl,YB hl,fun h=>by omega⟩
   ·refine⟨o,by rw[Wj e]; exact hj,hjt,fun c hc=>⟨c,hc,Wg _,fun _ k hk=>?_⟩⟩
    have hk':=(hr.dom j k hk).2
    exact⟨by simp only[bind]; rw[if_neg (Yb e)]; exact hk,by simp only[grow]; rw[if_neg (by omega)],fun a t h=>⟨a,(hal k hk').trans h,rfl⟩⟩
 refine⟨⟨fun j ob' b h1 h2=>?_,fun j b h=>?_,fun j j' b h h'=>?_,fun b hb=>?_,Glb.ext hext hr.glb⟩,hext,⟨fun b hb hn=>⟨qaw _ _ hb,?_⟩,fun j b h hb=>?_⟩,fun j _ h=>by simp only[bind]; rw[if_neg (fun e=>by subst e; rw[h] at hsome; cases hsome)]; exact h⟩
 ·simp only[bind] at h2
  split at h2
  ·grind
  ·rename_i e'
   have hd:=hr.dom j b h2
   simp only at h1
   rw[Wj (Yb e')] at h1
   exact RepOb.ext hext (qaw _ _ hd.2) (by simp only[grow]; rw[if_neg (by omega)]) ob' (hr.obs j ob' b h1 h2)
 ·simp only[bind] at h
  split at h
  ·rename_i e'; subst e'; cases h; simp[hlt]
  ·have:=hr.dom j b h
   exact⟨by simpa using this.1,by simp; omega⟩
 ·simp only[bind] at h h'
  split at h<;>split at h'
  ·rename_i e e'; exact e.trans e'.symm
  ·cases h; have:=(hr.dom j' _ h').2; omega
  ·cases h'; have:=(hr.dom j _ h).2; omega
  ·exact hr.inj j j' b h h'
 ·simp only[grow] at hb ⊢
  split at hb
  ·omega
  ·rename_i e'
   obtain⟨a,t,fz,h1,h2⟩:=hr.imm b hb
   exact⟨a,t,fz,by rw[qaw _ _ (qcp h1)]; exact h1,by simpa [e'] using h2⟩
 ·simp only[grow]; rw[if_neg (by omega)]
 ·grind [bind]
theorem qqa {fid:Fid} {Γ : Ctx} (hr:Real fid Γ) {l b:Nat} {cs:List V} {ds:List D} (ho : Γ.σ[l]?=some (.vec cs)) (hm : Γ.μ l=some b) (hl:ds.length=cs.length)
  (hn:Ext Γ ⟨Γ.σ.set l (.froz ds),Γ.μ,grow Γ.F b (Γ.F b+ds.length),Γ.w⟩->RepOb fid ⟨Γ.σ.set l (.froz ds),Γ.μ,grow Γ.F b (Γ.F b+ds.length),Γ.w⟩ b (.froz ds)) :
  Real fid ⟨Γ.σ.set l (.froz ds),Γ.μ,grow Γ.F b (Γ.F b+ds.length),Γ.w⟩/\Step Γ ⟨Γ.σ.set l (.froz ds),Γ.μ,grow Γ.F b (Γ.F b+ds.length),Γ.w⟩:=by
 have hob:=hr.obs l _ b ho hm
 simp only[RepOb] at hob
 obtain⟨arr,e,ha,hle,_,_⟩:=hob
 have hlt:l < Γ.σ.length:=(Wb.1 ho).1
 have hext:Ext Γ ⟨Γ.σ.set l (.froz ds),Γ.μ,grow Γ.F b (Γ.F b+ds.length),Γ.w⟩:=by
  refine⟨Wg _,rfl,rfl,rfl,fun k=>?_,fun k i v hi hv=>hv,fun k arr e hk ha=>⟨arr,ha,rfl⟩,by simp,fun j o hj hjt=>⟨⟨o,?_,hjt⟩,fun _ h=>h⟩,fun j m hj=>⟨m,?_,Wg _,fun h=>h,fun _ _ h=>h⟩,fun j o hj hjt=>?_⟩
  ·grind [grow]
  ·have e:l≠j:=fun e=>by subst e; rw[ho] at hj; cases hj; cases hjt
   rw[Wj e]; exact hj
  ·grind
  ·by_cases e:l=j
   ·subst e
    rw[ho] at hj; cases hj
    refine⟨.froz ds,by simp[hlt],rfl,fun c hc=>?_⟩
    simp only[Ob.rows,Wd] at hc; subst hc
    refine⟨cs,rfl,by simp[hl],fun _ k hk=>⟨hk,?_,fun a t h=>⟨a,h,rfl⟩⟩⟩
    rw[hm] at hk; cases hk
    simp[grow,Ob.fz]
   ·refine⟨o,by rw[Wj e]; exact hj,hjt,fun c hc=>⟨c,hc,Wg _,fun _ k hk=>⟨hk,?_,fun a t h=>⟨a,h,rfl⟩⟩⟩⟩
    have:k≠b:=fun e'=>by subst e'; exact e (hr.inj _ _ _ hm hk)
    simp only[grow]; rw[if_neg this]
 refine⟨⟨fun j o k hj hk=>?_,fun j k hk=>?_,hr.inj,fun k hk=>?_,Glb.ext hext hr.glb⟩,hext,⟨fun k hk hno=>⟨rfl,?_⟩,fun j k hj _=>⟨j,hj⟩⟩,fun _ _ h=>h⟩
 ·by_cases e:l=j
  ·grind
  ·rw[Wj e] at hj
   have hb:k≠b:=fun e'=>by subst e'; exact e (hr.inj _ _ _ hm hk)
   exact RepOb.ext hext rfl (by simp only[grow]; rw[if_neg hb]) o (hr.obs j o k hj hk)
 ·have:=hr.dom j k hk
  exact⟨by simpa using this.1,this.2⟩
 ·simp only[grow] at hk ⊢
  split at hk
  ·grind
  ·rename_i e'
   obtain⟨a,t,fz,h1,h2⟩:=hr.imm k hk
   exact⟨a,t,fz,h1,by simpa [e'] using h2⟩
 ·grind [grow]
def pass(μ : Nat->Option Nat)(l n:Nat):Nat->Option Nat:=fun j=>if j=n then μ l else if j=l then none else μ j
theorem qsT {fid:Fid} {Γ : Ctx} (hr:Real fid Γ) {l b:Nat} {cs cs':List V} (ho : Γ.σ[l]?=some (.vec cs)) (hm : Γ.μ l=some b) {n:Nat} (hnF : Γ.F b<=n) {arr:Array Value} {e:TypeId} (ha : Γ.w.heap[b]?=some (.cells arr e (0,0))) (hna:n<=arr.size)
  (hn:Ext Γ ⟨Γ.σ.set l .dead++[.vec cs'],pass Γ.μ l Γ.σ.length,grow Γ.F b n,Γ.w⟩->RepOb fid ⟨Γ.σ.set l .dead++[.vec cs'],pass Γ.μ l Γ.σ.length,grow Γ.F b n,Γ.w⟩ b (.vec cs')) :
  Real fid ⟨Γ.σ.set l .dead++[.vec cs'],pass Γ.μ l Γ.σ.length,grow Γ.F b n,Γ.w⟩/\Step Γ ⟨Γ.σ.set l .dead++[.vec cs'],pass Γ.μ l Γ.σ.length,grow Γ.F b n,Γ.w⟩:=by
 have hlt:l < Γ.σ.length:=(Wb.1 ho).1
 have hget : ∀ j,j < Γ.σ.length->l≠j->(Γ.σ.set l .dead++[Ob.vec cs'])[j]? = Γ.σ[j]?:=fun j hj e=>by grind
 have hself:(Γ.σ.set l .dead++[Ob.vec cs'])[l]?=some .dead:=by grind
 have hlast:(Γ.σ.set l .dead++[Ob.vec cs'])[Γ.σ.length]?=some (.vec cs'):=by
  rw[WC (by simp)]; simp
 have hμ : ∀ j,j < Γ.σ.length->l≠j->pass Γ.μ l Γ.σ.length j = Γ.μ j:=fun j hj e=>by grind [pass]
 have hext:Ext Γ ⟨Γ.σ.set l .dead++[.vec cs'],pass Γ.μ l Γ.σ.length,grow Γ.F b n,Γ.w⟩:=by
  refine⟨Wg _,rfl,rfl,rfl,fun k=>by grind [grow],fun k i v hi hv=>hv,fun k arr e hk ha=>⟨arr,ha,rfl⟩,by simp,fun j o hj hjt=>?_,fun j m hj=>?_,qeQ fun j o hj hjt=>?_⟩
  ·have e:l≠j:=fun e=>by subst e; rw[ho] at hj; cases hj; cases hjt
   have hj':=(Wb.1 hj).1
   exact⟨⟨o,by rw[hget j hj' e]; exact hj,hjt⟩,fun k hk=>(hμ j hj' e).trans hk⟩
  ·have e:l≠j:=fun e=>by subst e; rw[ho] at hj; cases hj
   have hj':=(Wb.1 hj).1
   exact⟨m,by rw[hget j hj' e]; exact hj,Wg _,fun h=>show (pass Γ.μ l Γ.σ.length j).isSome=true from by rw[hμ j hj' e]; exact h,fun _ k hk=>(hμ j hj' e).trans hk⟩
  ·have hj':=(Wb.1 hj).1
   by_cases e:l=j
   ·subst e; exact .inr ⟨.dead,hself,rfl,rfl⟩
   ·refine .inl ⟨by rw[hget j hj' e]; exact hj,fun k hk=>⟨(hμ j hj' e).trans hk,?_,fun _ _ h=>h⟩⟩
    have:k≠b:=fun e'=>by subst e'; exact e (hr.inj _ _ _ hm hk)
    simp only[grow]; rw[if_neg this]
 have hback : ∀ j k,pass Γ.μ l Γ.σ.length j=some k->(j = Γ.σ.length/\k=b)\/(j≠l/\j < Γ.σ.length /\ Γ.μ j=some k):=fun j k hk=>by
  simp only[pass] at hk
  split at hk
  ·rename_i e; rw[hm] at hk; cases hk; exact .inl ⟨e,rfl⟩
  ·split at hk
   ·cases hk
   ·rename_i h1 h2; exact .inr ⟨h2,(hr.dom j k hk).1,hk⟩
 refine⟨⟨fun j o k hj hk=>?_,fun j k hk=>?_,fun j j' k hk hk'=>?_,fun k hk=>?_,Glb.ext hext hr.glb⟩,hext,⟨fun k hk hno=>⟨rfl,by simp only[grow]; rw[if_neg (fun e'=>by subst e'; exact hno l hm)]⟩,fun j k hj _=>?_⟩,fun j hj hn=>?_⟩
 ·rcases hback j k hk with ⟨rfl,rfl⟩|⟨h1,h2,h3⟩
  ·rw[hlast] at hj; cases hj
   exact hn hext
  ·simp only at hj
   rw[hget j h2 (Yb h1)] at hj
   have hb:k≠b:=fun e'=>by subst e'; exact h1 (hr.inj _ _ _ h3 hm)
   exact RepOb.ext hext rfl (by simp only[grow]; rw[if_neg hb]) o (hr.obs j o k hj h3)
 ·rcases hback j k hk with ⟨rfl,rfl⟩|⟨h1,h2,h3⟩
  ·exact⟨by simp,(hr.dom l _ hm).2⟩
  ·exact⟨by simp; omega,(hr.dom j k h3).2⟩
 ·rcases hback j k hk with ⟨rfl,rfl⟩|⟨h1,h2,h3⟩<;>rcases hback j' k hk' with ⟨k1,k2⟩|⟨k1,k2,k3⟩
  ·exact k1.symm
  ·exact absurd (hr.inj _ _ _ k3 hm) k1
  ·subst k2; exact absurd (hr.inj _ _ _ h3 hm) h1
  ·exact hr.inj j j' k h3 k3
 ·simp only[grow] at hk ⊢
  split at hk
  ·rename_i e'; subst e'; exact⟨arr,e,_,ha,by simpa using hna⟩
  ·rename_i e'
   obtain⟨a,t,fz,h1,h2⟩:=hr.imm k hk
   exact⟨a,t,fz,h1,by simpa [e'] using h2⟩
 ·grind
 ·grind
theorem qqb {fid:Fid} {Γ : Ctx} (hr:Real fid Γ) {b n:Nat} (hF : Γ.F b<=n) (hno : ∀ l,Γ.μ l≠some b) {arr:Array Value} {e:TypeId} (ha : Γ.w.heap[b]?=some (.cells arr e (0,0))) (hle:n<=arr.size) :
  Real fid ⟨Γ.σ,Γ.μ,grow Γ.F b n,Γ.w⟩/\Ext Γ ⟨Γ.σ,Γ.μ,grow Γ.F b n,Γ.w⟩ /\
  ∀ Γ0,Step Γ0 Γ -> (b < Γ0.w.heap.size -> ∃ l,Γ0.μ l=some b)->Step Γ0 ⟨Γ.σ,Γ.μ,grow Γ.F b n,Γ.w⟩:=by
 have hext:Ext Γ ⟨Γ.σ,Γ.μ,grow Γ.F b n,Γ.w⟩:=by
  refine⟨Wg _,rfl,rfl,rfl,fun k=>?_,fun k i v hi hv=>hv,fun k arr e hk ha=>⟨arr,ha,rfl⟩,Wg _,fun j o hj hjt=>⟨⟨o,hj,hjt⟩,fun _ h=>h⟩,fun j m hj=>⟨m,hj,Wg _,fun h=>h,fun _ _ h=>h⟩,
   qeQ fun j o hj hjt => .inl ⟨hj,fun k hk=>⟨hk,by simp only[grow]; rw[if_neg (fun e'=>by subst e'; exact hno j hk)],fun _ _ h=>h⟩⟩⟩
  simp only[grow]; split
  ·rename_i e; subst e; omega
  ·exact Wg _
 refine⟨⟨fun j o k hj hk=>?_,hr.dom,hr.inj,fun k hk=>?_,Glb.ext hext hr.glb⟩,hext,fun Γ0 hs hb0=>⟨hs.ext.trans hext,⟨fun k hk hn=>?_,hs.frm.new⟩,hs.non⟩⟩
 ·have hb:k≠b:=fun e'=>by subst e'; exact hno j hk
  exact RepOb.ext hext rfl (by simp only[grow]; rw[if_neg hb]) o (hr.obs j o k hj hk)
 ·simp only[grow] at hk ⊢
  split at hk
  ·grind
  ·rename_i e'
   obtain⟨a,t,fz,h1,h2⟩:=hr.imm k hk
   exact⟨a,t,fz,h1,by simpa [e'] using h2⟩
 ·have hb:k≠b:=fun e'=>by
   subst e'
   obtain⟨l,hl⟩:=hb0 hk
   exact hn l hl
  obtain⟨h1,h2⟩:=hs.frm.same k hk hn
  exact⟨h1,by simp only[grow]; rw[if_neg hb]; exact h2⟩
end
section
variable{P:Program}
theorem qam{t:TypeId}{d:TypeDesc}(h:P.underlying t=some d)(w:World):(underlying t).run P w = .ok d w:=by
 simp[underlying,h]
theorem qa2{t:TypeId}{i:TypeInfo}(h:P.info? t=some i)(w:World):(typeInfo t).run P w = .ok i w:=by
 simp[typeInfo,h]
theorem qaG{t:TypeId}{n:Nat}(h:qaH P t=some n)(w:World):(sizeOf t).run P w = .ok n w:=by
 unfold qaH at h
 cases hi:P.info? t with
 |none=>rw[hi] at h; cases h
 |some i=>rw[hi] at h; cases h; simp[sizeOf,qa2 hi]
theorem qaZ{t:TypeId}{z:Value}(h:qcj P t=some z)(w:World):(zeroValue t).run P w = .ok z w:=by
 unfold qcj at h
 cases hi:P.info? t with
 |none=>rw[hi] at h; cases h
 |some i=>
  rw[hi] at h
  simp only[Option.bind_some] at h
  cases hz:i.zero with
  |none=>rw[hz] at h; cases h
  |some z'=>
   rw[hz] at h
   simp only at h
   split at h
   ·cases h; simp[zeroValue,qa2 hi,hz]
   ·cases h
theorem qbh{t:TypeId}{z:Value}(h:qcj P t=some z):qeo z=true:=by
 unfold qcj at h
 split at h
 ·split at h
  ·rename_i hz; cases h; exact hz
  ·cases h
 ·cases h
theorem qcG{t:TypeId}{b:Bool}(h:qaJ P t=some b)(w:World):(isAgg t).run P w = .ok b w:=by
 unfold qaJ at h
 cases hu:P.underlying t with
 |none=>rw[hu] at h; cases h
 |some d=>
  rw[hu] at h
  simp only[isAgg,Sem.run_bind,qam hu,Result.andThen_ok]
  cases d<;>simp_all
theorem qa9(b o i:Nat):(⟨b,o,none⟩:Addr).add i=⟨b,o+i,none⟩:=by
 unfold Addr.add
 split
 ·rename_i h; subst h; rfl
 ·rfl
theorem qkd{a:Addr}{v:Value}{w:World}(h:w.cell? a=some v):(load a).run P w = .ok v w:=by
 simp[h]
theorem qdV (w:World) (b o:Nat) : ∀ (vs:List Value) (i:Nat) (acc:Array Value),
  (∀ j v,vs[j]?=some v->w.cell? ⟨b,o+(i+j),none⟩=some v) ->
  (loadCellsFrom ⟨b,o,none⟩ i vs.length acc).run P w = .ok (acc++vs.toArray) w
 |[],i,acc,_=>by simp[loadCellsFrom]
 |v::vs,i,acc,h=>by
  have h0:=h 0 v (by simp)
  have ih:=qdV w b o vs (i+1) (acc.push v) (fun j u hj=>by
   have:=h (j+1) u (by simpa using hj)
   rw[show i+1+j=i+(j+1) from by omega]; exact this)
  simp only[WK,loadCellsFrom,Sem.run_bind,qa9]
  rw[qkd (by simpa using h0)]
  simp only[Result.andThen_ok,ih]
  congr 1
  apply WG
  simp
theorem qa0 {w:World} {b o:Nat} {vs:List Value} (h : ∀ j v,vs[j]?=some v->w.cell? ⟨b,o+j,none⟩=some v) :
  (loadCells ⟨b,o,none⟩ vs.length).run P w = .ok vs.toArray w:=by
 have:=qdV (P:=P) w b o vs 0 #[] (by simpa using h)
 simpa [loadCells] using this
theorem qeW {t:TypeId} {w:World} {b o:Nat} {vs:List Value} (ha:qaJ P t=some true) (hs:qaH P t=some vs.length)
  (h : ∀ j v,vs[j]?=some v->w.cell? ⟨b,o+j,none⟩=some v):(loadVar t ⟨b,o,none⟩).run P w = .ok (.agg vs.toArray) w:=by
 simp[loadVar,qcG ha,qaG hs,qa0 h]
theorem qeX {t:TypeId} {w:World} {a:Addr} {v:Value} (ha:qaJ P t=some false) (h:w.cell? a=some v) :
  (loadVar t a).run P w = .ok v w:=by
 simp only[loadVar,Sem.run_bind,qcG ha,Result.andThen_ok]
 simp[h]
theorem qbe : ∀ (vs:List Value) (i:Nat) (w:World) (b o:Nat) (arr:Array Value) (e:TypeId),
  w.heap[b]?=some (.cells arr e (0,0))->(∀ v∈vs,v.oneCell'=true)->o+i+vs.length<=arr.size ->
  ∃ w',(storeCells ⟨b,o,none⟩ vs i).run P w = .ok () w'/\WOnly b w w' /\
   ∃ arr',w'.heap[b]?=some (.cells arr' e (0,0))/\arr'.toList=arr.toList.take (o+i)++(vs++arr.toList.drop (o+i+vs.length))
 |[],i,w,b,o,arr,e,hb,_,_=>⟨w,by simp[storeCells],.refl _ _,arr,hb,by simp⟩
 |v::vs,i,w,b,o,arr,e,hb,h1,hlen=>by
  simp only[WK] at hlen
  have hcell : ∃ u,w.cell? ⟨b,o+i,none⟩=some u:=by
   refine⟨arr[o+i]'(by omega),?_⟩
   simp only[World.cell?,hb]
   simp
  obtain⟨u,hu⟩:=hcell
  have hfz:w.frozen? ⟨b,o+i,none⟩=false:=by simp[World.frozen?,hb]
  have hb':(w.setCell ⟨b,o+i,none⟩ v).heap[b]?=some (.cells (arr.setIfInBounds (o+i) v) e (0,0)):=by
   simp only[World.setCell,Array.getElem?_modify,hb]
   simp
  have hw:WOnly b w (w.setCell ⟨b,o+i,none⟩ v):=⟨rfl,rfl,rfl,by simp,fun k hk=>by simp only[World.setCell,Array.getElem?_modify]; rw[if_neg (Yb hk)]⟩
  obtain⟨w',hr,hw',arr',ha',hl⟩:=qbe vs (i+1) (w.setCell ⟨b,o+i,none⟩ v) b o (arr.setIfInBounds (o+i) v) e hb'
   (fun x hx=>h1 x (WH _ hx)) (by simp; omega)
  refine⟨w',?_,hw.trans hw',arr',ha',?_⟩
  ·simp only[storeCells,Sem.run_bind,qa9]
   rw[run_store P w _ v .plain (h1 v (by simp)),hu]
   simp[hfz,hr]
  ·rw[hl,Array.toList_setIfInBounds]
   have hlt:o+i<arr.toList.length:=by rw[Ww]; omega
   rw[show o+(i+1)=o+i+1 from by omega]
   rw[List.take_succ_eq_append_getElem (by simpa using hlt),List.getElem_set_self,List.take_set_of_le (Wg _),List.drop_set_of_lt (by omega)]
   simp
   try omega
theorem qeY {t:TypeId} {x:Value} {n:Nat} {w:World} {b o:Nat} {arr:Array Value} {e:TypeId} (hs:qaH P t=some n) (hx:x.cells.size=n)
  (hb:w.heap[b]?=some (.cells arr e (0,0))) (h1 : ∀ v∈x.cells.toList,v.oneCell'=true) (hlen:o+n<=arr.size) :
  ∃ w',(storeVar t ⟨b,o,none⟩ x).run P w = .ok () w'/\WOnly b w w' /\
   ∃ arr',w'.heap[b]?=some (.cells arr' e (0,0))/\arr'.toList=arr.toList.take o++(x.cells.toList++arr.toList.drop (o+n)):=by
 obtain⟨w',h1,h2,arr',h3,h4⟩:=qbe (P:=P) x.cells.toList 0 w b o arr e hb h1 (by simp[hx]; omega)
 refine⟨w',?_,h2,arr',h3,by simpa [hx] using h4⟩
 simp only[storeVar,Sem.run_bind,qaG hs,Result.andThen_ok]
 simp[hx,h1]
theorem RepDs_append{F:Nat->Nat}{w:World} : ∀ {a b:List D} {xs:List Value},RepDs F w (a++b) xs ↔ ∃ ys zs,xs=ys++zs/\RepDs F w a ys/\RepDs F w b zs
 |[],b,xs=>by
  simp only[Wk,RepDs]
  exact⟨fun h=>⟨[],xs,rfl,rfl,h⟩,fun ⟨ys,zs,h1,h2,h3⟩=>by subst h2; simpa [h1] using h3⟩
 |d::a,b,xs=>by
  simp only[Wu,RepDs,RepDs_append (a:=a) (b:=b)]
  constructor
  ·rintro ⟨x,ys,rfl,h1,y,z,rfl,h2,h3⟩
   exact⟨x::y,z,rfl,⟨x,y,rfl,h1,h2⟩,h3⟩
  ·rintro ⟨ys,zs,rfl,⟨x,y,rfl,h1,h2⟩,h3⟩
   exact⟨x,y++zs,rfl,h1,y,zs,rfl,h2,h3⟩
theorem Reps_append{fid:Fid}{Γ : Ctx} : ∀ {a b:List V} {xs:List Value},Reps fid Γ (a++b) xs ↔ ∃ ys zs,xs=ys++zs/\Reps fid Γ a ys/\Reps fid Γ b zs
 |[],b,xs=>by
  simp only[Wk,Reps]
  exact⟨fun h=>⟨[],xs,rfl,rfl,h⟩,fun ⟨ys,zs,h1,h2,h3⟩=>by subst h2; simpa [h1] using h3⟩
 |d::a,b,xs=>by
  simp only[Wu,Reps,Reps_append (a:=a) (b:=b)]
  constructor
  ·rintro ⟨x,ys,rfl,h1,y,z,rfl,h2,h3⟩
   exact⟨x::y,z,rfl,⟨x,y,rfl,h1,h2⟩,h3⟩
  ·rintro ⟨ys,zs,rfl,⟨x,y,rfl,h1,h2⟩,h3⟩
   exact⟨x,y++zs,rfl,h1,y,zs,rfl,h2,h3⟩
theorem qfe{F:Nat->Nat}{w:World}{ds:List D}{xs:List Value}(h:RepDs F w ds xs)(n:Nat):RepDs F w (ds.drop n) (xs.drop n):=by
 by_cases hn:n<=ds.length
 ·obtain⟨a,b,rfl,rfl⟩ : ∃ a b,ds=a++b/\a.length=n:=⟨ds.take n,ds.drop n,(WU n ds).symm,by simp; omega⟩
  obtain⟨ys,zs,rfl,h1,h2⟩:=RepDs_append.1 h
  have:=h1.length
  rw[List.drop_left' rfl,List.drop_left' (by omega)]
  exact h2
 ·rw[Yv (by omega),Yv (by have:=h.length; omega)]
  simp[RepDs]
theorem qff{F:Nat->Nat}{w:World}{ds:List D}{xs:List Value}(h:RepDs F w ds xs)(n:Nat):RepDs F w (ds.take n) (xs.take n):=by
 by_cases hn:n<=ds.length
 ·obtain⟨a,b,rfl,rfl⟩ : ∃ a b,ds=a++b/\a.length=n:=⟨ds.take n,ds.drop n,(WU n ds).symm,by simp; omega⟩
  obtain⟨ys,zs,rfl,h1,h2⟩:=RepDs_append.1 h
  have:=h1.length
  rw[Ym rfl,Ym (by omega)]
  exact h1
 ·rw[Wl (by omega),Wl (by have:=h.length; omega)]
  exact h
theorem qb1{fid:Fid}{Γ : Ctx}{ds:List V}{xs:List Value}(h:Reps fid Γ ds xs)(n:Nat):Reps fid Γ (ds.drop n) (xs.drop n):=by
 by_cases hn:n<=ds.length
 ·obtain⟨a,b,rfl,rfl⟩ : ∃ a b,ds=a++b/\a.length=n:=⟨ds.take n,ds.drop n,(WU n ds).symm,by simp; omega⟩
  obtain⟨ys,zs,rfl,h1,h2⟩:=Reps_append.1 h
  have:=h1.length
  rw[List.drop_left' rfl,List.drop_left' (by omega)]
  exact h2
 ·rw[Yv (by omega),Yv (by have:=h.length; omega)]
  simp[Reps]
theorem qbI{fid:Fid}{Γ : Ctx}{ds:List V}{xs:List Value}(h:Reps fid Γ ds xs)(n:Nat):Reps fid Γ (ds.take n) (xs.take n):=by
 by_cases hn:n<=ds.length
 ·obtain⟨a,b,rfl,rfl⟩ : ∃ a b,ds=a++b/\a.length=n:=⟨ds.take n,ds.drop n,(WU n ds).symm,by simp; omega⟩
  obtain⟨ys,zs,rfl,h1,h2⟩:=Reps_append.1 h
  have:=h1.length
  rw[Ym rfl,Ym (by omega)]
  exact h1
 ·rw[Wl (by omega),Wl (by have:=h.length; omega)]
  exact h
theorem Reps_dat{fid:Fid}{Γ : Ctx} : ∀ {ds:List D} {xs:List Value},Reps fid Γ (ds.map .dat) xs↔RepDs Γ.F Γ.w ds xs
 |[],xs=>by simp[Reps,RepDs]
 |d::ds,xs=>by simp[Reps,RepDs,Rep,Reps_dat]
theorem qcH : ∀ {vs:List V} {ds:List D},qaI vs=some ds->vs=ds.map .dat
 |[],ds,h=>by simp[qaI] at h; subst h; rfl
 |v::vs,ds,h=>by
  cases v with
  |dat d=>
   simp only[qaI] at h
   split at h
   ·rename_i ds' h'
    cases h
    rw[qcH h']; rfl
   ·cases h
  |_=>simp[qaI] at h
theorem qdW{fid:Fid}{Γ : Ctx}{vs:List V}{xs:List Value}(h:Reps fid Γ vs xs):Rep fid Γ (qc6 vs) (.agg xs.toArray):=by
 unfold qc6
 split
 ·rename_i ds hd
  have:=qcH hd
  subst this
  simp only[Rep,RepD]
  exact⟨xs,rfl,Reps_dat.1 h⟩
 ·simp only[Rep]
  exact⟨xs,rfl,h⟩
theorem qmM{x:Value}(h:qbo x=true):x.cells = #[x]:=by
 cases x<;>simp_all [qbo,Value.cells]
theorem qdX{fid:Fid}{Γ : Ctx}{v:V}{x:Value}(h:Rep fid Γ v x):Reps fid Γ v.cells x.cells.toList:=by
 have single : ∀ u,qbo x=true->v=u->v.cells=[u]->Reps fid Γ v.cells x.cells.toList:=fun u hx hv hc=>by
  rw[hc,qmM hx,<- hv]
  simp[Reps,h]
 cases v with
 |dat d=>
  cases d with
  |lit v=>simp only[Rep,RepD] at h; exact single _ (by rw[h.1]; exact h.2) rfl rfl
  |sl cs n f=>simp only[Rep,RepD] at h; obtain⟨b,o,cap,vs,rfl,_⟩:=h; exact single _ rfl rfl rfl
  |imm cs o=>simp only[Rep,RepD] at h; obtain⟨b,o,vs,rfl,_⟩:=h; exact single _ rfl rfl rfl
  |agg cs=>
   simp only[Rep,RepD] at h
   obtain⟨vs,rfl,h⟩:=h
   simpa [V.cells,Value.cells] using Reps_dat.2 h
  |iface t d=>simp only[Rep,RepD] at h
 |ptr l o=>simp only[Rep] at h; obtain⟨b,_,rfl,_⟩:=h; exact single _ rfl rfl rfl
 |gsl cs n sz l=>simp only[Rep] at h; obtain⟨b,cap,vs,m,rfl,_⟩:=h; exact single _ rfl rfl rfl
 |msl l o n cap sz=>simp only[Rep] at h; obtain⟨b,_,rfl,_⟩:=h; exact single _ rfl rfl rfl
 |own l n sz=>simp only[Rep] at h; obtain⟨a,cap,rfl,_⟩:=h; exact single _ rfl rfl rfl
 |eptr l n o=>simp only[Rep] at h; obtain⟨a,rfl,_⟩:=h; exact single _ rfl rfl rfl
 |vw l n o k sz=>simp only[Rep] at h; obtain⟨a,cap,rfl,_⟩:=h; exact single _ rfl rfl rfl
 |rw cs n=>simp only[Rep] at h; obtain⟨b,o,cap,vs,rfl,_⟩:=h; exact single _ rfl rfl rfl
 |bm g v=>simp only[Rep] at h; obtain⟨t,nm,y,rfl,_⟩:=h; exact single _ rfl rfl rfl
 |agg cs=>
  simp only[Rep] at h
  obtain⟨vs,rfl,h⟩:=h
  simpa [V.cells,Value.cells] using h
 |fn f a b=>simp only[Rep] at h; obtain⟨as,bs,rfl,_⟩:=h; exact single _ rfl rfl rfl
 |mp l=>simp only[Rep] at h; obtain⟨b,_,rfl,_⟩:=h; exact single _ rfl rfl rfl
 |iface t v=>simp only[Rep] at h; obtain⟨y,rfl,_⟩:=h; exact single _ rfl rfl rfl
 |tup vs=>simp only[Rep] at h; obtain⟨xs,rfl,_⟩:=h; exact single _ rfl rfl rfl
 |yld l=>simp only[Rep] at h; obtain⟨b,_,rfl,_⟩:=h; exact single _ rfl rfl rfl
 |pan v=>simp only[Rep] at h
theorem quP{fid:Fid}{Γ : Ctx}{v:V}{x:Value}(h:Rep fid Γ v x)(h1:v.one=true):x.oneCell'=true:=by
 cases v with
 |dat d=>
  cases d with
  |lit v=>simp only[Rep,RepD] at h; rw[h.1]; exact h1
  |sl cs n f=>simp only[Rep,RepD] at h; obtain⟨b,o,cap,vs,rfl,_⟩:=h; rfl
  |imm cs o=>simp only[Rep,RepD] at h; obtain⟨b,o,vs,rfl,_⟩:=h; rfl
  |agg cs=>simp[V.one] at h1
  |iface t d=>simp only[Rep,RepD] at h
 |ptr l o=>simp only[Rep] at h; obtain⟨b,_,rfl,_⟩:=h; rfl
 |gsl cs n sz l=>simp only[Rep] at h; obtain⟨b,cap,vs,m,rfl,_⟩:=h; rfl
 |msl l o n cap sz=>simp only[Rep] at h; obtain⟨b,_,rfl,_⟩:=h; rfl
 |own l n sz=>simp only[Rep] at h; obtain⟨a,cap,rfl,_⟩:=h; rfl
 |eptr l n o=>simp only[Rep] at h; obtain⟨a,rfl,_⟩:=h; rfl
 |vw l n o k sz=>simp only[Rep] at h; obtain⟨a,cap,rfl,_⟩:=h; rfl
 |rw cs n=>simp only[Rep] at h; obtain⟨b,o,cap,vs,rfl,_⟩:=h; rfl
 |bm g v=>simp only[Rep] at h; obtain⟨t,nm,y,rfl,_⟩:=h; rfl
 |agg cs=>simp[V.one] at h1
 |fn f a b=>simp only[Rep] at h; obtain⟨as,bs,rfl,_⟩:=h; rfl
 |mp l=>simp only[Rep] at h; obtain⟨b,_,rfl,_⟩:=h; rfl
 |iface t v=>simp only[Rep] at h; obtain⟨y,rfl,_⟩:=h; rfl
 |tup vs=>simp[V.one] at h1
 |yld l=>simp only[Rep] at h; obtain⟨b,_,rfl,_⟩:=h; rfl
 |pan v=>simp only[Rep] at h
theorem qbP{fid:Fid}{Γ : Ctx} : ∀ {vs:List V} {xs:List Value},Reps fid Γ vs xs->vs.all V.one=true -> ∀ x∈xs,x.oneCell'=true
 |[],xs,h,_,x,hx=>by simp only[Reps] at h; subst h; cases hx
 |v::vs,xs,h,ha,x,hx=>by
  simp only[Reps] at h
  obtain⟨y,ys,rfl,h1,h2⟩:=h
  simp only[WQ,Wh] at ha
  rcases Wq.1 hx with rfl|hx
  ·exact quP h1 ha.1
  ·exact qbP h2 ha.2 x hx
theorem qdq {fid:Fid} {Γ : Ctx} {agg:Bool} {vs:List V} {xs:List Value} {v:V} (h:Reps fid Γ vs xs) (ho:qbV agg vs=some v) :
  (agg=true/\Rep fid Γ v (.agg xs.toArray))\/(agg=false /\ ∃ x,xs=[x]/\Rep fid Γ v x):=by
 unfold qbV at ho
 split at ho
 ·rename_i ha
  cases ho
  exact .inl ⟨by simpa using ha,qdW h⟩
 ·rename_i ha
  split at ho
  ·cases ho
   simp only[Reps] at h
   obtain⟨x,ys,rfl,h1,rfl⟩:=h
   exact .inr ⟨by simpa using ha,x,rfl,h1⟩
  ·cases ho
theorem qfw{α : Type}{cs r:List α}{o n:Nat}(h:qad cs o n=some r):r=(cs.drop o).take n/\r.length=n/\(0<n->o+n<=cs.length):=by
 unfold qad at h
 simp only at h
 split at h
 ·rename_i hl
  cases h
  refine⟨rfl,hl,fun hn=>?_⟩
  simp at hl
  omega
 ·cases h
theorem qeZ{F:Nat->Nat}{w:World} : ∀ {xs:List Value},(∀ x∈xs,qbo x=true)->RepDs F w (xs.map .lit) xs
 |[],_=>by simp[RepDs]
 |x::xs,h=>by
  simp only[Wi,RepDs,RepD]
  exact⟨x,xs,rfl,⟨rfl,h x (by simp)⟩,qeZ fun y hy=>h y (WH _ hy)⟩
theorem qaS{F:Nat->Nat}{w:World}{z:Value}(h:qeo z=true):RepDs F w (qaz z) z.cells.toList:=by
 unfold qaz
 refine qeZ fun x hx=>?_
 simp only[qeo,Ws,Wh] at h
 exact (h x hx).1
theorem qnF{F:Nat->Nat}{w:World}{z:Value}(h:qeo z=true):RepD F w (toD z) z:=by
 cases z with
 |agg cs=>
  simp only[toD,RepD]
  refine⟨cs.toList,by simp,qeZ fun x hx=>?_⟩
  simp only[qeo,Value.cells,Ws,Wh] at h
  exact (h x hx).1
 |_=>simp[toD,RepD,qbo]
theorem qw2{fid:Fid}{Γ : Ctx}{v:V}{x:Value}(h:Rep fid Γ v x):Rep fid Γ v.sealv x:=by
 unfold V.sealv
 split
 ·simp only[Rep,RepD] at h ⊢
  obtain⟨b,cap,vs,m,h1,h2,h3,h4,_⟩:=h
  exact⟨b,0,cap,vs,h1,h2,by simp,h3,h4⟩
 ·exact h
theorem qnG{fid:Fid}{Γ : Ctx} : ∀ {vs:List V} {xs:List Value},Reps fid Γ vs xs->Reps fid Γ (qdQ vs) xs
 |[],xs,h=>by simpa only [qdQ,Reps] using h
 |v::vs,xs,h=>by
  simp only[qdQ,Reps] at h ⊢
  obtain⟨y,ys,h1,h2,h3⟩:=h
  exact⟨y,ys,h1,qw2 h2,qnG h3⟩
end
section
variable{P:Program}{ids:Ids}{fid:Fid}{N:Nat}
structure Ties(P:Program)(ids:Ids)(fid:Fid):Prop where
 fn : ∀ f g,ids.fn f=some g->fid g=f
 ty : ∀ t u,ids.ty t=some u->fid.ty u=t
 mt : ∀ g t nm,fid.mt g t nm ↔ ∃ f,methT P t nm=some f/\ids.fn f=some g
 gl : ∀ g cs,ids.gl g=some cs->fid.gl g=some cs
theorem qan (hid:Ties P ids fid) {Γ : Ctx} (hreal:Real fid Γ) {fr:Fr} {a:Act} (hf:FrRep fid Γ N fr a.tmps) {x:Operand} {y:X} {v:V}
  (hc:cX ids N x=some y) (hv:y.ev fr=some v):Rep fid Γ v (a.eval x):=by
 cases x with
 |tmp t=>
  simp only[cX] at hc
  split at hc
  ·rename_i ht
   cases hc
   exact hf.2 t v ht hv
  ·cases hc
 |const c=>
  simp only[cX] at hc
  split at hc
  ·rename_i hn
   cases hc
   simp only[X.ev,Wd] at hv
   subst hv
   simp[Rep,RepD,Act.eval,hn]
  ·cases hc
 |global g=>
  simp only[cX,Wc] at hc
  obtain⟨cs,hcs,rfl⟩:=hc
  simp only[X.ev,Wd] at hv
  subst hv
  obtain⟨vs,h1,h2⟩:=hreal.glb g cs (hid.gl g cs hcs)
  simp only[Rep,RepD,Act.eval]
  exact⟨g,0,vs,rfl,h1,h2⟩
 |func f=>
  simp only[cX,Wc] at hc
  obtain⟨g,hg,rfl⟩:=hc
  simp only[X.ev,Wd] at hv
  subst hv
  simp only[Rep,Act.eval,hid.fn f g hg]
  exact⟨[],[],rfl,rfl,rfl⟩
theorem qbf (hid:Ties P ids fid) {Γ : Ctx} (hreal:Real fid Γ) {fr:Fr} {a:Act} (hf:FrRep fid Γ N fr a.tmps) : ∀ {xs:List Operand} {ys:List X} {vs:List V},
  cXs ids N xs=some ys->evs fr ys=some vs->Reps fid Γ vs (xs.map a.eval)
 |[],ys,vs,hc,hv=>by
  simp only[cXs,Wd] at hc; subst hc
  simp only[evs,Wd] at hv; subst hv
  simp[Reps]
 |x::xs,ys,vs,hc,hv=>by
  simp only[cXs] at hc
  split at hc
  ·rename_i y ys' h1 h2
   cases hc
   simp only[evs] at hv
   split at hv
   ·rename_i v vs' h3 h4
    cases hv
    simp only[Wi,Reps]
    exact⟨_,_,rfl,qan hid hreal hf h1 h3,qbf hid hreal hf h2 h4⟩
   ·cases hv
  ·cases hc
theorem qm8 {F:Fence} {n:Nat} {o:Oper} {a:Act} {w w':World} {K:Act->World->Prop} {Q:Exit->Act->World->Prop} {x:Value} (hF : ∀ f,F.fn f)
  (hd : ∀ c,o.op ≠ .defer c) (h:(execOp a.eval o).run P w = .ok (.value x) w') (hk:K (a.put o.dst x) w'):o.wpIn F n P a w K Q:=
 ⟨fun f _=>hF f,by rw[Oper.semAt_eq _ _ _ hd,h]; exact hk⟩
theorem qn6 {F:Fence} {n:Nat} {o:Oper} {a:Act} {w w':World} {K:Act->World->Prop} {Q:Exit->Act->World->Prop} (hF : ∀ f,F.fn f)
  (hd : ∀ c,o.op ≠ .defer c) (h:(execOp a.eval o).run P w = .ok .skip w') (hk:K (a.put o.dst undef) w'):o.wpIn F n P a w K Q:=
 ⟨fun f _=>hF f,by rw[Oper.semAt_eq _ _ _ hd,h]; exact hk⟩
def Comes(P:Program)(fid:Fid)(Γ : Ctx)(ρ : Operand->Value)(o:Oper)(v:V)(σ':S):Prop:=
 ∃ (Γ':Ctx) (x:Value),Γ'.σ = σ'/\Real fid Γ'/\Step Γ Γ'/\Rep fid Γ' v x /\
  ((execOp ρ o).run P Γ.w = .ok (.value x) Γ'.w\/((execOp ρ o).run P Γ.w = .ok .skip Γ'.w/\x=undef))
theorem Comes.wp {F:Fence} {n:Nat} {o:Oper} {a:Act} {K:Act->World->Prop} {Q:Exit->Act->World->Prop} {Γ : Ctx} {v:V} {σ':S} (hF : ∀ f,F.fn f)
  (hd : ∀ c,o.op ≠ .defer c) (h:Comes P fid Γ a.eval o v σ')
  (hk : ∀ Γ' x,Γ'.σ = σ'->Real fid Γ'->Step Γ Γ'->Rep fid Γ' v x->K (a.put o.dst x) Γ'.w):o.wpIn F n P a Γ.w K Q:=by
 obtain⟨Γ',x,h1,h2,h3,h4,h5⟩:=h
 rcases h5 with h5|⟨h5,rfl⟩
 ·exact qm8 hF hd h5 (hk Γ' x h1 h2 h3 h4)
 ·exact qn6 hF hd h5 (hk Γ' _ h1 h2 h3 h4)
theorem Comes.pure {Γ : Ctx} (hr:Real fid Γ) {ρ : Operand->Value} {o:Oper} {v:V} {x:Value} (h:(execOp ρ o).run P Γ.w = .ok (.value x) Γ.w) (hx:Rep fid Γ v x) :
  Comes P fid Γ ρ o v Γ.σ := ⟨Γ,x,rfl,hr,.refl _,hx,.inl h⟩
section
variable{Γ : Ctx}{fr:Fr}{ρ : Operand->Value}{o:Oper}{v:V}{σ':S}{C:Task->Option Res}
theorem qyw(hr:Real fid Γ){t:TypeId}{x:Operand}{u:V}(ho:o.op = .box t x)(hu:Rep fid Γ u (ρ x)):Comes P fid Γ ρ o (.ptr Γ.σ.length 0) (Γ.σ ++ [.cells u.cells]):=by
 obtain⟨h1,h2⟩:=qbW hr (.cells u.cells) (.cells (ρ x).cells t) 0
  (fun Γ' e hx=>by
   subst e
   simp only[RepOb,grow,if_pos]
   exact⟨trivial,(ρ x).cells,t,qav _ _,Reps.ext hx _ _ (qdX hu)⟩) (fun h=>absurd h (WP _))
 refine⟨_,.pointer (some ⟨Γ.w.heap.size,0,none⟩),rfl,h1,h2,?_,.inl ?_⟩
 ·simp only[Rep]
  refine⟨Γ.w.heap.size,by simp[bind],rfl,⟨.cells u.cells,by simp,rfl⟩⟩
 ·simp only[execOp,ho,Instr.box,newVar,newRow]
  simp
theorem qtD(hr:Real fid Γ){t:TypeId}{z:Value}(ho:o.op = .alloc t)(hz:qcj P t=some z):Comes P fid Γ ρ o (.ptr Γ.σ.length 0) (Γ.σ ++ [.cells ((qaz z).map .dat)]):=by
 obtain⟨h1,h2⟩:=qbW hr (.cells ((qaz z).map .dat)) (.cells z.cells t) 0
  (fun Γ' e hx=>by
   subst e
   simp only[RepOb,grow,if_pos]
   exact⟨trivial,z.cells,t,qav _ _,Reps_dat.2 (qaS (qbh hz))⟩) (fun h=>absurd h (WP _))
 refine⟨_,.pointer (some ⟨Γ.w.heap.size,0,none⟩),rfl,h1,h2,?_,.inl ?_⟩
 ·simp only[Rep]
  refine⟨Γ.w.heap.size,by simp[bind],rfl,⟨.cells ((qaz z).map .dat),by simp,rfl⟩⟩
 ·simp only[execOp,ho,Instr.alloc,newVar,newRow]
  simp[qaZ hz]
theorem qtE(hr:Real fid Γ){t:TypeId}(ho:o.op = .makeMap t none):Comes P fid Γ ρ o (.mp Γ.σ.length) (Γ.σ ++ [.map []]):=by
 obtain⟨h1,h2⟩:=qbW hr (.map []) (.map #[] 0) 0
  (fun Γ' e hx=>by
   subst e
   simp only[RepOb,grow,if_pos]
   exact⟨trivial,#[],0,qav _ _,rfl⟩) (fun h=>absurd h (WP _))
 refine⟨_,.map (some Γ.w.heap.size),rfl,h1,h2,?_,.inl ?_⟩
 ·simp only[Rep]
  refine⟨Γ.w.heap.size,by simp[bind],rfl,⟨.map [],by simp,rfl⟩⟩
 ·simp only[execOp,ho,Instr.makeMap,Yd]
  simp
theorem qhA {t:TypeId} {agg:Bool} {n off f b:Nat} {cs vs:List V} {xs:List Value} {u:V} {arr:Array Value} {e:TypeId} (hs:(agg=true/\qaJ P t=some true/\qaH P t=some n)\/(agg=false/\qaJ P t=some false/\n=1))
  (h2 : Γ.w.heap[b]?=some (.cells arr e (0,0))) (h3:Reps fid Γ cs xs) (hpre : ∀ (j:Nat) x,xs[j]?=some x->arr[f+j]?=some x) (hc:qad cs off n=some vs) (hu:qbV agg vs=some u) :
  ∃ x,(loadVar t ⟨b,f+off,none⟩).run P Γ.w = .ok x Γ.w/\Rep fid Γ u x:=by
 obtain⟨c1,c2,c3⟩:=qfw hc
 have h4:Reps fid Γ vs ((xs.drop off).take n):=by rw[c1]; exact qbI (qb1 h3 off) n
 have hlen:=Reps.length h3
 have hcell : ∀ j x,((xs.drop off).take n)[j]?=some x -> Γ.w.cell? ⟨b,f+off+j,none⟩=some x:=fun j x hj=>by
  simp only[World.cell?,h2]
  rw[WN] at hj
  split at hj
  ·rw[Yt] at hj
   simpa [Yj] using hpre _ _ hj
  ·cases hj
 have hl:((xs.drop off).take n).length=n:=by rw[Reps.length h4,c2]
 rcases hs with ⟨rfl,ha,hsz⟩|⟨rfl,ha,rfl⟩
 ·rcases qdq h4 hu with ⟨_,h5⟩|⟨h5,_⟩
  ·exact⟨_,qeW ha (by rw[hl]; exact hsz) hcell,h5⟩
  ·cases h5
 ·rcases qdq h4 hu with ⟨h5,_⟩|⟨_,x,hx,h5⟩
  ·cases h5
  ·exact⟨x,qeX ha (by have:=hcell 0 x (by rw[hx]; rfl); simpa using this),h5⟩
theorem qgV {t:TypeId} {agg:Bool} {n off b:Nat} {cs vs:List V} {xs:List Value} {u:V} {arr:Array Value} {e:TypeId} (hs:(agg=true/\qaJ P t=some true/\qaH P t=some n)\/(agg=false/\qaJ P t=some false/\n=1))
  (h2 : Γ.w.heap[b]?=some (.cells arr e (0,0))) (h3:Reps fid Γ cs xs) (hpre : ∀ (j:Nat) x,xs[j]?=some x->arr[j]?=some x) (hc:qad cs off n=some vs) (hu:qbV agg vs=some u) :
  ∃ x,(loadVar t ⟨b,off,none⟩).run P Γ.w = .ok x Γ.w/\Rep fid Γ u x:=by
 simpa using qhA (f:=0) hs h2 h3 (by simpa using hpre) hc hu
theorem qkD (hr:Real fid Γ) {t:TypeId} {agg:Bool} {n l off b:Nat} {cs vs:List V} {u:V} (hs:(agg=true/\qaJ P t=some true/\qaH P t=some n)\/(agg=false/\qaJ P t=some false/\n=1))
  (ho : Γ.σ[l]?=some (.cells cs)) (hm : Γ.μ l=some b) (hc:qad cs off n=some vs) (hu:qbV agg vs=some u) :
  ∃ x,(loadVar t ⟨b,off,none⟩).run P Γ.w = .ok x Γ.w/\Rep fid Γ u x:=by
 obtain⟨_,arr,e,h2,h3⟩:=hr.obs l _ b ho hm
 exact qgV hs h2 h3 (fun j x h=>by simpa using h) hc hu
theorem qrx{arr:Array Value}{k j:Nat}{x:Value}(h:(arr.toList.take k)[j]?=some x):arr[j]?=some x:=by
 rw[WN] at h
 split at h
 ·simpa using h
 ·cases h
theorem qjO{arr:Array Value}{f k j:Nat}{x:Value}(h:((arr.toList.drop f).take k)[j]?=some x):arr[f+j]?=some x:=by
 rw[WN] at h
 split at h
 ·simpa using h
 ·cases h
theorem qhf(hr:Real fid Γ){l b:Nat}{ds:List D}(ho : Γ.σ[l]?=some (.froz ds))(hm : Γ.μ l=some b) : ∃ vs,RepDs Γ.F Γ.w ds vs/\Row Γ.F Γ.w b (Γ.F b-ds.length) vs:=by
 have:=hr.obs l _ b ho hm
 simp only[RepOb] at this
 obtain⟨h1,arr,e,h2,h3,h4,h5⟩:=this
 refine⟨_,h4,fun j x hj=>?_,fun _=>by have:=h4.length; omega,h5⟩
 simp only[World.cell?,h2]
 simpa using qjO hj
theorem qfN (hr:Real fid Γ) {l b:Nat} {cs vs:List V} {news:List Value} {arr arr':Array Value} {e:TypeId} {w':World} {k:Nat} (ho : Γ.σ[l]?=some (.vec cs)) (hm : Γ.μ l=some b)
  (ha : Γ.w.heap[b]?=some (.cells arr e (0,0))) (hn:Reps fid Γ vs news) (h1 : ∀ v∈news,v.oneCell'=true) (hk:k<=cs.length) (hle : Γ.F b+(k+vs.length)<=arr.size)
  (hw:WOnly b Γ.w w') (k3:w'.heap[b]?=some (.cells arr' e (0,0))) (k4:arr'.toList=arr.toList.take (Γ.F b+k)++(news++arr.toList.drop (Γ.F b+k+news.length))) :
  arr'.size=arr.size/\Real fid ⟨Γ.σ.set l (.vec (cs.take k++(vs++cs.drop (k+vs.length)))),Γ.μ,Γ.F,w'⟩/\Step Γ ⟨Γ.σ.set l (.vec (cs.take k++(vs++cs.drop (k+vs.length)))),Γ.μ,Γ.F,w'⟩:=by
 have hob:=hr.obs l _ b ho hm
 simp only[RepOb] at hob
 obtain⟨arr0,e0,h2',hlc,h3,h3'⟩:=hob
 rw[ha] at h2'; cases h2'
 have hlen:=Reps.length hn
 have hsz:arr'.size=arr.size:=by
  have:=congrArg List.length k4
  simp only[Ww,Wt,WR,Yf] at this
  omega
 have htake:(arr'.toList.drop (Γ.F b)).take (cs.take k++(vs++cs.drop (k+vs.length))).length=((arr.toList.drop (Γ.F b)).take cs.length).take k++(news++((arr.toList.drop (Γ.F b)).take cs.length).drop (k+vs.length)):=by
  have hA:arr'.toList.drop (Γ.F b)=(arr.toList.drop (Γ.F b)).take k++(news++(arr.toList.drop (Γ.F b)).drop (k+vs.length)):=by
   rw[k4,List.drop_append,List.drop_take,List.drop_drop,hlen]
   simp only[WR,Ww]
   rw[show Γ.F b-min (Γ.F b+k) arr.size=0 from by omega,WE,show Γ.F b+k - Γ.F b=k from by omega,Yj]
  have hl2:((arr.toList.drop (Γ.F b)).take k).length=k:=by simp; omega
  rw[hA]
  rw[List.take_append,List.take_append,hl2,hlen,List.drop_take,Yk,Yk]
  have e1:(cs.take k++(vs++cs.drop (k+vs.length))).length=k+(vs.length+(cs.length-(k+vs.length))):=by simp; omega
  rw[e1,show min (k+(vs.length+(cs.length-(k+vs.length)))) k=k from by omega,show min k cs.length=k from by omega,
   show k+(vs.length+(cs.length-(k+vs.length)))-k=vs.length+(cs.length-(k+vs.length)) from by omega,
   show vs.length+(cs.length-(k+vs.length))-vs.length=cs.length-(k+vs.length) from by omega,
   Wl (l:=news) (by omega)]
 obtain⟨u1,u2⟩:=qww hr ho hm (cs':=cs.take k++(vs++cs.drop (k+vs.length))) (by simp; omega) hw ha k3 hsz (fun i v hi hv=>by
   simp only[World.cell?,ha,k3] at hv ⊢
   have hv':arr[i]?=some v:=by simpa using hv
   have:arr'.toList[i]?=some v:=by
    rw[k4,Wo (by simp; have:=(WY.1 hv').1; omega),WN,if_pos (by omega)]
    simpa using hv'
   simpa using this) (fun hx=>by
  simp only[RepOb]
  refine⟨arr',e,k3,by rw[hsz]; simp; omega,?_,?_⟩
  ·rw[htake]
   exact Reps_append.2 ⟨_,_,rfl,Reps.ext hx _ _ (qbI h3 k),Reps_append.2 ⟨_,_,rfl,Reps.ext hx _ _ hn,Reps.ext hx _ _ (qb1 h3 _)⟩⟩
  ·rw[htake]
   intro v hv
   rcases We.1 hv with hv|hv
   ·exact h3' v (W8 hv)
   ·rcases We.1 hv with hv|hv
    ·exact h1 v hv
    ·exact h3' v (Yx hv))
 exact⟨hsz,u1,u2⟩
theorem qgW {t:TypeId} {agg:Bool} {n off b o':Nat} {cs ds:List D} {xs:List Value} {u:V} (hs:(agg=true/\qaJ P t=some true/\qaH P t=some n)\/(agg=false/\qaJ P t=some false/\n=1))
  (h3:RepDs Γ.F Γ.w cs xs) (h4:Row Γ.F Γ.w b o' xs) (hc:qad cs off n=some ds) (hu:qvn agg ds=some u) :
  ∃ x,(loadVar t ⟨b,o'+off,none⟩).run P Γ.w = .ok x Γ.w/\Rep fid Γ u x:=by
 obtain⟨c1,c2,c3⟩:=qfw hc
 have h5:RepDs Γ.F Γ.w ds ((xs.drop off).take n):=by rw[c1]; exact qff (qfe h3 off) n
 have hcell : ∀ j x,((xs.drop off).take n)[j]?=some x -> Γ.w.cell? ⟨b,o'+off+j,none⟩=some x:=fun j x hj=>by
  rw[WN] at hj
  split at hj
  ·rw[Yt] at hj
   rw[Yj]
   exact h4.1 _ _ hj
  ·cases hj
 have hl:((xs.drop off).take n).length=n:=by rw[RepDs.length h5,c2]
 rcases hs with ⟨rfl,ha,hsz⟩|⟨rfl,ha,rfl⟩
 ·simp[qvn] at hu; subst hu
  refine⟨_,qeW ha (by rw[hl]; exact hsz) hcell,?_⟩
  simp only[Rep,RepD]
  exact⟨_,rfl,h5⟩
 ·simp only[qvn,Wz,if_false] at hu
  split at hu
  ·cases hu
   simp only[RepDs] at h5
   obtain⟨x,ys,h6,h7,rfl⟩:=h5
   exact⟨x,qeX ha (by have:=hcell 0 x (by rw[h6]; rfl); simpa using this),by simpa [Rep] using h7⟩
  ·cases hu
theorem qkE (hr:Real fid Γ) {t:TypeId} {agg:Bool} {n:Nat} {p u:V} {x:Value} (hs:(agg=true/\qaJ P t=some true/\qaH P t=some n)\/(agg=false/\qaJ P t=some false/\n=1))
  (hp:Rep fid Γ p x) (hl:qco Γ.σ agg n p=some u) : ∃ ad y,x = .pointer (some ad)/\(loadVar t ad).run P Γ.w = .ok y Γ.w/\Rep fid Γ u y:=by
 unfold qco at hl
 split at hl
 ·rename_i l off
  simp only[Rep] at hp
  obtain⟨b,hm,rfl,_⟩:=hp
  split at hl
  ·rename_i cs hcs
   split at hl
   ·rename_i vs hvs
    obtain⟨y,h1,h2⟩:=qkD hr hs hcs hm hvs hl
    exact⟨_,y,rfl,h1,h2⟩
   ·cases hl
  ·rename_i t' cs hcs
   split at hl
   ·rename_i vs hvs
    obtain⟨_,arr,h2,h3⟩:=hr.obs l _ b hcs hm
    obtain⟨y,h1,h2⟩:=qgV hs h2 h3 (fun j x h=>by simpa using h) hvs hl
    exact⟨_,y,rfl,h1,h2⟩
   ·cases hl
  ·cases hl
 ·rename_i cs off
  simp only[Rep,RepD] at hp
  obtain⟨b,o',xs,rfl,h3,h4⟩:=hp
  split at hl
  ·rename_i ds hds
   obtain⟨y,h1,h2⟩:=qgW hs h3 h4 hds hl
   exact⟨_,y,rfl,h1,h2⟩
  ·cases hl
 ·rename_i l m off
  simp only[Rep] at hp
  obtain⟨a,rfl,_,hp⟩:=hp
  split at hl
  ·rename_i cs hcs
   split at hl
   ·rename_i hlen
    obtain⟨b,arr,e,hm,rfl,ha,_⟩:=(hp _ cs hcs rfl).2 hlen
    split at hl
    ·rename_i vs hvs
     have hob:=hr.obs l _ b hcs hm
     simp only[RepOb] at hob
     obtain⟨arr',e',h2,h3,h4,_⟩:=hob
     obtain⟨y,h1,h2⟩:=qhA hs h2 h4 (fun j x h=>qjO h) hvs hl
     exact⟨_,y,rfl,h1,h2⟩
    ·cases hl
   ·cases hl
  ·rename_i ds hds
   split at hl
   ·rename_i hlen
    obtain⟨b,arr,e,hm,rfl,ha,_⟩:=(hp _ _ hds rfl).2 (by simpa using hlen)
    split at hl
    ·rename_i vs hvs
     obtain⟨xs,h3,h4⟩:=qhf hr hds hm
     obtain⟨y,h1,h2⟩:=qgW hs h3 h4 hvs hl
     exact⟨_,y,rfl,h1,h2⟩
    ·cases hl
   ·cases hl
  ·cases hl
 ·cases hl
theorem qsH (hr:Real fid Γ) {t:TypeId} {agg:Bool} {n:Nat} {x:Operand} {p u:V} (ho:o.op = .load t x) (hs:(agg=true/\qaJ P t=some true/\qaH P t=some n)\/(agg=false/\qaJ P t=some false/\n=1))
  (hp:Rep fid Γ p (ρ x)) (hl:qco Γ.σ agg n p=some u):Comes P fid Γ ρ o u Γ.σ:=by
 obtain⟨ad,y,h1,h2,h3⟩:=qkE hr hs hp hl
 refine .pure hr (x:=y) ?_ h3
 simp only[execOp,ho,Instr.loadAt,h1,Instr.sureAddr]
 simp[h2]
theorem qtF (hr:Real fid Γ) {t:TypeId} {n:Nat} {x y:Operand} {p u:V} (ho:o.op = .store t x y) (hs:qaH P t=some n)
  (hp:Rep fid Γ p (ρ x)) (hu:Rep fid Γ u (ρ y)) (hl:storeV Γ.σ n p u=some σ'):Comes P fid Γ ρ o (.dat (.lit undef)) σ':=by
 unfold storeV at hl
 split at hl
 ·rename_i l off
  simp only[Rep] at hp
  obtain⟨b,hm,hx,_⟩:=hp
  split at hl
  ·rename_i cs hcs
   simp only at hl
   split at hl
   ·rename_i hcond
    obtain⟨c1,c2,c3⟩:=hcond
    cases hl
    obtain⟨hF,arr,e,h2,h3⟩:=hr.obs l _ b hcs hm
    have hcells:=qdX hu
    have hlen:=Reps.length h3
    have hlen':=Reps.length hcells
    obtain⟨w',k1,k2,arr',k3,k4⟩:=qeY (P:=P) (o:=off) hs (by simpa [c1] using hlen') h2 (qbP hcells c3) (by rw[Ww] at hlen; omega)
    obtain⟨u1,u2⟩:=upd hr hcs rfl (ob' := .cells (cs.take off++(u.cells++cs.drop (off+n)))) rfl hm k2 (fun hx=>by
     simp only[RepOb]
     refine⟨hF,arr',e,k3,?_⟩
     rw[k4]
     refine Reps_append.2 ⟨_,_,rfl,Reps.ext hx _ _ (qbI h3 off),Reps_append.2 ⟨_,_,rfl,Reps.ext hx _ _ hcells,Reps.ext hx _ _ (qb1 h3 _)⟩⟩)
    refine⟨_,undef,rfl,u1,u2,by simp[Rep,RepD,qbo,undef],.inr ⟨?_,rfl⟩⟩
    simp only[execOp,ho,Instr.storeAt,hx,Instr.sureAddr]
    simp[k1]
   ·cases hl
  ·rename_i t' cs hcs
   simp only at hl
   split at hl
   ·rename_i hcond
    obtain⟨c1,c2,c3⟩:=hcond
    cases hl
    obtain⟨hF,arr,h2,h3⟩:=hr.obs l _ b hcs hm
    have hcells:=qdX hu
    have hlen:=Reps.length h3
    have hlen':=Reps.length hcells
    obtain⟨w',k1,k2,arr',k3,k4⟩:=qeY (P:=P) (o:=off) hs (by simpa [c1] using hlen') h2 (qbP hcells c3) (by rw[Ww] at hlen; omega)
    obtain⟨u1,u2⟩:=upd hr hcs rfl (ob' := .cellsT t' (cs.take off++(u.cells++cs.drop (off+n)))) rfl hm k2 (fun hx=>by
     simp only[RepOb]
     refine⟨hF,arr',k3,?_⟩
     rw[k4]
     refine Reps_append.2 ⟨_,_,rfl,Reps.ext hx _ _ (qbI h3 off),Reps_append.2 ⟨_,_,rfl,Reps.ext hx _ _ hcells,Reps.ext hx _ _ (qb1 h3 _)⟩⟩)
    refine⟨_,undef,rfl,u1,u2,by simp[Rep,RepD,qbo,undef],.inr ⟨?_,rfl⟩⟩
    simp only[execOp,ho,Instr.storeAt,hx,Instr.sureAddr]
    simp[k1]
   ·cases hl
  ·cases hl
 ·rename_i l m off
  simp only[Rep] at hp
  obtain⟨a,hx,_,hp⟩:=hp
  split at hl
  ·rename_i cs hcs
   simp only at hl
   split at hl
   ·rename_i hcond
    obtain⟨c0,c1,c2,c3⟩:=hcond
    cases hl
    obtain⟨b,arr,e,hm,rfl,h2,_⟩:=(hp _ cs hcs rfl).2 c0
    have hob:=hr.obs l _ b hcs hm
    simp only[RepOb] at hob
    obtain⟨arr0,e0,h2',hle,h3,h3'⟩:=hob
    rw[h2] at h2'; cases h2'
    have hcells:=qdX hu
    have hlen':=Reps.length hcells
    obtain⟨w',k1,k2,arr',k3,k4⟩:=qeY (P:=P) (o := Γ.F b-(Ob.vec cs).fz+off) hs (by simpa [c1] using hlen') h2 (qbP hcells c3) (by simp only[Ob.fz]; omega)
    simp only[Ob.fz,Nat.sub_zero] at k4 ⊢
    obtain⟨_,u1,u2⟩:=qfN hr hcs hm h2 hcells (qbP hcells c3) (show off<=cs.length by omega) (by omega) k2 k3 (by rw[k4,hlen',c1])
    rw[c1] at u1 u2
    refine⟨_,undef,rfl,u1,u2,by simp[Rep,RepD,qbo,undef],.inr ⟨?_,rfl⟩⟩
    simp only[execOp,ho,Instr.storeAt,hx,Instr.sureAddr]
    simp[k1]
   ·cases hl
  ·cases hl
 ·cases hl
end
end
end Go.Pm
