/- The given operations' runs, where the abstract ones go through. -/
import Derived.Test.YtcmlfifednjemaaGreatDoorPmAL
import Derived.Laws.Small
import Derived.Lib.ConvBytes
import Derived.Laws.StructEq
import Derived.ChangeKeysEq
import Derived.IntWalk
set_option linter.unusedSimpArgs false
set_option linter.unusedVariables false
namespace Go.Pm
section
variable{P:Program}
theorem qai{t:TypeId}{d:TypeDesc}(h:P.underlying t=some d)(w:World):(underlying t).run P w = .ok d w:=by
 simp[underlying,h]
theorem qbE{t:TypeId}{i:TypeInfo}(h:P.info? t=some i)(w:World):(typeInfo t).run P w = .ok i w:=by
 simp[typeInfo,h]
theorem qaH{t:TypeId}{n:Nat}(h:qaP P t=some n)(w:World):(sizeOf t).run P w = .ok n w:=by
 unfold qaP at h
 cases hi:P.info? t with
 |none=>rw[hi] at h; cases h
 |some i=>rw[hi] at h; cases h; simp[sizeOf,qbE hi]
theorem qbd{t:TypeId}{z:Value}(h:qc5 P t=some z)(w:World):(zeroValue t).run P w = .ok z w:=by
 unfold qc5 at h
 cases hi:P.info? t with
 |none=>rw[hi] at h; cases h
 |some i=>
  rw[hi] at h
  simp only[Option.bind_some] at h
  cases hz:i.zero with
  |none=>rw[hz] at h; cases h
  |some z'=>
   rw[hz] at h
   simp only at h
   split at h
   ·cases h; simp[zeroValue,qbE hi,hz]
   ·cases h
theorem qbV{t:TypeId}{z:Value}(h:qc5 P t=some z):qel z=true:=by
 unfold qc5 at h
 split at h
 ·split at h
  ·rename_i hz; cases h; exact hz
  ·cases h
 ·cases h
theorem qc0{t:TypeId}{b:Bool}(h:qaw P t=some b)(w:World):(isAgg t).run P w = .ok b w:=by
 unfold qaw at h
 cases hu:P.underlying t with
 |none=>rw[hu] at h; cases h
 |some d=>
  rw[hu] at h
  simp only[isAgg,Sem.run_bind,qai hu,Result.andThen_ok]
  cases d<;>simp_all
theorem qbI(b o i:Nat):(⟨b,o,none⟩:Addr).add i=⟨b,o+i,none⟩:=by
 unfold Addr.add
 split
 ·rename_i h; subst h; rfl
 ·rfl
theorem qjY{a:Addr}{v:Value}{w:World}(h:w.cell? a=some v):(load a).run P w = .ok v w:=by
 simp[h]
theorem qd1 (w:World) (b o:Nat) : ∀ (vs:List Value) (i:Nat) (acc:Array Value),
  (∀ j v,vs[j]?=some v->w.cell? ⟨b,o+(i+j),none⟩=some v) ->
  (loadCellsFrom ⟨b,o,none⟩ i vs.length acc).run P w = .ok (acc++vs.toArray) w
 |[],i,acc,_=>by simp[loadCellsFrom]
 |v::vs,i,acc,h=>by
  have h0:=h 0 v (by simp)
  have ih:=qd1 w b o vs (i+1) (acc.push v) (fun j u hj=>by
   have:=h (j+1) u (by simpa using hj)
   rw[show i+1+j=i+(j+1) from by omega]; exact this)
  simp only[Wd,loadCellsFrom,Sem.run_bind,qbI]
  rw[qjY (by simpa using h0)]
  simp only[Result.andThen_ok,ih]
  congr 1
  apply WN
  simp
theorem qbx {w:World} {b o:Nat} {vs:List Value} (h : ∀ j v,vs[j]?=some v->w.cell? ⟨b,o+j,none⟩=some v) :
  (loadCells ⟨b,o,none⟩ vs.length).run P w = .ok vs.toArray w:=by
 have:=qd1 (P:=P) w b o vs 0 #[] (by simpa using h)
 simpa [loadCells] using this
theorem qeM {t:TypeId} {w:World} {b o:Nat} {vs:List Value} (ha:qaw P t=some true) (hs:qaP P t=some vs.length)
  (h : ∀ j v,vs[j]?=some v->w.cell? ⟨b,o+j,none⟩=some v):(loadVar t ⟨b,o,none⟩).run P w = .ok (.agg vs.toArray) w:=by
 simp[loadVar,qc0 ha,qaH hs,qbx h]
theorem qeN {t:TypeId} {w:World} {a:Addr} {v:Value} (ha:qaw P t=some false) (h:w.cell? a=some v) :
  (loadVar t a).run P w = .ok v w:=by
 simp only[loadVar,Sem.run_bind,qc0 ha,Result.andThen_ok]
 simp[h]
theorem qcO : ∀ (vs:List Value) (i:Nat) (w:World) (b o:Nat) (arr:Array Value) (e:TypeId),
  w.heap[b]?=some (.cells arr e (0,0))->(∀ v∈vs,v.oneCell'=true)->o+i+vs.length<=arr.size ->
  ∃ w',(storeCells ⟨b,o,none⟩ vs i).run P w = .ok () w'/\WOnly b w w' /\
   ∃ arr',w'.heap[b]?=some (.cells arr' e (0,0))/\arr'.toList=arr.toList.take (o+i)++(vs++arr.toList.drop (o+i+vs.length))
 |[],i,w,b,o,arr,e,hb,_,_=>⟨w,by simp[storeCells],.refl _ _,arr,hb,by simp⟩
 |v::vs,i,w,b,o,arr,e,hb,h1,hlen=>by
  simp only[Wd] at hlen
  have hcell : ∃ u,w.cell? ⟨b,o+i,none⟩=some u:=by
   refine⟨arr[o+i]'(by omega),?_⟩
   simp only[World.cell?,hb]
   simp
  obtain⟨u,hu⟩:=hcell
  have hfz:w.frozen? ⟨b,o+i,none⟩=false:=by simp[World.frozen?,hb]
  have hb':(w.setCell ⟨b,o+i,none⟩ v).heap[b]?=some (.cells (arr.setIfInBounds (o+i) v) e (0,0)):=by
   simp only[World.setCell,Array.getElem?_modify,hb]
   simp
  have hw:WOnly b w (w.setCell ⟨b,o+i,none⟩ v):=⟨rfl,rfl,rfl,by simp,fun k hk=>by simp only[World.setCell,Array.getElem?_modify]; rw[if_neg (Yw hk)]⟩
  obtain⟨w',hr,hw',arr',ha',hl⟩:=qcO vs (i+1) (w.setCell ⟨b,o+i,none⟩ v) b o (arr.setIfInBounds (o+i) v) e hb'
   (fun x hx=>h1 x (Wz _ hx)) (by simp; omega)
  refine⟨w',?_,hw.trans hw',arr',ha',?_⟩
  ·simp only[storeCells,Sem.run_bind,qbI]
   rw[run_store P w _ v .plain (h1 v (by simp)),hu]
   simp[hfz,hr]
  ·rw[hl,Array.toList_setIfInBounds]
   have hlt:o+i<arr.toList.length:=by rw[WA]; omega
   rw[show o+(i+1)=o+i+1 from by omega]
   rw[Ym (by simpa using hlt),List.getElem_set_self,List.take_set_of_le (Wi _),List.drop_set_of_lt (by omega)]
   simp
   try omega
theorem qeO {t:TypeId} {x:Value} {n:Nat} {w:World} {b o:Nat} {arr:Array Value} {e:TypeId} (hs:qaP P t=some n) (hx:x.cells.size=n)
  (hb:w.heap[b]?=some (.cells arr e (0,0))) (h1 : ∀ v∈x.cells.toList,v.oneCell'=true) (hlen:o+n<=arr.size) :
  ∃ w',(storeVar t ⟨b,o,none⟩ x).run P w = .ok () w'/\WOnly b w w' /\
   ∃ arr',w'.heap[b]?=some (.cells arr' e (0,0))/\arr'.toList=arr.toList.take o++(x.cells.toList++arr.toList.drop (o+n)):=by
 obtain⟨w',h1,h2,arr',h3,h4⟩:=qcO (P:=P) x.cells.toList 0 w b o arr e hb h1 (by simp[hx]; omega)
 refine⟨w',?_,h2,arr',h3,by simpa [hx] using h4⟩
 simp only[storeVar,Sem.run_bind,qaH hs,Result.andThen_ok]
 simp[hx,h1]
theorem RepDs_append{F:Nat->Nat}{w:World} : ∀ {a b:List D} {xs:List Value},RepDs F w (a++b) xs ↔ ∃ ys zs,xs=ys++zs/\RepDs F w a ys/\RepDs F w b zs
 |[],b,xs=>by
  simp only[Wg,RepDs]
  exact⟨fun h=>⟨[],xs,rfl,rfl,h⟩,fun ⟨ys,zs,h1,h2,h3⟩=>by subst h2; simpa [h1] using h3⟩
 |d::a,b,xs=>by
  simp only[Wh,RepDs,RepDs_append (a:=a) (b:=b)]
  constructor
  ·rintro ⟨x,ys,rfl,h1,y,z,rfl,h2,h3⟩
   exact⟨x::y,z,rfl,⟨x,y,rfl,h1,h2⟩,h3⟩
  ·rintro ⟨ys,zs,rfl,⟨x,y,rfl,h1,h2⟩,h3⟩
   exact⟨x,y++zs,rfl,h1,y,zs,rfl,h2,h3⟩
theorem Reps_append{fid:Fid}{Γ : Ctx} : ∀ {a b:List V} {xs:List Value},Reps fid Γ (a++b) xs ↔ ∃ ys zs,xs=ys++zs/\Reps fid Γ a ys/\Reps fid Γ b zs
 |[],b,xs=>by
  simp only[Wg,Reps]
  exact⟨fun h=>⟨[],xs,rfl,rfl,h⟩,fun ⟨ys,zs,h1,h2,h3⟩=>by subst h2; simpa [h1] using h3⟩
 |d::a,b,xs=>by
  simp only[Wh,Reps,Reps_append (a:=a) (b:=b)]
  constructor
  ·rintro ⟨x,ys,rfl,h1,y,z,rfl,h2,h3⟩
   exact⟨x::y,z,rfl,⟨x,y,rfl,h1,h2⟩,h3⟩
  ·rintro ⟨ys,zs,rfl,⟨x,y,rfl,h1,h2⟩,h3⟩
   exact⟨x,y++zs,rfl,h1,y,zs,rfl,h2,h3⟩
theorem qgC{F:Nat->Nat}{w:World}{ds:List D}{xs:List Value}(h:RepDs F w ds xs)(n:Nat):RepDs F w (ds.drop n) (xs.drop n):=by
 by_cases hn:n<=ds.length
 ·obtain⟨a,b,rfl,rfl⟩ : ∃ a b,ds=a++b/\a.length=n:=⟨ds.take n,ds.drop n,(W9 n ds).symm,by simp; omega⟩
  obtain⟨ys,zs,rfl,h1,h2⟩:=RepDs_append.1 h
  have:=h1.length
  rw[List.drop_left' rfl,List.drop_left' (by omega)]
  exact h2
 ·rw[Yg (by omega),Yg (by have:=h.length; omega)]
  simp[RepDs]
theorem qgD{F:Nat->Nat}{w:World}{ds:List D}{xs:List Value}(h:RepDs F w ds xs)(n:Nat):RepDs F w (ds.take n) (xs.take n):=by
 by_cases hn:n<=ds.length
 ·obtain⟨a,b,rfl,rfl⟩ : ∃ a b,ds=a++b/\a.length=n:=⟨ds.take n,ds.drop n,(W9 n ds).symm,by simp; omega⟩
  obtain⟨ys,zs,rfl,h1,h2⟩:=RepDs_append.1 h
  have:=h1.length
  rw[Yu rfl,Yu (by omega)]
  exact h1
 ·rw[Ww (by omega),Ww (by have:=h.length; omega)]
  exact h
theorem qdw{fid:Fid}{Γ : Ctx}{ds:List V}{xs:List Value}(h:Reps fid Γ ds xs)(n:Nat):Reps fid Γ (ds.drop n) (xs.drop n):=by
 by_cases hn:n<=ds.length
 ·obtain⟨a,b,rfl,rfl⟩ : ∃ a b,ds=a++b/\a.length=n:=⟨ds.take n,ds.drop n,(W9 n ds).symm,by simp; omega⟩
  obtain⟨ys,zs,rfl,h1,h2⟩:=Reps_append.1 h
  have:=h1.length
  rw[List.drop_left' rfl,List.drop_left' (by omega)]
  exact h2
 ·rw[Yg (by omega),Yg (by have:=h.length; omega)]
  simp[Reps]
theorem qc1{fid:Fid}{Γ : Ctx}{ds:List V}{xs:List Value}(h:Reps fid Γ ds xs)(n:Nat):Reps fid Γ (ds.take n) (xs.take n):=by
 by_cases hn:n<=ds.length
 ·obtain⟨a,b,rfl,rfl⟩ : ∃ a b,ds=a++b/\a.length=n:=⟨ds.take n,ds.drop n,(W9 n ds).symm,by simp; omega⟩
  obtain⟨ys,zs,rfl,h1,h2⟩:=Reps_append.1 h
  have:=h1.length
  rw[Yu rfl,Yu (by omega)]
  exact h1
 ·rw[Ww (by omega),Ww (by have:=h.length; omega)]
  exact h
theorem Reps_dat{fid:Fid}{Γ : Ctx} : ∀ {ds:List D} {xs:List Value},Reps fid Γ (ds.map .dat) xs↔RepDs Γ.F Γ.w ds xs
 |[],xs=>by simp[Reps,RepDs]
 |d::ds,xs=>by simp[Reps,RepDs,Rep,Reps_dat]
theorem qdx : ∀ {vs:List V} {ds:List D},qbC vs=some ds->vs=ds.map .dat
 |[],ds,h=>by simp[qbC] at h; subst h; rfl
 |v::vs,ds,h=>by
  cases v with
  |dat d=>
   simp only[qbC] at h
   split at h
   ·rename_i ds' h'
    cases h
    rw[qdx h']; rfl
   ·cases h
  |_=>simp[qbC] at h
theorem qd2{fid:Fid}{Γ : Ctx}{vs:List V}{xs:List Value}(h:Reps fid Γ vs xs):Rep fid Γ (qfM vs) (.agg xs.toArray):=by
 unfold qfM
 split
 ·rename_i ds hd
  have:=qdx hd
  subst this
  simp only[Rep,RepD]
  exact⟨xs,rfl,Reps_dat.1 h⟩
 ·simp only[Rep]
  exact⟨xs,rfl,h⟩
theorem qlQ{x:Value}(h:qbL x=true):x.cells = #[x]:=by
 cases x<;>simp_all [qbL,Value.cells]
theorem qeP{fid:Fid}{Γ : Ctx}{v:V}{x:Value}(h:Rep fid Γ v x):Reps fid Γ v.cells x.cells.toList:=by
 have single : ∀ u,qbL x=true->v=u->v.cells=[u]->Reps fid Γ v.cells x.cells.toList:=fun u hx hv hc=>by
  rw[hc,qlQ hx,<- hv]
  simp[Reps,h]
 cases v with
 |dat d=>
  cases d with
  |lit v=>simp only[Rep,RepD] at h; exact single _ (by rw[h.1]; exact h.2) rfl rfl
  |sl cs n f=>simp only[Rep,RepD] at h; obtain⟨b,o,cap,vs,rfl,_⟩:=h; exact single _ rfl rfl rfl
  |imm cs o=>simp only[Rep,RepD] at h; obtain⟨b,o,vs,rfl,_⟩:=h; exact single _ rfl rfl rfl
  |agg cs=>
   simp only[Rep,RepD] at h
   obtain⟨vs,rfl,h⟩:=h
   simpa [V.cells,Value.cells] using Reps_dat.2 h
  |iface t d=>simp only[Rep,RepD] at h
 |ptr l o=>simp only[Rep] at h; obtain⟨b,_,rfl,_⟩:=h; exact single _ rfl rfl rfl
 |gsl cs n sz l=>simp only[Rep] at h; obtain⟨b,cap,vs,m,rfl,_⟩:=h; exact single _ rfl rfl rfl
 |msl l o n cap sz=>simp only[Rep] at h; obtain⟨b,_,rfl,_⟩:=h; exact single _ rfl rfl rfl
 |own l n sz=>simp only[Rep] at h; obtain⟨a,cap,rfl,_⟩:=h; exact single _ rfl rfl rfl
 |eptr l n o=>simp only[Rep] at h; obtain⟨a,rfl,_⟩:=h; exact single _ rfl rfl rfl
 |bm g v=>simp only[Rep] at h; obtain⟨t,nm,y,rfl,_⟩:=h; exact single _ rfl rfl rfl
 |agg cs=>
  simp only[Rep] at h
  obtain⟨vs,rfl,h⟩:=h
  simpa [V.cells,Value.cells] using h
 |fn f a b=>simp only[Rep] at h; obtain⟨as,bs,rfl,_⟩:=h; exact single _ rfl rfl rfl
 |mp l=>simp only[Rep] at h; obtain⟨b,_,rfl,_⟩:=h; exact single _ rfl rfl rfl
 |iface t v=>simp only[Rep] at h; obtain⟨y,rfl,_⟩:=h; exact single _ rfl rfl rfl
 |tup vs=>simp only[Rep] at h; obtain⟨xs,rfl,_⟩:=h; exact single _ rfl rfl rfl
 |yld l=>simp only[Rep] at h; obtain⟨b,_,rfl,_⟩:=h; exact single _ rfl rfl rfl
 |pan v=>simp only[Rep] at h
theorem quy{fid:Fid}{Γ : Ctx}{v:V}{x:Value}(h:Rep fid Γ v x)(h1:v.one=true):x.oneCell'=true:=by
 cases v with
 |dat d=>
  cases d with
  |lit v=>simp only[Rep,RepD] at h; rw[h.1]; exact h1
  |sl cs n f=>simp only[Rep,RepD] at h; obtain⟨b,o,cap,vs,rfl,_⟩:=h; rfl
  |imm cs o=>simp only[Rep,RepD] at h; obtain⟨b,o,vs,rfl,_⟩:=h; rfl
  |agg cs=>simp[V.one] at h1
  |iface t d=>simp only[Rep,RepD] at h
 |ptr l o=>simp only[Rep] at h; obtain⟨b,_,rfl,_⟩:=h; rfl
 |gsl cs n sz l=>simp only[Rep] at h; obtain⟨b,cap,vs,m,rfl,_⟩:=h; rfl
 |msl l o n cap sz=>simp only[Rep] at h; obtain⟨b,_,rfl,_⟩:=h; rfl
 |own l n sz=>simp only[Rep] at h; obtain⟨a,cap,rfl,_⟩:=h; rfl
 |eptr l n o=>simp only[Rep] at h; obtain⟨a,rfl,_⟩:=h; rfl
 |bm g v=>simp only[Rep] at h; obtain⟨t,nm,y,rfl,_⟩:=h; rfl
 |agg cs=>simp[V.one] at h1
 |fn f a b=>simp only[Rep] at h; obtain⟨as,bs,rfl,_⟩:=h; rfl
 |mp l=>simp only[Rep] at h; obtain⟨b,_,rfl,_⟩:=h; rfl
 |iface t v=>simp only[Rep] at h; obtain⟨y,rfl,_⟩:=h; rfl
 |tup vs=>simp[V.one] at h1
 |yld l=>simp only[Rep] at h; obtain⟨b,_,rfl,_⟩:=h; rfl
 |pan v=>simp only[Rep] at h
theorem qda{fid:Fid}{Γ : Ctx} : ∀ {vs:List V} {xs:List Value},Reps fid Γ vs xs->vs.all V.one=true -> ∀ x∈xs,x.oneCell'=true
 |[],xs,h,_,x,hx=>by simp only[Reps] at h; subst h; cases hx
 |v::vs,xs,h,ha,x,hx=>by
  simp only[Reps] at h
  obtain⟨y,ys,rfl,h1,h2⟩:=h
  simp only[List.all_cons,Wq] at ha
  rcases Wp.1 hx with rfl|hx
  ·exact quy h1 ha.1
  ·exact qda h2 ha.2 x hx
theorem qdJ {fid:Fid} {Γ : Ctx} {agg:Bool} {vs:List V} {xs:List Value} {v:V} (h:Reps fid Γ vs xs) (ho:qcA agg vs=some v) :
  (agg=true/\Rep fid Γ v (.agg xs.toArray))\/(agg=false /\ ∃ x,xs=[x]/\Rep fid Γ v x):=by
 unfold qcA at ho
 split at ho
 ·rename_i ha
  cases ho
  exact .inl ⟨by simpa using ha,qd2 h⟩
 ·rename_i ha
  split at ho
  ·cases ho
   simp only[Reps] at h
   obtain⟨x,ys,rfl,h1,rfl⟩:=h
   exact .inr ⟨by simpa using ha,x,rfl,h1⟩
  ·cases ho
theorem qfy{α : Type}{cs r:List α}{o n:Nat}(h:qaj cs o n=some r):r=(cs.drop o).take n/\r.length=n/\(0<n->o+n<=cs.length):=by
 unfold qaj at h
 simp only at h
 split at h
 ·rename_i hl
  cases h
  refine⟨rfl,hl,fun hn=>?_⟩
  simp at hl
  omega
 ·cases h
theorem qeQ{F:Nat->Nat}{w:World} : ∀ {xs:List Value},(∀ x∈xs,qbL x=true)->RepDs F w (xs.map .lit) xs
 |[],_=>by simp[RepDs]
 |x::xs,h=>by
  simp only[Wu,RepDs,RepD]
  exact⟨x,xs,rfl,⟨rfl,h x (by simp)⟩,qeQ fun y hy=>h y (Wz _ hy)⟩
theorem qa3{F:Nat->Nat}{w:World}{z:Value}(h:qel z=true):RepDs F w (qar z) z.cells.toList:=by
 unfold qar
 refine qeQ fun x hx=>?_
 simp only[qel,Wy,Wq] at h
 exact (h x hx).1
theorem qmT{F:Nat->Nat}{w:World}{z:Value}(h:qel z=true):RepD F w (toD z) z:=by
 cases z with
 |agg cs=>
  simp only[toD,RepD]
  refine⟨cs.toList,by simp,qeQ fun x hx=>?_⟩
  simp only[qel,Value.cells,Wy,Wq] at h
  exact (h x hx).1
 |_=>simp[toD,RepD,qbL]
end
section
variable{P:Program}{ids:Ids}{fid:Fid}{N:Nat}
structure Ties(P:Program)(ids:Ids)(fid:Fid):Prop where
 fn : ∀ f g,ids.fn f=some g->fid g=f
 ty : ∀ t u,ids.ty t=some u->fid.ty u=t
 mt : ∀ g t nm,fid.mt g t nm ↔ ∃ f,methT P t nm=some f/\ids.fn f=some g
 gl : ∀ g cs,ids.gl g=some cs->fid.gl g=some cs
theorem qah (hid:Ties P ids fid) {Γ : Ctx} (hreal:Real fid Γ) {fr:Fr} {a:Act} (hf:FrRep fid Γ N fr a.tmps) {x:Operand} {y:X} {v:V}
  (hc:cX ids N x=some y) (hv:y.ev fr=some v):Rep fid Γ v (a.eval x):=by
 cases x with
 |tmp t=>
  simp only[cX] at hc
  split at hc
  ·rename_i ht
   cases hc
   exact hf.2 t v ht hv
  ·cases hc
 |const c=>
  simp only[cX] at hc
  split at hc
  ·rename_i hn
   cases hc
   simp only[X.ev,We] at hv
   subst hv
   simp[Rep,RepD,Act.eval,hn]
  ·cases hc
 |global g=>
  simp only[cX,Wf] at hc
  obtain⟨cs,hcs,rfl⟩:=hc
  simp only[X.ev,We] at hv
  subst hv
  obtain⟨vs,h1,h2⟩:=hreal.glb g cs (hid.gl g cs hcs)
  simp only[Rep,RepD,Act.eval]
  exact⟨g,0,vs,rfl,h1,h2⟩
 |func f=>
  simp only[cX,Wf] at hc
  obtain⟨g,hg,rfl⟩:=hc
  simp only[X.ev,We] at hv
  subst hv
  simp only[Rep,Act.eval,hid.fn f g hg]
  exact⟨[],[],rfl,rfl,rfl⟩
theorem qbj (hid:Ties P ids fid) {Γ : Ctx} (hreal:Real fid Γ) {fr:Fr} {a:Act} (hf:FrRep fid Γ N fr a.tmps) : ∀ {xs:List Operand} {ys:List X} {vs:List V},
  cXs ids N xs=some ys->evs fr ys=some vs->Reps fid Γ vs (xs.map a.eval)
 |[],ys,vs,hc,hv=>by
  simp only[cXs,We] at hc; subst hc
  simp only[evs,We] at hv; subst hv
  simp[Reps]
 |x::xs,ys,vs,hc,hv=>by
  simp only[cXs] at hc
  split at hc
  ·rename_i y ys' h1 h2
   cases hc
   simp only[evs] at hv
   split at hv
   ·rename_i v vs' h3 h4
    cases hv
    simp only[Wu,Reps]
    exact⟨_,_,rfl,qah hid hreal hf h1 h3,qbj hid hreal hf h2 h4⟩
   ·cases hv
  ·cases hc
theorem qmg {F:Fence} {n:Nat} {o:Oper} {a:Act} {w w':World} {K:Act->World->Prop} {Q:Exit->Act->World->Prop} {x:Value} (hF : ∀ f,F.fn f)
  (hd : ∀ c,o.op ≠ .defer c) (h:(execOp a.eval o).run P w = .ok (.value x) w') (hk:K (a.put o.dst x) w'):o.wpIn F n P a w K Q:=
 ⟨fun f _=>hF f,by rw[Oper.semAt_eq _ _ _ hd,h]; exact hk⟩
theorem qnh {F:Fence} {n:Nat} {o:Oper} {a:Act} {w w':World} {K:Act->World->Prop} {Q:Exit->Act->World->Prop} (hF : ∀ f,F.fn f)
  (hd : ∀ c,o.op ≠ .defer c) (h:(execOp a.eval o).run P w = .ok .skip w') (hk:K (a.put o.dst undef) w'):o.wpIn F n P a w K Q:=
 ⟨fun f _=>hF f,by rw[Oper.semAt_eq _ _ _ hd,h]; exact hk⟩
def Comes(P:Program)(fid:Fid)(Γ : Ctx)(ρ : Operand->Value)(o:Oper)(v:V)(σ':S):Prop:=
 ∃ (Γ':Ctx) (x:Value),Γ'.σ = σ'/\Real fid Γ'/\Step Γ Γ'/\Rep fid Γ' v x /\
  ((execOp ρ o).run P Γ.w = .ok (.value x) Γ'.w\/((execOp ρ o).run P Γ.w = .ok .skip Γ'.w/\x=undef))
theorem Comes.wp {F:Fence} {n:Nat} {o:Oper} {a:Act} {K:Act->World->Prop} {Q:Exit->Act->World->Prop} {Γ : Ctx} {v:V} {σ':S} (hF : ∀ f,F.fn f)
  (hd : ∀ c,o.op ≠ .defer c) (h:Comes P fid Γ a.eval o v σ')
  (hk : ∀ Γ' x,Γ'.σ = σ'->Real fid Γ'->Step Γ Γ'->Rep fid Γ' v x->K (a.put o.dst x) Γ'.w):o.wpIn F n P a Γ.w K Q:=by
 obtain⟨Γ',x,h1,h2,h3,h4,h5⟩:=h
 rcases h5 with h5|⟨h5,rfl⟩
 ·exact qmg hF hd h5 (hk Γ' x h1 h2 h3 h4)
 ·exact qnh hF hd h5 (hk Γ' _ h1 h2 h3 h4)
theorem Comes.pure {Γ : Ctx} (hr:Real fid Γ) {ρ : Operand->Value} {o:Oper} {v:V} {x:Value} (h:(execOp ρ o).run P Γ.w = .ok (.value x) Γ.w) (hx:Rep fid Γ v x) :
  Comes P fid Γ ρ o v Γ.σ := ⟨Γ,x,rfl,hr,.refl _,hx,.inl h⟩
section
variable{Γ : Ctx}{fr:Fr}{ρ : Operand->Value}{o:Oper}{v:V}{σ':S}{C:Task->Option Res}
theorem qyh(hr:Real fid Γ){t:TypeId}{x:Operand}{u:V}(ho:o.op = .box t x)(hu:Rep fid Γ u (ρ x)):Comes P fid Γ ρ o (.ptr Γ.σ.length 0) (Γ.σ ++ [.cells u.cells]):=by
 obtain⟨h1,h2⟩:=qdr hr (.cells u.cells) (.cells (ρ x).cells t) 0
  (fun Γ' e hx=>by
   subst e
   simp only[RepOb,grow,if_pos]
   exact⟨trivial,(ρ x).cells,t,qap _ _,Reps.ext hx _ _ (qeP hu)⟩) (fun h=>absurd h (WR _))
 refine⟨_,.pointer (some ⟨Γ.w.heap.size,0,none⟩),rfl,h1,h2,?_,.inl ?_⟩
 ·simp only[Rep]
  refine⟨Γ.w.heap.size,by simp[bind],rfl,⟨.cells u.cells,by simp,rfl⟩⟩
 ·simp only[execOp,ho,Instr.box,newVar,newRow]
  simp
theorem qs8(hr:Real fid Γ){t:TypeId}{z:Value}(ho:o.op = .alloc t)(hz:qc5 P t=some z):Comes P fid Γ ρ o (.ptr Γ.σ.length 0) (Γ.σ ++ [.cells ((qar z).map .dat)]):=by
 obtain⟨h1,h2⟩:=qdr hr (.cells ((qar z).map .dat)) (.cells z.cells t) 0
  (fun Γ' e hx=>by
   subst e
   simp only[RepOb,grow,if_pos]
   exact⟨trivial,z.cells,t,qap _ _,Reps_dat.2 (qa3 (qbV hz))⟩) (fun h=>absurd h (WR _))
 refine⟨_,.pointer (some ⟨Γ.w.heap.size,0,none⟩),rfl,h1,h2,?_,.inl ?_⟩
 ·simp only[Rep]
  refine⟨Γ.w.heap.size,by simp[bind],rfl,⟨.cells ((qar z).map .dat),by simp,rfl⟩⟩
 ·simp only[execOp,ho,Instr.alloc,newVar,newRow]
  simp[qbd hz]
theorem qs9(hr:Real fid Γ){t:TypeId}(ho:o.op = .makeMap t none):Comes P fid Γ ρ o (.mp Γ.σ.length) (Γ.σ ++ [.map []]):=by
 obtain⟨h1,h2⟩:=qdr hr (.map []) (.map #[] 0) 0
  (fun Γ' e hx=>by
   subst e
   simp only[RepOb,grow,if_pos]
   exact⟨trivial,#[],0,qap _ _,rfl⟩) (fun h=>absurd h (WR _))
 refine⟨_,.map (some Γ.w.heap.size),rfl,h1,h2,?_,.inl ?_⟩
 ·simp only[Rep]
  refine⟨Γ.w.heap.size,by simp[bind],rfl,⟨.map [],by simp,rfl⟩⟩
 ·simp only[execOp,ho,Instr.makeMap,YC]
  simp
theorem qeB {t:TypeId} {agg:Bool} {n off b:Nat} {cs vs:List V} {xs:List Value} {u:V} {arr:Array Value} {e:TypeId} (hs:(agg=true/\qaw P t=some true/\qaP P t=some n)\/(agg=false/\qaw P t=some false/\n=1))
  (h2 : Γ.w.heap[b]?=some (.cells arr e (0,0))) (h3:Reps fid Γ cs xs) (hpre : ∀ (j:Nat) x,xs[j]?=some x->arr[j]?=some x) (hc:qaj cs off n=some vs) (hu:qcA agg vs=some u) :
  ∃ x,(loadVar t ⟨b,off,none⟩).run P Γ.w = .ok x Γ.w/\Rep fid Γ u x:=by
 obtain⟨c1,c2,c3⟩:=qfy hc
 have h4:Reps fid Γ vs ((xs.drop off).take n):=by rw[c1]; exact qc1 (qdw h3 off) n
 have hlen:=Reps.length h3
 have hcell : ∀ j x,((xs.drop off).take n)[j]?=some x -> Γ.w.cell? ⟨b,off+j,none⟩=some x:=fun j x hj=>by
  simp only[World.cell?,h2]
  rw[WS] at hj
  split at hj
  ·rw[YE] at hj
   simpa using hpre _ _ hj
  ·cases hj
 have hl:((xs.drop off).take n).length=n:=by rw[Reps.length h4,c2]
 rcases hs with ⟨rfl,ha,hsz⟩|⟨rfl,ha,rfl⟩
 ·rcases qdJ h4 hu with ⟨_,h5⟩|⟨h5,_⟩
  ·exact⟨_,qeM ha (by rw[hl]; exact hsz) hcell,h5⟩
  ·cases h5
 ·rcases qdJ h4 hu with ⟨h5,_⟩|⟨_,x,hx,h5⟩
  ·cases h5
  ·exact⟨x,qeN ha (by have:=hcell 0 x (by rw[hx]; rfl); simpa using this),h5⟩
theorem qkm (hr:Real fid Γ) {t:TypeId} {agg:Bool} {n l off b:Nat} {cs vs:List V} {u:V} (hs:(agg=true/\qaw P t=some true/\qaP P t=some n)\/(agg=false/\qaw P t=some false/\n=1))
  (ho : Γ.σ[l]?=some (.cells cs)) (hm : Γ.μ l=some b) (hc:qaj cs off n=some vs) (hu:qcA agg vs=some u) :
  ∃ x,(loadVar t ⟨b,off,none⟩).run P Γ.w = .ok x Γ.w/\Rep fid Γ u x:=by
 obtain⟨_,arr,e,h2,h3⟩:=hr.obs l _ b ho hm
 exact qeB hs h2 h3 (fun j x h=>by simpa using h) hc hu
theorem qjw{arr:Array Value}{k j:Nat}{x:Value}(h:(arr.toList.take k)[j]?=some x):arr[j]?=some x:=by
 rw[WS] at h
 split at h
 ·simpa using h
 ·cases h
theorem qhh(hr:Real fid Γ){l b:Nat}{ds:List D}(ho : Γ.σ[l]?=some (.froz ds))(hm : Γ.μ l=some b) : ∃ vs,RepDs Γ.F Γ.w ds vs/\Row Γ.F Γ.w b 0 vs:=by
 have:=hr.obs l _ b ho hm
 simp only[RepOb] at this
 obtain⟨h1,arr,e,h2,h3,h4,h5⟩:=this
 refine⟨_,h4,fun j x hj=>?_,fun _=>by have:=h4.length; omega,h5⟩
 simp only[World.cell?,h2,WJ]
 simpa using qjw hj
theorem qgQ {t:TypeId} {agg:Bool} {n off b o':Nat} {cs ds:List D} {xs:List Value} {u:V} (hs:(agg=true/\qaw P t=some true/\qaP P t=some n)\/(agg=false/\qaw P t=some false/\n=1))
  (h3:RepDs Γ.F Γ.w cs xs) (h4:Row Γ.F Γ.w b o' xs) (hc:qaj cs off n=some ds) (hu:qvo agg ds=some u) :
  ∃ x,(loadVar t ⟨b,o'+off,none⟩).run P Γ.w = .ok x Γ.w/\Rep fid Γ u x:=by
 obtain⟨c1,c2,c3⟩:=qfy hc
 have h5:RepDs Γ.F Γ.w ds ((xs.drop off).take n):=by rw[c1]; exact qgD (qgC h3 off) n
 have hcell : ∀ j x,((xs.drop off).take n)[j]?=some x -> Γ.w.cell? ⟨b,o'+off+j,none⟩=some x:=fun j x hj=>by
  rw[WS] at hj
  split at hj
  ·rw[YE] at hj
   rw[Yv]
   exact h4.1 _ _ hj
  ·cases hj
 have hl:((xs.drop off).take n).length=n:=by rw[RepDs.length h5,c2]
 rcases hs with ⟨rfl,ha,hsz⟩|⟨rfl,ha,rfl⟩
 ·simp[qvo] at hu; subst hu
  refine⟨_,qeM ha (by rw[hl]; exact hsz) hcell,?_⟩
  simp only[Rep,RepD]
  exact⟨_,rfl,h5⟩
 ·simp only[qvo,Wm,if_false] at hu
  split at hu
  ·cases hu
   simp only[RepDs] at h5
   obtain⟨x,ys,h6,h7,rfl⟩:=h5
   exact⟨x,qeN ha (by have:=hcell 0 x (by rw[h6]; rfl); simpa using this),by simpa [Rep] using h7⟩
  ·cases hu
theorem qkn (hr:Real fid Γ) {t:TypeId} {agg:Bool} {n:Nat} {p u:V} {x:Value} (hs:(agg=true/\qaw P t=some true/\qaP P t=some n)\/(agg=false/\qaw P t=some false/\n=1))
  (hp:Rep fid Γ p x) (hl:qcT Γ.σ agg n p=some u) : ∃ ad y,x = .pointer (some ad)/\(loadVar t ad).run P Γ.w = .ok y Γ.w/\Rep fid Γ u y:=by
 unfold qcT at hl
 split at hl
 ·rename_i l off
  simp only[Rep] at hp
  obtain⟨b,hm,rfl,_⟩:=hp
  split at hl
  ·rename_i cs hcs
   split at hl
   ·rename_i vs hvs
    obtain⟨y,h1,h2⟩:=qkm hr hs hcs hm hvs hl
    exact⟨_,y,rfl,h1,h2⟩
   ·cases hl
  ·rename_i t' cs hcs
   split at hl
   ·rename_i vs hvs
    obtain⟨_,arr,h2,h3⟩:=hr.obs l _ b hcs hm
    obtain⟨y,h1,h2⟩:=qeB hs h2 h3 (fun j x h=>by simpa using h) hvs hl
    exact⟨_,y,rfl,h1,h2⟩
   ·cases hl
  ·cases hl
 ·rename_i cs off
  simp only[Rep,RepD] at hp
  obtain⟨b,o',xs,rfl,h3,h4⟩:=hp
  split at hl
  ·rename_i ds hds
   obtain⟨y,h1,h2⟩:=qgQ hs h3 h4 hds hl
   exact⟨_,y,rfl,h1,h2⟩
  ·cases hl
 ·rename_i l m off
  simp only[Rep] at hp
  obtain⟨a,rfl,_,hp⟩:=hp
  split at hl
  ·rename_i cs hcs
   split at hl
   ·rename_i hlen
    obtain⟨b,arr,e,hm,rfl,ha,_⟩:=(hp _ cs hcs rfl).2 hlen
    split at hl
    ·rename_i vs hvs
     have hob:=hr.obs l _ b hcs hm
     simp only[RepOb] at hob
     obtain⟨_,arr',e',h2,h3,h4,_⟩:=hob
     obtain⟨y,h1,h2⟩:=qeB hs h2 h4 (fun j x h=>qjw h) hvs hl
     exact⟨_,y,rfl,h1,h2⟩
    ·cases hl
   ·cases hl
  ·rename_i ds hds
   split at hl
   ·rename_i hlen
    obtain⟨b,arr,e,hm,rfl,ha,_⟩:=(hp _ _ hds rfl).2 (by simpa using hlen)
    split at hl
    ·rename_i vs hvs
     obtain⟨xs,h3,h4⟩:=qhh hr hds hm
     obtain⟨y,h1,h2⟩:=qgQ hs h3 h4 hvs hl
     exact⟨_,y,rfl,by simpa using h1,h2⟩
    ·cases hl
   ·cases hl
  ·cases hl
 ·cases hl
theorem qsi (hr:Real fid Γ) {t:TypeId} {agg:Bool} {n:Nat} {x:Operand} {p u:V} (ho:o.op = .load t x) (hs:(agg=true/\qaw P t=some true/\qaP P t=some n)\/(agg=false/\qaw P t=some false/\n=1))
  (hp:Rep fid Γ p (ρ x)) (hl:qcT Γ.σ agg n p=some u):Comes P fid Γ ρ o u Γ.σ:=by
 obtain⟨ad,y,h1,h2,h3⟩:=qkn hr hs hp hl
 refine .pure hr (x:=y) ?_ h3
 simp only[execOp,ho,Instr.loadAt,h1,Instr.sureAddr]
 simp[h2]
theorem qta (hr:Real fid Γ) {t:TypeId} {n:Nat} {x y:Operand} {p u:V} (ho:o.op = .store t x y) (hs:qaP P t=some n)
  (hp:Rep fid Γ p (ρ x)) (hu:Rep fid Γ u (ρ y)) (hl:storeV Γ.σ n p u=some σ'):Comes P fid Γ ρ o (.dat (.lit undef)) σ':=by
 unfold storeV at hl
 split at hl
 ·rename_i l off
  simp only[Rep] at hp
  obtain⟨b,hm,hx,_⟩:=hp
  split at hl
  ·rename_i cs hcs
   simp only at hl
   split at hl
   ·rename_i hcond
    obtain⟨c1,c2,c3⟩:=hcond
    cases hl
    obtain⟨hF,arr,e,h2,h3⟩:=hr.obs l _ b hcs hm
    have hcells:=qeP hu
    have hlen:=Reps.length h3
    have hlen':=Reps.length hcells
    obtain⟨w',k1,k2,arr',k3,k4⟩:=qeO (P:=P) (o:=off) hs (by simpa [c1] using hlen') h2 (qda hcells c3) (by rw[WA] at hlen; omega)
    obtain⟨u1,u2⟩:=upd hr hcs rfl (ob' := .cells (cs.take off++(u.cells++cs.drop (off+n)))) rfl hm k2 (fun hx=>by
     simp only[RepOb]
     refine⟨hF,arr',e,k3,?_⟩
     rw[k4]
     refine Reps_append.2 ⟨_,_,rfl,Reps.ext hx _ _ (qc1 h3 off),Reps_append.2 ⟨_,_,rfl,Reps.ext hx _ _ hcells,Reps.ext hx _ _ (qdw h3 _)⟩⟩)
    refine⟨_,undef,rfl,u1,u2,by simp[Rep,RepD,qbL,undef],.inr ⟨?_,rfl⟩⟩
    simp only[execOp,ho,Instr.storeAt,hx,Instr.sureAddr]
    simp[k1]
   ·cases hl
  ·rename_i t' cs hcs
   simp only at hl
   split at hl
   ·rename_i hcond
    obtain⟨c1,c2,c3⟩:=hcond
    cases hl
    obtain⟨hF,arr,h2,h3⟩:=hr.obs l _ b hcs hm
    have hcells:=qeP hu
    have hlen:=Reps.length h3
    have hlen':=Reps.length hcells
    obtain⟨w',k1,k2,arr',k3,k4⟩:=qeO (P:=P) (o:=off) hs (by simpa [c1] using hlen') h2 (qda hcells c3) (by rw[WA] at hlen; omega)
    obtain⟨u1,u2⟩:=upd hr hcs rfl (ob' := .cellsT t' (cs.take off++(u.cells++cs.drop (off+n)))) rfl hm k2 (fun hx=>by
     simp only[RepOb]
     refine⟨hF,arr',k3,?_⟩
     rw[k4]
     refine Reps_append.2 ⟨_,_,rfl,Reps.ext hx _ _ (qc1 h3 off),Reps_append.2 ⟨_,_,rfl,Reps.ext hx _ _ hcells,Reps.ext hx _ _ (qdw h3 _)⟩⟩)
    refine⟨_,undef,rfl,u1,u2,by simp[Rep,RepD,qbL,undef],.inr ⟨?_,rfl⟩⟩
    simp only[execOp,ho,Instr.storeAt,hx,Instr.sureAddr]
    simp[k1]
   ·cases hl
  ·cases hl
 ·rename_i l m off
  simp only[Rep] at hp
  obtain⟨a,hx,_,hp⟩:=hp
  split at hl
  ·rename_i cs hcs
   simp only at hl
   split at hl
   ·rename_i hcond
    obtain⟨c0,c1,c2,c3⟩:=hcond
    cases hl
    obtain⟨b,arr,e,hm,rfl,h2,_⟩:=(hp _ cs hcs rfl).2 c0
    have hob:=hr.obs l _ b hcs hm
    simp only[RepOb] at hob
    obtain⟨hF,arr0,e0,h2',hle,h3,h3'⟩:=hob
    rw[h2] at h2'; cases h2'
    have hcells:=qeP hu
    have hlen:=Reps.length h3
    have hlen':=Reps.length hcells
    obtain⟨w',k1,k2,arr',k3,k4⟩:=qeO (P:=P) (o:=off) hs (by simpa [c1] using hlen') h2 (qda hcells c3) (by omega)
    have hsz:arr'.size=arr.size:=by
     have:=congrArg List.length k4
     simp at this
     simp at hlen'
     omega
    have hnl:(cs.take off++(u.cells++cs.drop (off+n))).length=cs.length:=by simp[c1]; omega
    have htake:arr'.toList.take cs.length=(arr.toList.take cs.length).take off++((ρ y).cells.toList++(arr.toList.take cs.length).drop (off+n)):=by
     rw[k4,List.take_append,List.take_append]
     simp only[WL,WA]
     have e1:min off arr.size=off:=by omega
     have e2:(ρ y).cells.size=n:=by rw[<- Array.length_toList,hlen',c1]
     rw[e1,e2]
     congr 1
     ·rw[Yp,Yp,Nat.min_comm]
     ·congr 1
      ·rw[Ww (by simp; omega)]
      ·rw[List.take_drop,show off+n+(cs.length-off-n)=cs.length from by omega]
    obtain⟨u1,u2⟩:=qsq hr hcs hm (cs':=cs.take off++(u.cells++cs.drop (off+n))) (by rw[hnl]; exact Wi _) k2 h2 k3 hsz (fun hx=>by
     simp only[RepOb]
     refine⟨hF,arr',e,k3,by rw[hnl,hsz]; exact hle,?_,?_⟩
     ·rw[hnl,htake]
      refine Reps_append.2 ⟨_,_,rfl,Reps.ext hx _ _ (qc1 h3 off),Reps_append.2 ⟨_,_,rfl,Reps.ext hx _ _ hcells,Reps.ext hx _ _ (qdw h3 _)⟩⟩
     ·rw[hnl,htake]
      intro v hv
      rcases Wl.1 hv with hv|hv
      ·exact h3' v (Yj hv)
      ·rcases Wl.1 hv with hv|hv
       ·exact qda hcells c3 v hv
       ·exact h3' v (List.mem_of_mem_drop hv))
    refine⟨_,undef,rfl,u1,u2,by simp[Rep,RepD,qbL,undef],.inr ⟨?_,rfl⟩⟩
    simp only[execOp,ho,Instr.storeAt,hx,Instr.sureAddr]
    simp[k1]
   ·cases hl
  ·cases hl
 ·cases hl
end
end
section
variable{P:Program}{ids:Ids}{fid:Fid}{N:Nat}
section
variable{Γ : Ctx}{fr:Fr}{ρ : Operand->Value}{o:Oper}{v:V}{σ':S}{C:Task->Option Res}
theorem qas{v x:Value}(h:Rep fid Γ (.dat (.lit v)) x):x=v/\qbL v=true:=by simpa [Rep,RepD] using h
theorem qd0{v:Value}(h:qbL v=true):Rep fid Γ (.dat (.lit v)) v:=by simp[Rep,RepD,h]
theorem qwW(hr:Real fid Γ){x:Operand}{u:V}(ho:o.op = .move x\/o.op = .assign x)(hu:Rep fid Γ u (ρ x)):Comes P fid Γ ρ o u Γ.σ:=by
 refine .pure hr (x := ρ x) ?_ hu
 rcases ho with ho|ho<;>simp[execOp,ho]
theorem qsC (hr:Real fid Γ) {c x y:Operand} {u u':V} {b:Bool} (ho:o.op = .pick c x y) (hc:Rep fid Γ (.dat (.lit (.bool b))) (ρ c)) (hu:b=true->Rep fid Γ u (ρ x)) (hu':b=false->Rep fid Γ u' (ρ y)) :
  Comes P fid Γ ρ o (if b then u else u') Γ.σ:=by
 have h:=(qas hc).1
 cases b with
 |true=>exact .pure hr (x := ρ x) (by simp[execOp,ho,h,asBool]) (hu rfl)
 |false=>exact .pure hr (x := ρ y) (by simp[execOp,ho,h,asBool]) (hu' rfl)
theorem qrq {op:BinOp} {t:TypeId} {x y:Operand} {A B r:Value} (h:qkv op A B=some r) (w:World) :
  (do eqGuard op t x y A B; binOp op t A B:Sem Value).run P w = .ok r w/\qbL r=true:=by
 cases A with
 |int k a=>
  cases B with
  |int k' b=>
   simp only[qkv] at h
   split at h
   ·rename_i hk
    subst hk
    cases op<;>simp only at h<;>first
     | (cases h; done)
     | (split at h
        ·cases h
        ·rename_i hb; cases h
         first
         | (simp[eqGuard,binOp,Op.intDiv,hb,qbL]; done)
         | (simp[eqGuard,binOp,Op.shift,hb,qbL,qxL,qti]; done))
     | (cases h; simp[eqGuard,binOp,Op.intArith,Op.intCmp,qbL]; done)
     | (cases h; simp[eqGuard,binOp,Op.intArith,Op.intCmp,qbL,eqI,bne]; done)
     | (cases h; simp[eqGuard,binOp,Op.intBits,qbL,qns]; done)
   ·cases op<;>simp only at h<;>first
     | (cases h; done)
     | (split at h
        ·cases h
        ·rename_i hb; cases h
         simp[eqGuard,binOp,Op.shift,hb,qbL,qxL,qti])
  |_=>simp[qkv] at h
 |string a=>
  cases B with
  |string b=>
   cases op<;>simp only[qkv] at h<;>first
    | (cases h; done)
    | (split at h
       ·cases h
       ·rename_i hb; cases h
        simp only[eqGuard,binOp,Op.stringOp,if_neg hb]
        simp[qbL])
    | (cases h; simp[eqGuard,binOp,Op.stringOp,qbL]; done)
    | (cases h; simp[eqGuard,binOp,Op.stringOp,qbL,eqS]; done)
  |_=>simp[qkv] at h
 |_=>simp[qkv] at h
theorem qy9 (hr:Real fid Γ) {op:BinOp} {t t':TypeId} {x y:Operand} {A B r:Value} (ho:o.op = .binOp op t x y t') (hx:Rep fid Γ (.dat (.lit A)) (ρ x)) (hy:Rep fid Γ (.dat (.lit B)) (ρ y))
  (h:qkv op A B=some r):Comes P fid Γ ρ o (.dat (.lit r)) Γ.σ:=by
 obtain⟨h1,h2⟩:=qrq (P:=P) (t:=t) (x:=x) (y:=y) h Γ.w
 refine .pure hr (x:=r) ?_ (qd0 h2)
 simp only[execOp,ho,(qas hx).1,(qas hy).1]
 rw[Sem.run_bind,h1]
 simp
theorem qwX (hr:Real fid Γ) {op:BinOp} {t t':TypeId} {x y:Operand} {a b:Bool} (neg:Bool) (hop:op=if neg then .neq else .eql) (ho:o.op = .binOp op t x y t') (ht:P.underlying t=some .bool)
  (hx:Rep fid Γ (.dat (.lit (.bool a))) (ρ x)) (hy:Rep fid Γ (.dat (.lit (.bool b))) (ρ y)):Comes P fid Γ ρ o (.bool (if neg then !(a==b) else a==b)) Γ.σ:=by
 refine .pure hr (x := .bool (if neg then !(a==b) else a==b)) ?_ (qd0 rfl)
 simp only[execOp,ho,(qas hx).1,(qas hy).1]
 subst hop
 cases neg
 ·simp only[Wm,if_false,eqGuard,binOp,Sem.run_bind,run_equal_bool _ t a b ht,Result.andThen_ok]
  simp
 ·simp only[if_true,eqGuard,binOp,Sem.run_bind,run_equal_bool _ t a b ht,Result.andThen_ok]
  simp
theorem qk3(d:Nat){t:TypeId}{ms}(ht:P.underlying t=some (.interface ms))(a:TypeId)(b:Value)(w:World):(Op.equalIn (d+1) t (.iface a b) .nilIface).run P w = .ok false w:=by
 unfold Op.equalIn
 simp only[Sem.run_bind,qai ht,Result.andThen_ok,Sem.run_pure]
theorem qnK(d:Nat){t:TypeId}{ms}(ht:P.underlying t=some (.interface ms))(w:World):(Op.equalIn (d+1) t .nilIface .nilIface).run P w = .ok true w:=by
 unfold Op.equalIn
 simp only[Sem.run_bind,qai ht,Result.andThen_ok,Sem.run_pure]
theorem qiW(d:Nat){t e:TypeId}(ht:P.underlying t=some (.pointer e))(a:Addr)(w:World):(Op.equalIn (d+1) t (.pointer (some a)) (.pointer none)).run P w = .ok false w:=by
 unfold Op.equalIn
 simp only[Sem.run_bind,qai ht,Result.andThen_ok,Sem.run_pure]
theorem qlL(d:Nat){t e:TypeId}(ht:P.underlying t=some (.pointer e))(w:World):(Op.equalIn (d+1) t (.pointer none) (.pointer none)).run P w = .ok true w:=by
 unfold Op.equalIn
 simp only[Sem.run_bind,qai ht,Result.andThen_ok,Sem.run_pure]
 rfl
theorem qiX {p b:Bool} {v:V} {x nv:Value} {t:TypeId} (hx:Rep fid Γ v x) (h:qv0 p v=some b)
  (ht:(p=false/\nv = .nilIface /\ ∃ ms,P.underlying t=some (.interface ms))\/(p=true/\nv = .pointer none /\ ∃ e,P.underlying t=some (.pointer e))) (w:World) :
  (Op.equal t x nv).run P w = .ok b w/\((∃ a c,x = .iface a c/\nv = .nilIface)\/(x = .nilIface/\nv = .nilIface)\/(∃ a,x = .pointer a/\nv = .pointer none)):=by
 unfold qv0 at h
 split at h<;>cases h
 ·rcases ht with ⟨h1,_⟩|⟨_,rfl,e,he⟩
  ·cases h1
  ·simp only[Rep] at hx; obtain⟨b,_,rfl,_⟩:=hx
   exact⟨qiW 9999 he _ w,.inr (.inr ⟨_,rfl,rfl⟩)⟩
 ·rcases ht with ⟨h1,_⟩|⟨_,rfl,e,he⟩
  ·cases h1
  ·simp only[Rep,RepD] at hx; obtain⟨b,_,_,rfl,_⟩:=hx
   exact⟨qiW 9999 he _ w,.inr (.inr ⟨_,rfl,rfl⟩)⟩
 ·rcases ht with ⟨h1,_⟩|⟨_,rfl,e,he⟩
  ·cases h1
  ·obtain rfl:=(qas hx).1
   exact⟨qlL 9999 he w,.inr (.inr ⟨_,rfl,rfl⟩)⟩
 ·rcases ht with ⟨_,rfl,e,he⟩|⟨h1,_⟩
  ·simp only[Rep] at hx; obtain⟨y,rfl,_⟩:=hx
   exact⟨qk3 9999 he _ _ w,.inl ⟨_,_,rfl,rfl⟩⟩
  ·cases h1
 ·rcases ht with ⟨_,rfl,e,he⟩|⟨h1,_⟩
  ·obtain rfl:=(qas hx).1
   exact⟨qnK 9999 he w,.inr (.inl ⟨rfl,rfl⟩)⟩
  ·cases h1
theorem qjV (hr:Real fid Γ) {op:BinOp} {t t':TypeId} {x:Operand} {nv:Value} {v:V} {b:Bool} (p neg:Bool) (hop:op=if neg then .neq else .eql) (ho:o.op = .binOp op t x (.const nv) t') (hρ : ρ (.const nv)=nv)
  (ht:(p=false/\nv = .nilIface /\ ∃ ms,P.underlying t=some (.interface ms))\/(p=true/\nv = .pointer none /\ ∃ e,P.underlying t=some (.pointer e)))
  (hx:Rep fid Γ v (ρ x)) (h:qv0 p v=some b):Comes P fid Γ ρ o (.bool (if neg then !b else b)) Γ.σ:=by
 obtain⟨h1,h2⟩:=qiX hx h ht Γ.w
 refine .pure hr (x := .bool (if neg then !b else b)) ?_ (qd0 rfl)
 simp only[execOp,ho,hρ]
 generalize ρ x=y at *
 subst hop
 rcases h2 with ⟨a,c,rfl,rfl⟩|⟨rfl,rfl⟩|⟨a,rfl,rfl⟩<;>cases neg<;>simp[eqGuard,binOp,h1]
theorem qwY(d:Nat){t e:TypeId}(ht:P.underlying t=some (.slice e))(a:Option Addr)(n c:Nat)(w:World):(Op.equalIn (d+1) t (.slice a n c) (.slice none 0 0)).run P w = .ok a.isNone w:=by
 unfold Op.equalIn
 cases a<;>simp only[Sem.run_bind,qai ht,Result.andThen_ok,Sem.run_pure]<;>rfl
theorem qmN (hr:Real fid Γ) {op:BinOp} {t t' e:TypeId} {x:Operand} {v:V} {b:Bool} (neg:Bool) (hop:op=if neg then .neq else .eql) (ho:o.op = .binOp op t x (.const (.slice none 0 0)) t') (hρ : ρ (.const (.slice none 0 0)) = .slice none 0 0)
  (ht:P.underlying t=some (.slice e)) (hx:Rep fid Γ v (ρ x)) (h:qxM v=some b):Comes P fid Γ ρ o (.bool (if neg then !b else b)) Γ.σ:=by
 have key : ∃ a n c,ρ x = .slice a n c/\a.isNone=b:=by
  unfold qxM at h
  split at h<;>cases h
  ·exact⟨_,_,_,(qas hx).1,rfl⟩
  ·simp only[Rep,RepD] at hx
   obtain⟨_,_,_,_,h,_⟩:=hx
   exact⟨_,_,_,h,rfl⟩
  ·simp only[Rep] at hx
   obtain⟨_,_,_,_,h,_⟩:=hx
   exact⟨_,_,_,h,rfl⟩
  ·simp only[Rep] at hx
   obtain⟨_,_,h,_⟩:=hx
   exact⟨_,_,_,h,rfl⟩
  ·simp only[Rep] at hx
   obtain⟨_,_,h,_⟩:=hx
   exact⟨_,_,_,h,rfl⟩
 obtain⟨a,n,c,hy,rfl⟩:=key
 have h1:(Op.equal t (.slice a n c) (.slice none 0 0)).run P Γ.w = .ok a.isNone Γ.w:=qwY 9999 ht a n c Γ.w
 refine .pure hr (x := .bool (if neg then !a.isNone else a.isNone)) ?_ (qd0 rfl)
 simp only[execOp,ho,hρ,hy]
 subst hop
 cases neg<;>simp[eqGuard,binOp,h1]
theorem qwZ(hr:Real fid Γ){t:TypeId}{u:Nat}(hty:fid.ty u=t){x:Operand}{v:V}{d:TypeDesc}(ho:o.op = .makeInterface t x)(ht:P.underlying t=some d)(hd : ∀ ms,d ≠ .interface ms)(hx:Rep fid Γ v (ρ x)):Comes P fid Γ ρ o (.iface u v) Γ.σ:=by
 refine .pure hr (x := .iface t (ρ x)) ?_ ?_
 ·simp only[execOp,ho,Instr.makeInterface,Sem.run_bind,qai ht,Result.andThen_ok]
  cases d<;>first | (exact absurd rfl (hd _)) | simp
 ·simp only[Rep]; exact⟨_,by rw[hty],hx⟩
theorem qrr(hr:Real fid Γ){name:String}{xs:Array Operand}{x:Operand}{u g:Nat}{v:V}(ho:o.op = .makeFunc (.method name) xs #[])(hxs:xs = #[x])(hx:Rep fid Γ (.iface u v) (ρ x))(hm:fid.mt g (fid.ty u) name):Comes P fid Γ ρ o (.bm g v) Γ.σ:=by
 simp only[Rep] at hx
 obtain⟨y,h1,h2⟩:=hx
 subst hxs
 refine .pure hr (x := .func (.method name) #[.iface (fid.ty u) y] #[]) ?_ ?_
 ·simp[execOp,ho,Instr.makeFunc,h1]
 ·simp only[Rep]
  exact⟨_,_,_,rfl,hm,h2⟩
theorem qAC (hr:Real fid Γ) {op:UnOp} {t:TypeId} {x:Operand} {A r:Value} (ho:o.op = .unOp op t x) (hx:Rep fid Γ (.dat (.lit A)) (ρ x))
  (h:unV op A=some r):Comes P fid Γ ρ o (.dat (.lit r)) Γ.σ:=by
 have key:(Op.unary op A).run P Γ.w = .ok r Γ.w/\qbL r=true:=by
  cases A<;>cases op<;>simp only[unV] at h<;>first
   | (cases h; done)
   | (cases h; simp[Op.unary,Op.intArith,qbL]; done)
   | (cases h; simp[Op.unary,Op.intBits,qbL,qns]; done)
 refine .pure hr (x:=r) ?_ (qd0 key.2)
 simp only[execOp,ho,(qas hx).1]
 rw[Sem.run_bind,key.1]
 simp
theorem qpj (hr:Real fid Γ) {k:CK} {s t:TypeId} {x:Operand} {A r:Value} {d:TypeDesc} (ho:o.op = .convert s t x) (hx:Rep fid Γ (.dat (.lit A)) (ρ x))
  (hs:P.underlying s=some d) (ht:(∃ j,k = .int j/\P.underlying t=some (.int j))\/(k = .intStr/\P.underlying t=some .string)\/(k = .strStr/\P.underlying t=some .string))
  (h:qqo k A=some r):Comes P fid Γ ρ o (.dat (.lit r)) Γ.σ:=by
 have key:(convert s t A).run P Γ.w = .ok r Γ.w/\qbL r=true:=by
  rcases ht with ⟨j,rfl,ht⟩|⟨rfl,ht⟩|⟨rfl,ht⟩<;>cases A<;>simp only[qqo] at h<;>first
   | (cases h; done)
   | (cases h
      simp only[convert,Sem.run_bind,qai hs,qai ht,Result.andThen_ok]
      simp[Conv.intToInt,Conv.intToString,qbL])
 refine .pure hr (x:=r) ?_ (qd0 key.2)
 simp only[execOp,ho,(qas hx).1]
 rw[Sem.run_bind,key.1]
 simp
theorem qjW(hr:Real fid Γ){x:Operand}{u:V}(ho:o.op = .nilCheck x)(hu:Rep fid Γ u (ρ x))(h:(∃ l k,u = .ptr l k)\/(∃ cs k,u = .dat (.imm cs k)) \/ ∃ l n k,u = .eptr l n k):Comes P fid Γ ρ o u Γ.σ:=by
 have : ∃ a,ρ x = .pointer (some a):=by grind [Rep,RepD]
 obtain⟨a,ha⟩:=this
 refine .pure hr (x := ρ x) ?_ hu
 simp[execOp,ho,ha]
theorem qhd {t e:TypeId} {i:TypeInfo} {name:String} {m:Method} {f:FuncId} (hi:P.info? t=some i) (hm:i.methods.find? (·.name==name)=some m) (hp:m.path = #[]) (hf:m.func=some (f,true)) (n:Nat) (v:Value) (w:World) :
  (nilAhead (n+1) t v name).run P w = .ok (some false) w:=by
 unfold nilAhead
 simp only[Sem.run_bind,qbE hi,Result.andThen_ok,hm,hp,followBlind,Sem.run_pure,hf]
theorem qpk(hr:Real fid Γ)(hmt : ∀ g t nm,fid.mt g t nm ↔ ∃ f,methT P t nm=some f/\ids.fn f=some g){x:Operand}{g:Nat}{u:V}(ho:o.op = .nilCheck x)(hu:Rep fid Γ (.bm g u) (ρ x)):Comes P fid Γ ρ o (.bm g u) Γ.σ:=by
 refine .pure hr (x := ρ x) ?_ hu
 simp only[Rep] at hu
 obtain⟨t,nm,y,h1,h2,h3⟩:=hu
 obtain⟨f,hf,_⟩:=(hmt _ _ _).1 h2
 unfold methT at hf
 split at hf
 ·rename_i i e hi hu
  split at hf
  ·rename_i m hm
   split at hf
   ·rename_i hp
    split at hf
    ·rename_i f' hf'
     simp only[execOp,ho,h1,Sem.run_bind,run_program,Result.andThen_ok]
     have:(#[Value.iface t y]:Array Value)[0]?=some (.iface t y):=rfl
     simp only[this,Sem.run_bind,run_program,Result.andThen_ok,Made.depth,qhd (e:=e) hi hm (Array.isEmpty_iff.1 hp) hf']
     simp
    ·cases hf
   ·cases hf
  ·cases hf
 ·cases hf
theorem qf7{k:Nat}{p q:V}{x:Value}(hp:Rep fid Γ p x)(h:qdM k p=some q) : ∃ a,x = .pointer (some a)/\Rep fid Γ q (.pointer (some (a.add k))):=by
 unfold qdM at h
 split at h
 ·grind [Rep,qdM,qbI]
 ·grind [Rep,RepD,qdM,qbI]
 ·grind [Rep,qdM,qbI]
 ·cases h
theorem qlM (hr:Real fid Γ) {s:TypeId} {f:Nat} {x:Operand} {p q:V} {fields:Array Field} {fd:Field} {n:Nat} (ho:o.op = .fieldAddr s x f) (hp:Rep fid Γ p (ρ x))
  (hs:P.underlying s=some (.struct fields)) (hf:fields[f]?=some fd) (hn:qaP P fd.type=some n) (h0:n≠0) (h:qdM fd.offset p=some q):Comes P fid Γ ρ o q Γ.σ:=by
 obtain⟨a,h1,h2⟩:=qf7 hp h
 refine .pure hr ?_ h2
 simp only[execOp,ho,Instr.fieldAt,h1,Instr.sureAddr,Sem.run_bind,qai hs,Result.andThen_ok,hf,fieldPlace,qaH hn]
 simp[h0]
theorem qfo{u:V}{x:Value}{cs:List V}(hu:Rep fid Γ u x)(h:u.aggCells=some cs) : ∃ xs,x = .agg xs.toArray/\Reps fid Γ cs xs:=by
 unfold V.aggCells at h
 split at h
 ·cases h
  simp only[Rep,RepD] at hu
  obtain⟨vs,rfl,h⟩:=hu
  exact⟨vs,rfl,Reps_dat.2 h⟩
 ·cases h
  simpa only [Rep] using hu
 ·cases h
theorem qmO {t:TypeId} {agg:Bool} {off n:Nat} {xs:List Value} {cs vs:List V} {u:V} (hs:(agg=true/\qaw P t=some true/\qaP P t=some n)\/(agg=false/\qaw P t=some false/\n=1))
  (hx:Reps fid Γ cs xs) (hc:qaj cs off n=some vs) (hu:qcA agg vs=some u) (w:World) : ∃ y,(part t xs.toArray off).run P w = .ok y w/\Rep fid Γ u y:=by
 obtain⟨c1,c2,c3⟩:=qfy hc
 have h4:Reps fid Γ vs ((xs.drop off).take n):=by rw[c1]; exact qc1 (qdw hx off) n
 rcases hs with ⟨rfl,ha,hsz⟩|⟨rfl,ha,rfl⟩
 ·rcases qdJ h4 hu with ⟨_,h5⟩|⟨h5,_⟩
  ·refine⟨_,?_,h5⟩
   simp only[part,Sem.run_bind,qc0 ha,Result.andThen_ok,if_true,qaH hsz,Sem.run_pure]
   congr 2
   apply WN
   simp[List.take_drop]
  ·cases h5
 ·rcases qdJ h4 hu with ⟨h5,_⟩|⟨_,x,hx',h5⟩
  ·cases h5
  ·refine⟨x,?_,h5⟩
   have:xs[off]?=some x:=by
    have:((xs.drop off).take 1)[0]?=some x:=by rw[hx']; rfl
    simpa using this
   simp only[part,Sem.run_bind,qc0 ha,Result.andThen_ok]
   simp[this]
theorem qpl (hr:Real fid Γ) {s:TypeId} {f:Nat} {x:Operand} {p u:V} {agg:Bool} {n:Nat} {fields:Array Field} {fd:Field} {cs vs:List V} (ho:o.op = .field s x f) (hp:Rep fid Γ p (ρ x))
  (hs:P.underlying s=some (.struct fields)) (hf:fields[f]?=some fd) (hn:(agg=true/\qaw P fd.type=some true/\qaP P fd.type=some n)\/(agg=false/\qaw P fd.type=some false/\n=1))
  (ha:p.aggCells=some cs) (hc:qaj cs fd.offset n=some vs) (hu:qcA agg vs=some u):Comes P fid Γ ρ o u Γ.σ:=by
 obtain⟨xs,h1,h2⟩:=qfo hp ha
 obtain⟨y,h3,h4⟩:=qmO hn h2 hc hu Γ.w
 refine .pure hr ?_ h4
 simp only[execOp,ho,Instr.field,h1,asAgg,Sem.run_bind,qai hs,Result.andThen_ok,hf]
 simp[h3]
theorem qlN (hr:Real fid Γ) {t e:TypeId} {n:Nat} {x i:Operand} {p q:V} {k:IntKind} {j:Int} (ho:o.op = .indexAddr t x i) (hp:Rep fid Γ p (ρ x)) (hi:Rep fid Γ (.dat (.lit (.int k j))) (ρ i))
  (ht:P.underlying t=some (.slice e)) (hn:qaP P e=some n) (h:qag n p j=some q):Comes P fid Γ ρ o q Γ.σ:=by
 have key : ∃ a len cap,ρ x = .slice (some a) len cap/\0<=j/\j<len/\Rep fid Γ q (.pointer (some (a.add (j.toNat*n)))):=by
  unfold qag at h
  split at h
  ·grind [Rep,RepD,qaP,qag,Comes,qbI]
  ·grind [Rep,RepD,qaP,qag,Comes,qbI]
  ·grind [Rep,qaP,qag,Comes,qbI]
  ·split at h
   ·rename_i hj
    cases h
    simp only[Rep] at hp ⊢
    obtain⟨a,cap,hx,h2,h0,h3,h4⟩:=hp
    obtain⟨hj1,hj2,rfl⟩:=hj
    refine⟨_,_,_,hx,hj1,hj2,_,rfl,h3,fun ob cs k1 k2=>⟨(h4 ob cs k1 k2).1,fun hl=>?_⟩⟩
    obtain⟨b,arr,e,g1,rfl,g3,g4⟩:=(h4 ob cs k1 k2).2 hl
    refine⟨b,arr,e,g1,by rw[qbI]; simp,g3,Yb (Yc _ h2) g4⟩
   ·cases h
  ·cases h
 obtain⟨a,len,cap,h1,h2,h3,h4⟩:=key
 refine .pure hr ?_ h4
 simp only[execOp,ho,Instr.indexAt,(qas hi).1,asIntOf,h1,Sem.run_bind,Sem.run_pure,Result.andThen_ok,qai ht]
 simp[qaH hn,h2,h3]
theorem qk4 (hr:Real fid Γ) {t e:TypeId} {n len:Nat} {x i:Operand} {p q:V} {k:IntKind} {j:Int} (ho:o.op = .indexAddr t x i) (hp:Rep fid Γ p (ρ x)) (hi:Rep fid Γ (.dat (.lit (.int k j))) (ρ i))
  (ht:P.underlying t=some (.array len e)) (hn:qaP P e=some n) (hj:0<=j/\j<len) (h:qdM (j.toNat*n) p=some q):Comes P fid Γ ρ o q Γ.σ:=by
 obtain⟨a,h1,h2⟩:=qf7 hp h
 refine .pure hr ?_ h2
 simp only[execOp,ho,Instr.indexAt,(qas hi).1,asIntOf,h1,Instr.sureAddr,Sem.run_bind,Sem.run_pure,Result.andThen_ok,qai ht]
 simp[qaH hn,hj.1,hj.2]
theorem qmP (hr:Real fid Γ) {t e:TypeId} {agg:Bool} {n len:Nat} {x i:Operand} {p u:V} {k:IntKind} {j:Int} {cs vs:List V} (ho:o.op = .index t x i) (hp:Rep fid Γ p (ρ x)) (hi:Rep fid Γ (.dat (.lit (.int k j))) (ρ i))
  (ht:P.underlying t=some (.array len e)) (hn:(agg=true/\qaw P e=some true/\qaP P e=some n)\/(agg=false/\qaw P e=some false/\n=1/\qaP P e=some 1)) (hj:0<=j/\j<len)
  (ha:p.aggCells=some cs) (hc:qaj cs (j.toNat*n) n=some vs) (hu:qcA agg vs=some u):Comes P fid Γ ρ o u Γ.σ:=by
 obtain⟨xs,h1,h2⟩:=qfo hp ha
 obtain⟨y,h3,h4⟩:=qmO (P:=P) (t:=e) (by rcases hn with h|⟨a,b,c,_⟩; exact .inl h; exact .inr ⟨a,b,c⟩) h2 hc hu Γ.w
 have hsz:qaP P e=some n:=by rcases hn with ⟨_,_,h⟩|⟨_,_,rfl,h⟩<;>exact h
 refine .pure hr ?_ h4
 simp only[execOp,ho,Instr.index,(qas hi).1,asIntOf,h1,Sem.run_bind,Sem.run_pure,Result.andThen_ok,qai ht]
 simp[qaH hsz,hj.1,hj.2,h3]
theorem qrs (hr:Real fid Γ) {t:TypeId} {x i:Operand} {k:IntKind} {j:Int} {s:ByteArray} {c:UInt8} (ho:o.op = .index t x i) (hp:Rep fid Γ (.dat (.lit (.string s))) (ρ x)) (hi:Rep fid Γ (.dat (.lit (.int k j))) (ρ i))
  (ht:P.underlying t=some .string) (hj:0<=j) (hs:s[j.toNat]?=some c):Comes P fid Γ ρ o (.dat (.lit (.int .u8 c.toNat))) Γ.σ:=by
 refine .pure hr ?_ (qd0 rfl)
 simp only[execOp,ho,Instr.index,(qas hi).1,(qas hp).1,asIntOf,Sem.run_bind,Sem.run_pure,Result.andThen_ok,qai ht]
 simp[hj,hs]
theorem qum (hr:Real fid Γ) {k:LK} {t:TypeId} {x:Operand} {p:V} {n:Int} {c:Call} (ho:o.op = .call c) (hcal:c.callee = .builtin .len) (hargs:c.args.toList=[x]) (hts:c.argTypes.toList=[t]) (hp:Rep fid Γ p (ρ x))
  (ht:(k = .str/\P.underlying t=some .string)\/(k = .sl /\ ∃ e,P.underlying t=some (.slice e))\/(k = .mp /\ ∃ a b,P.underlying t=some (.map a b))) (h:p.len Γ.σ k=some n):Comes P fid Γ ρ o (.dat (.lit (.int .i64 n))) Γ.σ:=by
 have ha:c.args = #[x]:=by apply WN; simpa using hargs
 have hb:c.argTypes = #[t]:=by apply WN; simpa using hts
 have key:(Builtin.len_ #[t] o.type #[ρ x]).run P Γ.w = .ok (.int .i64 n) Γ.w:=by
  unfold V.len at h
  simp only[Builtin.len_]
  split at h
  ·cases h
   rcases ht with ⟨h,_⟩|⟨_,e,ht⟩|⟨h,_⟩<;>first|cases h; done|skip
   rw[(qas hp).1]
   simp[qai ht,goInt]
  ·cases h
   rcases ht with ⟨_,ht⟩|⟨h,_⟩|⟨h,_⟩<;>first|cases h; done|skip
   rw[(qas hp).1]
   simp[qai ht,goInt]
  ·cases h
   rcases ht with ⟨h,_⟩|⟨_,e,ht⟩|⟨h,_⟩<;>first|cases h; done|skip
   simp only[Rep,RepD] at hp
   obtain⟨b,o',cap,vs,hx,_⟩:=hp
   rw[hx]
   simp[qai ht,goInt]
  ·cases h
   rcases ht with ⟨h,_⟩|⟨_,e,ht⟩|⟨h,_⟩<;>first|cases h; done|skip
   simp only[Rep] at hp
   obtain⟨b,cap,vs,m,hx,_⟩:=hp
   rw[hx]
   simp[qai ht,goInt]
  ·cases h
   rcases ht with ⟨h,_⟩|⟨_,e,ht⟩|⟨h,_⟩<;>first|cases h; done|skip
   simp only[Rep] at hp
   obtain⟨b,_,hx,_⟩:=hp
   rw[hx]
   simp[qai ht,goInt]
  ·cases h
   rcases ht with ⟨h,_⟩|⟨_,e,ht⟩|⟨h,_⟩<;>first|cases h; done|skip
   simp only[Rep] at hp
   obtain⟨a,cap,hx,_⟩:=hp
   rw[hx]
   simp[qai ht,goInt]
  ·split at h
   ·rename_i es hes
    cases h
    rcases ht with ⟨h,_⟩|⟨h,_⟩|⟨_,a,b,ht⟩<;>first|cases h; done|skip
    simp only[Rep] at hp
    obtain⟨b,hm,hx,_⟩:=hp
    obtain⟨_,ents,clock,h2,h3⟩:=hr.obs _ _ b hes hm
    rw[hx]
    have hl : ∀ {es:List (Value × V)} {xs:List MapEntry},RepE fid Γ es xs->xs.length=es.length:=by
     intro es
     induction es with
     |nil=>intro xs h; simp only[RepE] at h; simp[h]
     |cons a r ih=>intro xs h; obtain⟨k,v⟩:=a; simp only[RepE] at h; obtain⟨e,es',rfl,_,_,h⟩:=h; simp[ih h]
    have:=hl h3
    simp only[WA] at this
    simp[qai ht,goInt,getObj,Sem.run,h2,this]
   ·cases h
  ·cases h
 refine .pure hr (x := .int .i64 n) ?_ (qd0 rfl)
 simp only[execOp,ho,resolve,hcal,ha,hb,invoke,builtin,Sem.run_bind,Sem.run_pure,Result.andThen_ok]
 simp[key]
theorem qmQ : ∀ {ys:List Value} {y r:Value},qtj y ys=some r->qbL y=true->(ys.foldlM Builtin.min2 y).run P Γ.w = .ok r Γ.w/\qbL r=true
 |[],y,r,h,hy=>by simp_all [qtj]
 |z::ys,y,r,h,hy=>by
  cases y<;>cases z<;>simp only[qtj] at h<;>first | (cases h; done) | skip
  have:=qmQ (ys:=ys) h rfl
  simp only[List.foldlM_cons,Sem.run_bind,Builtin.min2,Sem.run_pure,Result.andThen_ok]
  exact this
theorem qgB : ∀ {vs:List V} {ys xs:List Value},qkx vs=some ys->Reps fid Γ vs xs->xs=ys /\ ∀ y∈ys,qbL y=true
 |[],ys,xs,h,hx=>by grind [qkx,Reps]
 |v::vs,ys,xs,h,hx=>by
  simp only[Reps] at hx
  obtain⟨x,xs',rfl,h1,h2⟩:=hx
  cases v with
  |dat d=>
   cases d with
   |lit u=>
    simp only[qkx] at h
    split at h
    ·rename_i us hus
     cases h
     obtain⟨h3,h4⟩:=qgB hus h2
     obtain⟨h5,h6⟩:=qas h1
     subst h3; subst h5
     exact⟨rfl,by simpa [h6] using h4⟩
    ·cases h
   |_=>simp[qkx] at h
  |_=>simp[qkx] at h
theorem qza (hr:Real fid Γ) {c:Call} {vs:List V} {y r:Value} {ys:List Value} (ho:o.op = .call c) (hcal:c.callee = .builtin .min) (hp:Reps fid Γ vs (c.args.toList.map ρ))
  (hl:qkx vs=some (y::ys)) (h:qtj y ys=some r):Comes P fid Γ ρ o (.dat (.lit r)) Γ.σ:=by
 obtain⟨h1,h2⟩:=qgB hl hp
 obtain⟨h3,h4⟩:=qmQ (P:=P) (Γ := Γ) h (h2 y (by simp))
 refine .pure hr (x:=r) ?_ (qd0 h4)
 simp only[execOp,ho,resolve,hcal,invoke,builtin,Sem.run_bind,Sem.run_pure,Result.andThen_ok,Builtin.min_,W7,h1,h3]
theorem qmR : ∀ {ys:List Value} {y r:Value},qn3 y ys=some r->qbL y=true->(ys.foldlM Builtin.max2 y).run P Γ.w = .ok r Γ.w/\qbL r=true
 |[],y,r,h,hy=>by simp_all [qn3]
 |z::ys,y,r,h,hy=>by
  cases y<;>cases z<;>simp only[qn3] at h<;>first | (cases h; done) | skip
  have:=qmR (ys:=ys) h rfl
  simp only[List.foldlM_cons,Sem.run_bind,Builtin.max2,Sem.run_pure,Result.andThen_ok]
  exact this
theorem qzb (hr:Real fid Γ) {c:Call} {vs:List V} {y r:Value} {ys:List Value} (ho:o.op = .call c) (hcal:c.callee = .builtin .max) (hp:Reps fid Γ vs (c.args.toList.map ρ))
  (hl:qkx vs=some (y::ys)) (h:qn3 y ys=some r):Comes P fid Γ ρ o (.dat (.lit r)) Γ.σ:=by
 obtain⟨h1,h2⟩:=qgB hl hp
 obtain⟨h3,h4⟩:=qmR (P:=P) (Γ := Γ) h (h2 y (by simp))
 refine .pure hr (x:=r) ?_ (qd0 h4)
 simp only[execOp,ho,resolve,hcal,invoke,builtin,Sem.run_bind,Sem.run_pure,Result.andThen_ok,Builtin.max_,W7,h1,h3]
theorem qw0 (hr:Real fid Γ) {f:FuncId} {g:Nat} {xs ys:Array Operand} {as bs:List V} (ho:o.op = .makeFunc (.func f) xs ys) (hg:fid g=f) (ha:Reps fid Γ as (xs.toList.map ρ)) (hb:Reps fid Γ bs (ys.toList.map ρ)) :
  Comes P fid Γ ρ o (.fn g as bs) Γ.σ:=by
 refine .pure hr (x := .func (.func f) (xs.map ρ) (ys.map ρ)) ?_ ?_
 ·simp[execOp,ho,Instr.makeFunc]
 ·simp only[Rep]
  exact⟨_,_,by rw[hg]; simp[<- Array.toList_map],ha,hb⟩
theorem qmS{vs:List V}{xs:List Value}(h:Reps fid Γ vs xs){i:Nat}{v:V}(hv:vs[i]?=some v) : ∃ x,xs[i]?=some x/\Rep fid Γ v x:=by
 induction vs generalizing xs i with
 |nil=>simp at hv
 |cons u vs ih=>
  simp only[Reps] at h
  obtain⟨x,xs',rfl,h1,h2⟩:=h
  cases i with
  |zero=>simp at hv; subst hv; exact⟨x,rfl,h1⟩
  |succ i=>exact ih h2 (by simpa using hv)
theorem qpm(hr:Real fid Γ){x:Operand}{i:Nat}{vs:List V}{u:V}(ho:o.op = .extract x i)(hp:Rep fid Γ (.tup vs) (ρ x))(h:vs[i]?=some u):Comes P fid Γ ρ o u Γ.σ:=by
 simp only[Rep] at hp
 obtain⟨xs,hx,h1⟩:=hp
 obtain⟨y,h2,h3⟩:=qmS h1 h
 refine .pure hr ?_ h3
 simp[execOp,ho,hx,Instr.extract,h2]
def qk5(fid:Fid)(Γ : Ctx)(ρ : Operand->Value):Option V->Option Operand->Prop
 |none,none=>True
 |some v,some y=>Rep fid Γ v (ρ y)
 |_,_=>False
theorem qba {x:Option V} {xo:Option Operand} {d most k:Nat} (hx:qk5 fid Γ ρ x xo) (h:bound x d most=some k) :
  (xo=none/\k=d) \/ ∃ y kd i,xo=some y /\ ρ y = .int kd i/\0<=i/\i<=most/\k=i.toNat:=by
 cases x with
 |none=>
  cases xo with
  |none=>simp only[bound,We] at h; exact .inl ⟨rfl,h.symm⟩
  |some y=>exact hx.elim
 |some v=>
  cases xo with
  |none=>exact hx.elim
  |some y=>
   unfold bound at h
   split at h
   ·rename_i e; cases e
   ·rename_i kd i e
    cases e
    split at h
    ·rename_i hi
     cases h
     exact .inr ⟨y,kd,i,rfl,(qas (fid:=fid) (Γ := Γ) hx).1,hi.1,hi.2,rfl⟩
    ·cases h
   ·cases h
theorem qcH {lo hi:Option V} {lx hx:Option Operand} {isSl:Bool} {n cap h l:Nat}
  (h1:qk5 fid Γ ρ lo lx) (h2:qk5 fid Γ ρ hi hx)
  (hn:n<=cap) (hh:bound hi n n=some h) (hl:bound lo 0 h=some l) (w:World) :
  (Instr.sliceBounds isSl n cap (lx.map ρ) (hx.map ρ) none).run P w = .ok (l,h,cap) w:=by
 rcases qba h2 hh with ⟨rfl,rfl⟩|⟨y,kd,i,rfl,e1,e2,e3,rfl⟩<;>rcases qba h1 hl with ⟨rfl,rfl⟩|⟨y',kd',i',rfl,f1,f2,f3,rfl⟩
 ·simp[Instr.sliceBounds]
 ·simp[Instr.sliceBounds,Instr.sliceBound,f1,asIntOf,f2,f3]
 ·simp[Instr.sliceBounds,Instr.sliceBound,e1,asIntOf,e2,show i<=(cap:Int) from by omega]
 ·simp[Instr.sliceBounds,Instr.sliceBound,e1,f1,asIntOf,e2,f2,show i<=(cap:Int) from by omega]
  omega
theorem qun{F:Nat->Nat}{w:World}{b o:Nat}{vs:List Value}(h:Row F w b o vs)(l n:Nat):Row F w b (o+l) ((vs.drop l).take n):=by grind [Row]
theorem qup{F:Nat->Nat}{w:World}{b o:Nat}:Row F w b o []:=⟨fun i v h=>by simp at h,fun h=>absurd h (WR _),fun v h=>by simp at h⟩
theorem c_slice (hr:Real fid Γ) {t e:TypeId} {n:Nat} {x:Operand} {p u:V} {lo hi:Option V} {lx hx:Option Operand} (ho:o.op = .slice t x lx hx none) (hp:Rep fid Γ p (ρ x))
  (ht:P.underlying t=some (.slice e)) (hn:qaP P e=some n)
  (h1:qk5 fid Γ ρ lo lx) (h2:qk5 fid Γ ρ hi hx)
  (h:qfP n lo hi p=some u):Comes P fid Γ ρ o u Γ.σ:=by
 have fin : ∀ {a len cap l h},ρ x = .slice a len cap->(Instr.sliceBounds true len cap (lx.map ρ) (hx.map ρ) none).run P Γ.w = .ok (l,h,cap) Γ.w ->
   Rep fid Γ u (.slice (if cap=l then a else a.map (·.add (l*n))) (h-l) (cap-l))->Comes P fid Γ ρ o u Γ.σ := fun ha hb hc=>by
  refine .pure hr ?_ hc
  simp only[execOp,ho,Instr.sliceAt,Sem.run_bind,qai ht,Result.andThen_ok,Instr.slice,ha,YC,hb,qaH hn,Sem.run_pure]
 have cut : ∀ {cs:List D} {len full':Nat} {b off cap:Nat} {vs:List Value} {l h:Nat},RepDs Γ.F Γ.w cs vs->Row Γ.F Γ.w b off vs->cs.length=len*n->len<=cap->l<=h->h<=len ->
   Rep fid Γ (.dat (.sl ((cs.drop (l*n)).take ((h-l)*n)) (h-l) false)) (.slice (if cap=l then some ⟨b,off,none⟩ else (some (⟨b,off,none⟩:Addr)).map (·.add (l*n))) (h-l) (cap-l)):=by
  intro cs len _ b off cap vs l h g1 g2 g3 g4 g5 g6
  simp only[Rep,RepD]
  by_cases hc:cap=l
  ·have:h-l=0:=by omega
   rw[this]
   refine⟨b,off,cap-l,[],by simp[hc],by omega,by simp,by simp[RepDs],qup⟩
  ·refine⟨b,off+l*n,cap-l,((vs.drop (l*n)).take ((h-l)*n)),by simp[hc,qbI],by omega,by simp,qgD (qgC g1 _) _,qun g2 _ _⟩
 unfold qfP at h
 split at h
 ·split at h
  ·rename_i hh eh
   split at h
   ·rename_i ll el
    cases h
    have hb:=qcH (P:=P) (isSl:=true) h1 h2 (Wi 0) eh el Γ.w
    refine fin (qas hp).1 hb ?_
    have:ll=0/\hh=0:=by grind [Rep,qaP,qk5,qfP,Comes,qba]
    obtain⟨rfl,rfl⟩:=this
    simp only[if_true]
    exact qd0 rfl
   ·cases h
  ·cases h
 ·rename_i cs len full
  split at h
  ·rename_i hh eh
   split at h
   ·rename_i ll el
    split at h
    ·rename_i hlen
     cases h
     simp only[Rep,RepD] at hp
     obtain⟨b,off,cap,vs,hx',g2,g3,g4,g5⟩:=hp
     refine fin hx' (qcH (P:=P) (isSl:=true) h1 h2 g2 eh el Γ.w) (cut (full':=0) g4 g5 hlen g2 ?_ ?_)
     ·grind [Rep,qaP,qk5,qfP,Comes,qba]
     ·grind [Rep,qaP,qk5,qfP,Comes,qba]
    ·cases h
   ·cases h
  ·cases h
 ·rename_i cs len sz l0
  split at h
  ·rename_i hh eh
   split at h
   ·rename_i ll el
    split at h
    ·rename_i hlen
     cases h
     simp only[Rep] at hp
     obtain⟨b,cap,vs,m,hx',g2,g4,g5,_⟩:=hp
     refine fin hx' (qcH (P:=P) (isSl:=true) h1 h2 g2 eh el Γ.w) (cut (full':=0) g4 g5 hlen g2 ?_ ?_)
     ·grind [Rep,qaP,qk5,qfP,Comes,qba]
     ·grind [Rep,qaP,qk5,qfP,Comes,qba]
    ·cases h
   ·cases h
  ·cases h
 ·rename_i l0 off len cap sz'
  split at h
  ·rename_i hh eh
   split at h
   ·rename_i ll el
    split at h
    ·rename_i hsz
     subst hsz
     cases h
     simp only[Rep] at hp
     obtain⟨b,hm,hx',g2,g3⟩:=hp
     refine fin hx' (qcH (P:=P) (isSl:=true) h1 h2 g2 eh el Γ.w) ?_
     have a1:ll<=hh:=by rcases qba h1 el with ⟨_,rfl⟩|⟨_,_,i',_,_,i3,i4,rfl⟩<;>omega
     have a2:hh<=len:=by rcases qba h2 eh with ⟨_,rfl⟩|⟨_,_,i',_,_,i3,i4,rfl⟩<;>omega
     simp only[Rep]
     refine⟨b,hm,?_,by omega,g3⟩
     by_cases hc:cap=ll
     ·simp[hc]
     ·simp[hc,qbI]
    ·cases h
   ·cases h
  ·cases h
 ·cases h
theorem quq (hr:Real fid Γ) {s t e:TypeId} {x:Operand} {b:ByteArray} {d:TypeDesc} (ho:o.op = .convert s t x) (hx:Rep fid Γ (.dat (.lit (.string b))) (ρ x)) (hs:P.underlying s=some d) (ht:P.underlying t=some (.slice e)) (he:P.underlying e=some (.int .u8)) :
  Comes P fid Γ ρ o (.dat (.sl (qfk b) b.size false)) Γ.σ:=by
 have hrun:=Lib.run_convert_string_bytes (P:=P) Γ.w s t e b hs ht he
 have hsz:=Lib.bytesWorld_size Γ.w e b
 have hold:=fun j hj=>Lib.bytesWorld_at_old Γ.w e b j hj
 have hnew:=Lib.bytesWorld_at_new Γ.w e b
 have hcell:=fun j hj=>Lib.bytesWorld_cell Γ.w e b j hj
 have hcap:b.size<=grownCap Γ.w b.size 0 e:=by simp only[grownCap,Question.cut]; omega
 have hasz:b.size<=(Lib.bytesCells Γ.w e b).size:=by show b.data.size<=_; simp only[Lib.bytesCells,Yx,Array.size_map]; omega
 have hw:(Lib.bytesWorld Γ.w e b).os = Γ.w.os/\(Lib.bytesWorld Γ.w e b).tape = Γ.w.tape/\(Lib.bytesWorld Γ.w e b).output = Γ.w.output:=by
  unfold Lib.bytesWorld World.freeze
  simp only[Nat.one_ne_zero,if_false]
  exact⟨rfl,rfl,rfl⟩
 generalize Lib.bytesWorld Γ.w e b=w' at *
 have hext:Ext Γ ⟨Γ.σ,Γ.μ,grow Γ.F Γ.w.heap.size b.size,w'⟩:=by
  refine⟨by simp; omega,hw.1,hw.2.1,hw.2.2,fun k=>?_,fun k i v hi hv=>?_,fun k arr t hb ha=>⟨arr,?_,rfl⟩,Wi _,fun _ ob h ht=>⟨⟨ob,h,ht⟩,fun _ h=>h⟩,fun _ m h=>⟨m,h,Wi _,fun h=>h,fun _ _ h=>h⟩,
   qfm fun l ob h _ => .inl ⟨h,fun k hk=>⟨hk,fun _ _ ha=>by show w'.heap[k]?=_; rw[hold k (hr.dom l k hk).2]; exact ha⟩⟩⟩
  ·simp only[grow]; split
   ·rename_i e; subst e; rw[hr.F_size]; exact Yk _
   ·exact Wi _
  ·rw[cell?_of_block (hold k (hr.F_lt (by omega)))]; exact hv
  ·rw[hold k (hr.F_lt hb)]; exact ha
 refine⟨⟨Γ.σ,Γ.μ,grow Γ.F Γ.w.heap.size b.size,w'⟩,_,rfl,⟨fun l ob k h1 h2=>?_,fun l k h=>?_,hr.inj,fun k hk=>?_,Glb.ext hext hr.glb⟩,⟨hext,⟨fun k hk hn=>⟨hold k hk,?_⟩,fun l k h _=>⟨l,h⟩⟩,fun _ _ h=>h⟩,?_,.inl (by
  simp only[execOp,ho,(qas hx).1]; rw[Sem.run_bind,hrun]; simp; rfl)⟩
 ·have hb:=(hr.dom l k h2).2
  exact RepOb.ext hext (hold k hb) (by simp only[grow]; rw[if_neg (by omega)]) ob (hr.obs l ob k h1 h2)
 ·have:=hr.dom l k h
  exact⟨this.1,by simp; omega⟩
 ·simp only[grow] at hk ⊢
  split at hk
  ·grind
  ·rename_i e'
   obtain⟨a,t,fz,h1,h2⟩:=hr.imm k hk
   exact⟨a,t,fz,by rw[hold k (qdq h1)]; exact h1,by simpa [e'] using h2⟩
 ·simp only[grow]; rw[if_neg (by omega)]
 ·simp only[Rep,RepD]
  refine⟨Γ.w.heap.size,0,_,b.data.toList.map fun c => .int .u8 c.toNat,rfl,hcap,by simp,?_,⟨fun i v hi=>?_,fun _=>?_,?_⟩⟩
  ·have:qfk b=(b.data.toList.map fun c=>Value.int .u8 c.toNat).map .lit:=by simp[qfk]
   rw[this]
   exact qeQ fun v hv=>by obtain⟨c,_,rfl⟩:=Ye.1 hv; rfl
  ·have hi':i<b.size:=by have:=(Wc.1 hi).1; rw[Yd,WA] at this; exact this
   have:=hcell i hi'
   rw[WJ,this]
   rw[Yl] at hi
   cases hg:b.data.toList[i]? with
   |none=>rw[hg] at hi; cases hi
   |some c=>rw[hg] at hi; simp at hi; subst hi; simp[List.getD,hg]
  ·simp_all [grow]
  ·intro v hv
   obtain⟨c,_,rfl⟩:=Ye.1 hv
   rfl
theorem qrt (hr:Real fid Γ) {t:TypeId} {x:Operand} {p u:V} {lo hi:Option V} {lx hx:Option Operand} (ho:o.op = .slice t x lx hx none) (hp:Rep fid Γ p (ρ x))
  (ht:P.underlying t=some .string)
  (h1:qk5 fid Γ ρ lo lx) (h2:qk5 fid Γ ρ hi hx)
  (h:qcf lo hi p=some u):Comes P fid Γ ρ o u Γ.σ:=by
 unfold qcf at h
 split at h
 ·split at h
  ·rename_i hh eh
   split at h
   ·rename_i ll el
    cases h
    refine .pure hr ?_ (qd0 rfl)
    have hb:=qcH (P:=P) (isSl:=false) h1 h2 (Wi _) eh el Γ.w
    simp only[execOp,ho,Instr.sliceAt,Sem.run_bind,qai ht,Result.andThen_ok,Instr.slice,(qas hp).1,YC,Sem.run_pure]
    simp[hb]
   ·cases h
  ·cases h
 ·cases h
end
end
section
variable{P:Program}{fid:Fid}
theorem qmc{α : Type}(l:List α) : ∀ n,(qdF n l).length=n*l.length
 |0=>by simp[qdF]
 |n+1=>by simp[qdF,qmc l n,W6]; omega
def qb2:List KD->List Value->List Value->Option Bool
 |[],[],[]=>some true
 |k::ks,a::as,b::bs=>match qnt k a b,qb2 ks as bs with
  |some x,some y=>some (x&&y)
  |_,_=>none
 |_,_,_=>none
theorem qkk : ∀ {ks:List KD} {as bs:List D} {xs ys:List Value} {F:Nat->Nat} {w:World} {b:Bool},qfO ks as bs=some b->RepDs F w as xs->RepDs F w bs ys->qb2 ks xs ys=some b
 |[],as,bs,xs,ys,F,w,b,h,hx,hy=>by grind [qfO,RepDs,qb2]
 |k::ks,as,bs,xs,ys,F,w,b,h,hx,hy=>by
  cases as with
  |nil=>cases bs<;>simp[qfO] at h
  |cons a as=>
   cases bs with
   |nil=>cases a<;>simp[qfO] at h
   |cons c bs=>
    cases a<;>cases c<;>simp only[qfO] at h<;>first | (cases h; done) | skip
    rename_i u v
    simp only[RepDs,RepD] at hx hy
    obtain⟨x,xs',rfl,⟨rfl,_⟩,h1⟩:=hx
    obtain⟨y,ys',rfl,⟨rfl,_⟩,h2⟩:=hy
    split at h
    ·rename_i p q hp hq
     simp only[qb2,hp,qkk hq h1 h2]
     exact h
    ·cases h
theorem qe1 : ∀ {ks:List KD} {xs ys:List Value} {b:Bool},qb2 ks xs ys=some b->xs.length=ks.length/\ys.length=ks.length
 |[],xs,ys,b,h=>by cases xs<;>cases ys<;>simp[qb2] at h ⊢
 |k::ks,xs,ys,b,h=>by
  cases xs<;>cases ys<;>simp only[qb2] at h<;>first | (cases h; done) | skip
  split at h
  ·rename_i p q hp hq
   have:=qe1 hq
   simp[this.1,this.2]
  ·cases h
theorem qez : ∀ {k1 k2:List KD} {xs ys:List Value} {b:Bool},qb2 (k1++k2) xs ys=some b ->
  ∃ b1 b2,qb2 k1 (xs.take k1.length) (ys.take k1.length)=some b1/\qb2 k2 (xs.drop k1.length) (ys.drop k1.length)=some b2/\b=(b1&&b2)
 |[],k2,xs,ys,b,h=>⟨true,b,by simp[qb2],by simpa using h,by simp⟩
 |k::k1,k2,xs,ys,b,h=>by
  cases xs<;>cases ys<;>simp only[Wh,qb2] at h<;>first | (cases h; done) | skip
  split at h
  ·rename_i p q hp hq
   obtain⟨b1,b2,h1,h2,rfl⟩:=qez hq
   cases h
   refine⟨p&&b1,b2,?_,by simpa using h2,by rw[Bool.and_assoc]⟩
   simp only[Wd,List.take_succ_cons,qb2,hp,h1]
  ·cases h
def EqV(P:Program)(D:Nat)(t:TypeId)(ks:List KD):Prop := ∀ (w:World) (x y:Value) (b:Bool),
 ((qaw P t=some true /\ ∃ xs ys:List Value,x = .agg xs.toArray/\y = .agg ys.toArray/\qb2 ks xs ys=some b)\/(qaw P t=some false/\qb2 ks [x] [y]=some b))->(Op.equalIn D t x y).run P w = .ok b w
theorem qkl {t:TypeId} {ks:List KD} (hsz:qaP P t=some ks.length) (hag:qaw P t=some true\/(qaw P t=some false/\ks.length=1)) {xs ys:List Value} {off:Nat} {b:Bool} {D:Nat} (hE:EqV P D t ks)
  (h:qb2 ks ((xs.drop off).take ks.length) ((ys.drop off).take ks.length)=some b) (w:World) :
  ∃ x y,(part t xs.toArray off).run P w = .ok x w/\(part t ys.toArray off).run P w = .ok y w/\(Op.equalIn D t x y).run P w = .ok b w:=by
 rcases hag with ha|⟨ha,h1⟩
 ·refine⟨_,_,?_,?_,hE w _ _ b (.inl ⟨ha,(xs.drop off).take ks.length,(ys.drop off).take ks.length,rfl,rfl,h⟩)⟩
  ·simp only[part,Sem.run_bind,qc0 ha,Result.andThen_ok,if_true,qaH hsz,Sem.run_pure]
   congr 2
   apply WN
   simp[List.take_drop]
  ·simp only[part,Sem.run_bind,qc0 ha,Result.andThen_ok,if_true,qaH hsz,Sem.run_pure]
   congr 2
   apply WN
   simp[List.take_drop]
 ·rw[h1] at h
  obtain⟨l1,l2⟩:=qe1 h
  rw[h1] at l1 l2
  obtain⟨x,hx⟩:=List.length_eq_one_iff.1 l1
  obtain⟨y,hy⟩:=List.length_eq_one_iff.1 l2
  rw[hx,hy] at h
  have g1:xs[off]?=some x:=by
   have:((xs.drop off).take 1)[0]?=some x:=by rw[hx]; rfl
   simpa using this
  have g2:ys[off]?=some y:=by
   have:((ys.drop off).take 1)[0]?=some y:=by rw[hy]; rfl
   simpa using this
  refine⟨x,y,?_,?_,hE w x y b (.inr ⟨ha,h⟩)⟩
  ·simp only[part,Sem.run_bind,qc0 ha,Result.andThen_ok]
   simp[g1]
  ·simp only[part,Sem.run_bind,qc0 ha,Result.andThen_ok]
   simp[g2]
theorem qft{t:TypeId}{o:Option (List KD)}{ks:List KD}(h:qp2 P t o=some ks):o=some ks/\qaP P t=some ks.length:=by
 unfold qp2 at h
 split at h
 ·grind
 ·cases h
theorem qix{d:Nat}{t:TypeId}{ks:List KD}(h:qes P d t=some ks):qaP P t=some ks.length/\(qaw P t=some true\/(qaw P t=some false/\ks.length=1)):=by
 cases d with
 |zero=>simp[qes] at h
 |succ d=>
  simp only[qes] at h
  obtain⟨h1,h2⟩:=qft h
  refine⟨h2,?_⟩
  unfold qaw
  split at h1<;>rename_i hu<;>first | (cases h1; done) | (rw[hu]; first | (cases h1; exact .inr ⟨rfl,rfl⟩) | exact .inl rfl)
theorem qfL {D:Nat} {rec:TypeId->Option (List KD)} (hrec : ∀ t ks,rec t=some ks->qaP P t=some ks.length/\(qaw P t=some true\/(qaw P t=some false/\ks.length=1))/\EqV P D t ks)
  (xs ys:List Value) (w:World) : ∀ (fs:List Field) (off:Nat) (ks:List KD) (b:Bool),qcK rec off fs=some ks->qb2 ks ((xs.drop off).take ks.length) ((ys.drop off).take ks.length)=some b ->
   (Op.eqFields D xs.toArray ys.toArray fs).run P w = .ok b w
 |[],off,ks,b,h,he=>by
  simp only[qcK,We] at h; subst h
  simp[qb2] at he; subst he
  simp[Op.eqFields]
 |f::fs,off,ks,b,h,he=>by
  simp only[qcK] at h
  split at h
  ·rename_i hc
   split at h
   ·rename_i k1 hk1
    split at h
    ·rename_i k2 hk2
     cases h
     obtain⟨b1,b2,e1,e2,rfl⟩:=qez he
     obtain⟨s1,s2,s3⟩:=hrec _ _ hk1
     rw[Yp,Yp,Nat.min_eq_left (by simp)] at e1
     have hd : ∀ l:List Value,((l.drop off).take (k1++k2).length).drop k1.length=(l.drop (off+k1.length)).take k2.length:=fun l=>by
      rw[List.drop_take,List.drop_drop]; congr 1; simp
     rw[hd,hd] at e2
     obtain⟨x,y,p1,p2,p3⟩:=qkl s1 s2 s3 e1 w
     have ih:=qfL hrec xs ys w fs _ _ _ hk2 e2
     rw[<- hc.1] at p1 p2
     simp only[Op.eqFields,hc.2,ne_eq,not_false_eq_true,if_true,Sem.run_bind,p1,p2,p3,Result.andThen_ok]
     cases b1
     ·simp
     ·simpa using ih
    ·cases h
   ·cases h
  ·cases h
theorem qgP {D:Nat} {t:TypeId} {k1:List KD} (s1:qaP P t=some k1.length) (s2:qaw P t=some true\/(qaw P t=some false/\k1.length=1)) (s3:EqV P D t k1)
  (xs ys:List Value) (w:World) : ∀ (n i:Nat) (b:Bool),qb2 (qdF n k1) ((xs.drop (i*k1.length)).take (n*k1.length)) ((ys.drop (i*k1.length)).take (n*k1.length))=some b ->
   (Op.eqItems D t k1.length xs.toArray ys.toArray (List.range' i n)).run P w = .ok b w
 |0,i,b,he=>by
  simp[qb2,qdF] at he; subst he
  simp[Op.eqItems]
 |n+1,i,b,he=>by
  simp only[qdF] at he
  obtain⟨b1,b2,e1,e2,rfl⟩:=qez he
  rw[Yp,Yp,Nat.min_eq_left (by rw[W6]; omega)] at e1
  have hd : ∀ l:List Value,((l.drop (i*k1.length)).take ((n+1)*k1.length)).drop k1.length=(l.drop ((i+1)*k1.length)).take (n*k1.length):=fun l=>by
   rw[List.drop_take,List.drop_drop,W6,Nat.one_mul,W6,Nat.one_mul]; congr 1; omega
  rw[hd,hd] at e2
  obtain⟨x,y,p1,p2,p3⟩:=qkl s1 s2 s3 e1 w
  have ih:=qgP s1 s2 s3 xs ys w n (i+1) _ e2
  simp only[List.range'_succ,Op.eqItems,Sem.run_bind,p1,p2,p3,Result.andThen_ok]
  cases b1
  ·simp
  ·simpa using ih
theorem qoh : ∀ (d:Nat) (t:TypeId) (ks:List KD),qes P d t=some ks -> ∀ D,d<=D->EqV P D t ks
 |0,t,ks,h,D,hD=>by simp[qes] at h
 |d+1,t,ks,h,D,hD=>by
  obtain⟨D,rfl⟩ : ∃ D',D=D'+1:=⟨D-1,by omega⟩
  simp only[qes] at h
  obtain⟨h1,h2⟩:=qft h
  intro w x y b hxy
  have hrec : ∀ t ks,qes P d t=some ks->qaP P t=some ks.length/\(qaw P t=some true\/(qaw P t=some false/\ks.length=1))/\EqV P D t ks:=fun t ks hk=>
   ⟨(qix hk).1,(qix hk).2,qoh d t ks hk D (by omega)⟩
  split at h1
  ·rename_i hu
   cases h1
   rcases hxy with ⟨ha,_⟩|⟨_,he⟩
   ·simp[qaw,hu] at ha
   ·simp only[qb2] at he
    cases x<;>cases y<;>simp only[qnt] at he<;>first | (cases he; done) | skip
    simp at he; subst he
    exact run_equalIn_bool w D t _ _ hu
  ·rename_i k hu
   cases h1
   rcases hxy with ⟨ha,_⟩|⟨_,he⟩
   ·simp[qaw,hu] at ha
   ·simp only[qb2] at he
    cases x<;>cases y<;>simp only[qnt] at he<;>first | (cases he; done) | skip
    rename_i k1 a k2 c
    by_cases hk:k1=k2
    ·subst hk
     simp[eqI] at he; subst he
     have:=run_equalIn_int (P:=P) w D t k1 k a c hu
     simpa using this
    ·rw[if_neg hk] at he; cases he
  ·rename_i hu
   cases h1
   rcases hxy with ⟨ha,_⟩|⟨_,he⟩
   ·simp[qaw,hu] at ha
   ·simp only[qb2] at he
    cases x<;>cases y<;>simp only[qnt] at he<;>first | (cases he; done) | skip
    rename_i a c
    simp[eqS] at he; subst he
    have:=run_equalIn_string (P:=P) w D t a c hu
    simpa using this
  ·rename_i fs hu
   split at h1
   ·cases h1
   ·rename_i hst
    have hst':P.stoodInHeld t=false:=by simpa using hst
    rcases hxy with ⟨_,xs,ys,rfl,rfl,he⟩|⟨ha,_⟩
    ·obtain⟨l1,l2⟩:=qe1 he
     have hf:P.fieldsOf t=fs:=by simp[Program.fieldsOf,hu]
     rw[run_equalIn_struct w D t _ _ (by rw[hf]; exact hu) hst',hf]
     refine qfL hrec xs ys w fs.toList 0 ks b h1 ?_
     rw[WT,WT,Ww (by omega),Ww (by omega)]
     exact he
    ·simp[qaw,hu] at ha
  ·rename_i len e hu
   simp only[Wf] at h1
   obtain⟨k1,hk1,rfl⟩:=h1
   rcases hxy with ⟨_,xs,ys,rfl,rfl,he⟩|⟨ha,_⟩
   ·obtain⟨l1,l2⟩:=qe1 he
    obtain⟨s1,s2,s3⟩:=hrec _ _ hk1
    have hi : ∃ i,P.info? e=some i/\i.size=k1.length:=by simp_all [qaP]
    obtain⟨i,hi,his⟩:=hi
    have hc:P.cellsOf e=k1.length:=by simp[Program.cellsOf,hi,his]
    rw[run_equalIn_array w D _ _ hu hi,hc,List.range_eq_range']
    have hl:(qdF len k1).length=len*k1.length:=qmc k1 len
    refine qgP s1 s2 s3 xs ys w len 0 b ?_
    rw[Nat.zero_mul,WT,WT,Ww (by omega),Ww (by omega)]
    exact he
   ·simp[qaw,hu] at ha
  ·cases h1
theorem qgl : ∀ (d:Nat) (t:TypeId) (ks:List KD),qes P d t=some ks -> ∀ k,d<=k->P.eqGuardType k t=false
 |0,t,ks,h,k,_=>by simp[qes] at h
 |d+1,t,ks,h,k,hk=>by
  obtain⟨k,rfl⟩ : ∃ k',k=k'+1:=⟨k-1,by omega⟩
  simp only[qes] at h
  obtain⟨h1,h2⟩:=qft h
  unfold Program.eqGuardType
  split at h1<;>rename_i hu<;>first | (cases h1; done) | skip
  ·rw[hu]
  ·rw[hu]
  ·rw[hu]
  ·rename_i fs
   rw[hu]
   split at h1
   ·cases h1
   ·have key : ∀ (l:List Field) (off:Nat) (ks:List KD),qcK (qes P d) off l=some ks -> ∀ f∈l,P.eqGuardType k f.type=false:=by
     intro l
     induction l with
     |nil=>intro _ _ _ f hf; cases hf
     |cons g l ih=>
      intro off ks h f hf
      simp only[qcK] at h
      split at h
      ·split at h
       ·rename_i k1 hk1
        split at h
        ·rename_i k2 hk2
         rcases Wp.1 hf with rfl|hf
         ·exact qgl d _ _ hk1 k (by omega)
         ·exact ih _ _ hk2 f hf
        ·cases h
       ·cases h
      ·cases h
    simp only[Array.any_eq_false']
    intro f hf
    have:=key _ _ _ h1 f (by simpa using hf)
    simp[this]
  ·rw[hu]
   simp only[Wf] at h1
   obtain⟨k1,hk1,rfl⟩:=h1
   exact qgl d _ _ hk1 k (by omega)
section
variable{Γ : Ctx}{ρ : Operand->Value}{o:Oper}
theorem qqg (hr:Real fid Γ) {op:BinOp} {t t':TypeId} {x y:Operand} {as bs:List D} {ks:List KD} {b:Bool} (neg:Bool) (hop:op=if neg then .neq else .eql) (ho:o.op = .binOp op t x y t') (ht:qaw P t=some true) (hk:qes P 20 t=some ks)
  (hx:Rep fid Γ (.dat (.agg as)) (ρ x)) (hy:Rep fid Γ (.dat (.agg bs)) (ρ y)) (h:qfO ks as bs=some b):Comes P fid Γ ρ o (.bool (if neg then !b else b)) Γ.σ:=by
 simp only[Rep,RepD] at hx hy
 obtain⟨xs,hx,h1⟩:=hx
 obtain⟨ys,hy,h2⟩:=hy
 have he:=qkk h h1 h2
 have hq:(Op.equal t (.agg xs.toArray) (.agg ys.toArray)).run P Γ.w = .ok b Γ.w:=qoh 20 t ks hk 10000 (by omega) Γ.w _ _ b (.inl ⟨ht,xs,ys,rfl,rfl,he⟩)
 have hg : ∀ op,(eqGuard op t x y (.agg xs.toArray) (.agg ys.toArray)).run P Γ.w = .ok () Γ.w:=fun op=>run_eqGuard_agg Γ.w op t x y _ _ (qgl 20 t ks hk _ (by unfold Program.depth Made.depth; omega))
 refine .pure hr (x := .bool (if neg then !b else b)) ?_ (qd0 rfl)
 simp only[execOp,ho,hx,hy,Sem.run_bind,hg,Result.andThen_ok]
 subst hop
 cases neg<;>simp[binOp,hq]
end
end
section
variable{P:Program}{ids:Ids}{fid:Fid}{N:Nat}
section
variable{Γ : Ctx}{fr:Fr}{ρ : Operand->Value}{o:Oper}{v:V}{σ':S}{C:Task->Option Res}
inductive PartsRep(fid:Fid)(Γ : Ctx)(place:Nat->Option (Nat × Nat)):List (Nat × Nat × V)->List (Nat × Value)->Prop
 |nil:PartsRep fid Γ place [] []
 | cons {i off n:Nat} {v:V} {x:Value} {ps:List (Nat × Nat × V)} {xs:List (Nat × Value)} (hp:place i=some (off,n)) (hv:Rep fid Γ v x) (h:PartsRep fid Γ place ps xs) :
   PartsRep fid Γ place ((off,n,v)::ps) ((i,x)::xs)
theorem qdu (hid:Ties P ids fid) (hr:Real fid Γ) {a:Act} (hf:FrRep fid Γ N fr a.tmps) {place:Nat->Option (Nat × Nat)} : ∀ {xs:List (Nat × Operand)} {ys:List (Nat × Nat × X)} {ps:List (Nat × Nat × V)},
  qig ids N place xs=some ys->qdn fr ys=some ps->PartsRep fid Γ place ps (xs.map fun (i,x)=>(i,a.eval x))
 |[],ys,ps,hc,hv=>by
  simp only[qig,We] at hc; subst hc
  simp only[qdn,We] at hv; subst hv
  exact .nil
 | (i,x)::xs,ys,ps,hc,hv=>by
  simp only[qig] at hc
  split at hc
  ·rename_i off n y ys' h1 h2 h3
   cases hc
   simp only[qdn] at hv
   split at hv
   ·rename_i u us h4 h5
    cases hv
    exact .cons h1 (qah hid hr hf h2 h4) (qdu hid hr hf h3 h5)
   ·cases hv
  ·cases hc
theorem qkM : ∀ (xs:List Value) (cs:Array Value) (off k:Nat),off+k+xs.length<=cs.size ->
  ((xs.zipIdx k).foldl (fun cs (c,j)=>cs.setIfInBounds (off+j) c) cs).toList=cs.toList.take (off+k)++(xs++cs.toList.drop (off+k+xs.length))
 |[],cs,off,k,_=>by simp
 |x::xs,cs,off,k,h=>by
  simp only[Wd] at h
  simp only[List.zipIdx_cons,W3]
  rw[qkM xs _ off (k+1) (by simp; omega)]
  have hlt:off+k<cs.toList.length:=by rw[WA]; omega
  rw[Array.toList_setIfInBounds,show off+(k+1)=off+k+1 from by omega]
  rw[Ym (by simpa using hlt),List.getElem_set_self,List.take_set_of_le (Wi _),List.drop_set_of_lt (by omega)]
  simp
  omega
theorem qe7 {place:Nat->Option (Nat × Nat)} {ps:List (Nat × Nat × V)} {xs:List (Nat × Value)} (h:PartsRep fid Γ place ps xs) : ∀ {cs:List V} {arr:Array Value} {r:List V},
  Reps fid Γ cs arr.toList->qeo cs ps=some r -> ∃ arr',Instr.fill place arr xs=some arr'/\Reps fid Γ r arr'.toList:=by
 induction h with
 |nil=>intro cs arr r hc hr; simp only[qeo,We] at hr; subst hr; exact⟨arr,rfl,hc⟩
 | @cons i off n v x ps xs hp hv h ih=>
  intro cs arr r hc hr
  simp only[qeo] at hr
  split at hr
  ·rename_i hcond
   obtain⟨c1,c2,c3⟩:=hcond
   have hcells:=qeP hv
   have hl1:=Reps.length hcells
   have hl2:=Reps.length hc
   simp only[WA] at hl1 hl2
   have hfold:=qkM x.cells.toList arr off 0 (by simp; omega)
   have hfold':(x.cells.zipIdx.foldl (fun cs (c,j)=>cs.setIfInBounds (off+j) c) arr).toList=arr.toList.take off++(x.cells.toList++arr.toList.drop (off+n)):=by
    rw[<- Array.foldl_toList,Array.toList_zipIdx,hfold]
    simp[hl1,c1]
   obtain⟨arr',h1,h2⟩:=ih (cs:=cs.take off++(v.cells++cs.drop (off+n))) (arr:=x.cells.zipIdx.foldl (fun cs (c,j)=>cs.setIfInBounds (off+j) c) arr)
    (by rw[hfold']; exact Reps_append.2 ⟨_,_,rfl,qc1 hc off,Reps_append.2 ⟨_,_,rfl,hcells,qdw hc _⟩⟩) hr
   refine⟨arr',?_,h2⟩
   simp only[Instr.fill,hp]
   rw[if_neg (by simp; omega)]
   exact h1
  ·cases hr
theorem qiN(w:World) : ∀ {fs:List Field} {ps:List (Nat × Nat)},qgK P fs=some ps->(fs.mapM fun f=>do pure (f.offset,<- sizeOf f.type):Sem (List (Nat × Nat))).run P w = .ok ps w
 |[],ps,h=>by simp only[qgK,We] at h; subst h; simp
 |f::fs,ps,h=>by
  simp only[qgK] at h
  split at h
  ·rename_i n ps' h1 h2
   cases h
   simp only[List.mapM_cons,Sem.run_bind,qaH h1,Result.andThen_ok,Sem.run_pure]
   rw[qiN w h2]
   simp
  ·cases h
theorem qq0 (hr:Real fid Γ) {t:TypeId} {parts:Array (Nat × Operand)} {fields:Array Field} {z:Value} {pl:List (Nat × Nat)} {ps:List (Nat × Nat × V)} {cs:List V}
  (ho:o.op = .build t parts) (ht:P.underlying t=some (.struct fields)) (hz:qc5 P t=some z) (hpl:qgK P fields.toList=some pl)
  (hps:PartsRep fid Γ (fun i=>pl[i]?) ps (parts.toList.map fun (i,x)=>(i,ρ x))) (h:qeo ((qar z).map .dat) ps=some cs):Comes P fid Γ ρ o (qfM cs) Γ.σ:=by
 obtain⟨arr',h1,h2⟩:=qe7 hps (Reps_dat.2 (qa3 (qbV hz))) h
 refine .pure hr (x := .agg arr') ?_ (by have:=qd2 h2; simpa using this)
 simp only[execOp,ho,Instr.build,Sem.run_bind,qbd hz,Result.andThen_ok,qai ht,Array.mapM_eq_mapM_toList]
 have:=qiN (P:=P) Γ.w hpl
 simp only[Sem.run_map] at this ⊢
 rw[this]
 simp only[Result.andThen_ok,W7,List.getElem?_toArray]
 have e:(parts.toList.map fun x=>match x with | (i,x)=>(i,ρ x))=parts.toList.map fun (i,x)=>(i,ρ x):=rfl
 rw[h1]
 simp
theorem qq1 (hr:Real fid Γ) {t e:TypeId} {parts:Array (Nat × Operand)} {len n:Nat} {z:Value} {ps:List (Nat × Nat × V)} {cs:List V}
  (ho:o.op = .build t parts) (ht:P.underlying t=some (.array len e)) (hz:qc5 P t=some z) (hn:qaP P e=some n)
  (hps:PartsRep fid Γ (fun i=>some (i*n,n)) ps (parts.toList.map fun (i,x)=>(i,ρ x))) (h:qeo ((qar z).map .dat) ps=some cs):Comes P fid Γ ρ o (qfM cs) Γ.σ:=by
 obtain⟨arr',h1,h2⟩:=qe7 hps (Reps_dat.2 (qa3 (qbV hz))) h
 refine .pure hr (x := .agg arr') ?_ (by have:=qd2 h2; simpa using this)
 simp only[execOp,ho,Instr.build,Sem.run_bind,qbd hz,Result.andThen_ok,qai ht,qaH hn,W7]
 rw[h1]
 simp
theorem qdv{α : Type}(l:List α) : ∀ n,(qdF n l).length=n*l.length
 |0=>by simp[qdF]
 |n+1=>by simp[qdF,qdv l n,W6]; omega
theorem qhl{α : Type}(l:List α) : ∀ (n j:Nat),j<n*l.length->(qdF n l)[j]?=l[j % l.length]?
 |0,j,h=>by simp at h
 |n+1,j,h=>by
  simp only[qdF]
  by_cases hj:j<l.length
  ·rw[Wx hj,Nat.mod_eq_of_lt hj]
  ·rw[WO (by omega),qhl l n (j-l.length) (by rw[W6] at h; omega)]
   congr 1
   rw[<- Nat.mod_eq_sub_mod (by omega)]
theorem qdY(zs:Array Value)(n:Nat)(hz:0<zs.size):((Array.range (n*zs.size)).map (zs[· % zs.size]!)).toList=qdF n zs.toList:=by
 apply List.ext_getElem?
 intro j
 by_cases hj:j<n*zs.size
 ·rw[qhl _ _ _ (by simpa using hj)]
  simp[hj,Array.getElem!_eq_getD,Array.getD,Nat.mod_lt j hz]
 ·rw[W0 (by simp; omega),W0 (by rw[qdv]; simp; omega)]
theorem qdh{F:Nat->Nat}{w:World}{ds:List D}{xs:List Value}(h:RepDs F w ds xs) : ∀ n,RepDs F w (qdF n ds) (qdF n xs)
 |0=>by simp[qdF,RepDs]
 |n+1=>RepDs_append.2 ⟨_,_,rfl,h,qdh h n⟩
theorem qkN (hr:Real fid Γ) {ds:List D} {arr:Array Value} (e:TypeId) (hd:RepDs Γ.F Γ.w ds arr.toList) (h1' : ∀ v∈arr.toList,v.oneCell'=true) (n cap:Nat) (full:Bool) (hc:n<=cap) (hf:full=true->cap=n) :
  ∃ Γ':Ctx,Γ'.σ = Γ.σ /\ Real fid Γ'/\Step Γ Γ' /\ Γ'.w = Γ.w.alloc (.cells arr e)/\Rep fid Γ' (.dat (.sl ds n full)) (.slice (some ⟨Γ.w.heap.size,0,none⟩) n cap):=by
 obtain⟨h1,h2⟩:=qqy hr arr e arr.size (Wi _)
 refine⟨⟨Γ.σ,Γ.μ,grow Γ.F Γ.w.heap.size arr.size,Γ.w.alloc (.cells arr e)⟩,rfl,h1,h2,rfl,?_⟩
 simp only[Rep,RepD]
 refine⟨Γ.w.heap.size,0,cap,arr.toList,rfl,hc,hf,RepDs.ext h2.ext _ _ hd,fun i v hi=>?_,fun _=>by simp[grow],h1'⟩
 simp only[World.cell?,qap]
 simpa using hi
theorem fillV_one : ∀ {ps:List (Nat × Nat × V)} {cs r:List V},qeo cs ps=some r->cs.all V.one=true->r.all V.one=true
 |[],cs,r,h,hc=>by simp only[qeo,We] at h; subst h; exact hc
 | (off,n,v)::ps,cs,r,h,hc=>by
  simp only[qeo] at h
  split at h
  ·rename_i hcond
   refine fillV_one h ?_
   rw[Wy] at hc ⊢
   intro x hx
   rcases Wl.1 hx with hx|hx
   ·exact hc x (Yj hx)
   ·rcases Wl.1 hx with hx|hx
    ·exact Wy.1 hcond.2.2 x hx
    ·exact hc x (List.mem_of_mem_drop hx)
  ·cases h
theorem qjL{α : Type}{x : α}{l:List α} : ∀ {n:Nat},x∈qdF n l->x∈l
 |0,h=>by simp[qdF] at h
 |n+1,h=>by
  simp only[qdF] at h
  rcases Wl.1 h with h|h
  ·exact h
  ·exact qjL h
theorem qmw{z:Value}(h:qel z=true)(n:Nat):((qdF n (qar z)).map V.dat).all V.one=true:=by
 rw[Wy]
 intro x hx
 obtain⟨d,hd,rfl⟩:=Ye.1 hx
 have:=qjL hd
 unfold qar at this
 obtain⟨v,hv,rfl⟩:=Ye.1 this
 simp only[qel,Wy,Wq] at h
 exact (h v hv).2
theorem qq2 (hr:Real fid Γ) {t e:TypeId} {parts:Array (Nat × Operand)} {len n:Nat} {z:Value} {ps:List (Nat × Nat × V)} {cs:List V} {ds:List D}
  (ho:o.op = .buildSlice t len parts) (ht:P.underlying t=some (.slice e)) (hz:qc5 P e=some z) (hn:qaP P e=some n) (hlen:len*n<=2 ^ 24) (hzn:z.cells.size=n) (h0:0<n)
  (hps:PartsRep fid Γ (fun i=>some (i*n,n)) ps (parts.toList.map fun (i,x)=>(i,ρ x))) (h:qeo ((qdF len (qar z)).map .dat) ps=some cs) (hd:qbC cs=some ds) :
  Comes P fid Γ ρ o (.dat (.sl ds len true)) Γ.σ:=by
 have hzero:Reps fid Γ ((qdF len (qar z)).map .dat) ((Array.range (len*n)).map (z.cells[· % z.cells.size]!)).toList:=by
  subst hzn
  rw[qdY _ _ h0]
  exact Reps_dat.2 (qdh (qa3 (qbV hz)) len)
 obtain⟨arr',h1,h2⟩:=qe7 hps hzero h
 have:=qdx hd
 subst this
 obtain⟨Γ',k1,k2,k3,k4,k5⟩:=qkN hr e (Reps_dat.1 h2) (qda h2 (fillV_one h (qmw (qbV hz) len))) len len true (Wi _) (fun _=>rfl)
 refine⟨Γ',_,k1,k2,k3,k5,.inl ?_⟩
 rw[k4]
 simp only[execOp,ho,Instr.buildSlice,Sem.run_bind,qai ht,Result.andThen_ok,qaH hn,if_neg (show ¬ len*n > 2 ^ 24 by omega)]
 by_cases hl:len*n=0
 ·simp only[hl,if_true,Sem.run_bind,Result.andThen_ok,Sem.run_pure]
  have e0 : ∀ f:Nat->Value,Array.map f (Array.range 0) = #[]:=fun f=>by simp
  rw[hl,e0] at h1
  rw[W7,e0,h1]
  simp[newRow]
 ·simp only[hl,if_false,Sem.run_bind,qbd hz,Result.andThen_ok,Sem.run_pure]
  rw[W7,h1]
  simp[newRow]
theorem qgZ : ∀ {ps:List (Nat × Nat × V)} {cs r:List V},qeo cs ps=some r->r.length=cs.length
 |[],cs,r,h=>by simp only[qeo,We] at h; subst h; rfl
 | (off,n,v)::ps,cs,r,h=>by
  simp only[qeo] at h
  split at h
  ·rename_i hcond
   rw[qgZ h]
   simp only[Wb,WL,W5,hcond.1]
   have:=hcond.2.1
   omega
  ·cases h
theorem qoT (hr:Real fid Γ) {t e:TypeId} {parts:Array (Nat × Operand)} {len n:Nat} {z:Value} {ps:List (Nat × Nat × V)} {cs:List V} {ds:List D}
  (ho:o.op = .buildSlice t len parts) (ht:P.underlying t=some (.slice e)) (hz:qc5 P e=some z) (hn:qaP P e=some n) (hlen:len*n<=2 ^ 24) (hzn:z.cells.size=n) (h0:0<n)
  (hps:PartsRep fid Γ (fun i=>some (i*n,n)) ps (parts.toList.map fun (i,x)=>(i,ρ x))) (h:qeo ((qdF len (qar z)).map .dat) ps=some cs) (hd:qbC cs=some ds) :
  Comes P fid Γ ρ o (.own Γ.σ.length len n) (Γ.σ ++ [.vec cs]):=by
 have hzero:Reps fid Γ ((qdF len (qar z)).map .dat) ((Array.range (len*n)).map (z.cells[· % z.cells.size]!)).toList:=by
  subst hzn
  rw[qdY _ _ h0]
  exact Reps_dat.2 (qdh (qa3 (qbV hz)) len)
 obtain⟨arr',h1,h2⟩:=qe7 hps hzero h
 have hone:=qda h2 (fillV_one h (qmw (qbV hz) len))
 have hlen2:arr'.toList.length=cs.length:=Reps.length h2
 have hcl:cs.length=len*n:=by
  rw[qgZ h,Yd,qdv]
  unfold qar
  rw[Yd,WA,hzn]
 have hsz:arr'.size=cs.length:=by rw[<- hlen2,WA]
 obtain⟨k1,k2⟩:=qdr hr (.vec cs) (.cells arr' e) 0
  (fun Γ' e' hx'=>by
   subst e'
   simp only[RepOb,grow,if_pos]
   have htk:arr'.toList.take cs.length=arr'.toList:=Ww (by omega)
   refine⟨trivial,_,e,qap _ _,by rw[hsz]; exact Wi _,?_,?_⟩
   ·rw[htk]; exact Reps.ext hx' _ _ h2
   ·rw[htk]; exact hone) (fun h=>absurd h (WR _))
 have hrun:(execOp ρ o).run P Γ.w = .ok (.value (.slice (some ⟨Γ.w.heap.size,0,none⟩) len len)) (Γ.w.alloc (.cells arr' e)):=by
  simp only[execOp,ho,Instr.buildSlice,Sem.run_bind,qai ht,Result.andThen_ok,qaH hn,if_neg (show ¬ len*n > 2 ^ 24 by omega)]
  by_cases hl:len*n=0
  ·simp only[hl,if_true,Sem.run_bind,Result.andThen_ok,Sem.run_pure]
   have e0 : ∀ f:Nat->Value,Array.map f (Array.range 0) = #[]:=fun f=>by simp
   rw[hl,e0] at h1
   rw[W7,e0,h1]
   simp[newRow]
  ·simp only[hl,if_false,Sem.run_bind,qbd hz,Result.andThen_ok,Sem.run_pure]
   rw[W7,h1]
   simp[newRow]
 refine⟨_,.slice (some ⟨Γ.w.heap.size,0,none⟩) len len,rfl,k1,k2,?_,.inl hrun⟩
 simp only[Rep]
 refine⟨_,_,rfl,Wi _,h0,⟨.vec cs,by simp,rfl⟩,fun ob cs' q1 q2=>?_⟩
 have:ob = .vec cs:=by simpa using q1.symm
 subst this
 simp only[Ob.rows,We] at q2; subst q2
 refine⟨by rw[hcl]; exact Wi _,fun _=>⟨Γ.w.heap.size,_,e,by simp[bind],rfl,qap _ _,?_⟩⟩
 rw[hsz,hcl]; exact Wi _
theorem qoU (hr:Real fid Γ) {t e:TypeId} {x y:Operand} {k k':IntKind} {l c:Int} {n b:Nat} {z:Value} (ho:o.op = .makeSlice t x y) (ht:P.underlying t=some (.slice e)) (hz:qc5 P e=some z) (hn:qaP P e=some n) (hb:qfq P e=some b)
  (hzn:z.cells.size=n) (h0:0<n) (hx:Rep fid Γ (.dat (.lit (.int k l))) (ρ x)) (hy:Rep fid Γ (.dat (.lit (.int k' c))) (ρ y)) (hc:0<=l/\l<=c/\c<=2 ^ 40/\b*c<=2 ^ 48) :
  Comes P fid Γ ρ o (.msl Γ.σ.length 0 l.toNat c.toNat (qar z).length) (Γ.σ ++ [.cells ((qdF c.toNat (qar z)).map .dat)]) /\
  Comes P fid Γ ρ o (.own Γ.σ.length l.toNat (qar z).length) (Γ.σ ++ [.vec ((qdF l.toNat (qar z)).map .dat)]):=by
 have hzl:(qar z).length=n:=by simp[qar,hzn]
 have hzero:Reps fid Γ ((qdF c.toNat (qar z)).map .dat) ((Array.range (c.toNat*n)).map (z.cells[· % z.cells.size]!)).toList:=by
  subst hzn
  rw[qdY _ _ h0]
  exact Reps_dat.2 (qdh (qa3 (qbV hz)) c.toNat)
 obtain⟨i,hi,hib⟩ : ∃ i,P.info? e=some i/\i.bytes=b:=by
  unfold qfq at hb
  cases hi:P.info? e with
  |none=>rw[hi] at hb; cases hb
  |some i=>rw[hi] at hb; simp at hb; exact⟨i,rfl,hb⟩
 obtain⟨h1,h2⟩:=qdr hr (.cells ((qdF c.toNat (qar z)).map .dat)) (.cells ((Array.range (c.toNat*n)).map (z.cells[· % z.cells.size]!)) e) 0
  (fun Γ' e' hx'=>by
   subst e'
   simp only[RepOb,grow,if_pos]
   refine⟨trivial,_,e,qap _ _,?_⟩
   rw[Reps_dat] at hzero ⊢
   subst hzn
   rw[qdY _ _ h0]
   exact qdh (qa3 (qbV hz)) c.toNat) (fun h=>absurd h (WR _))
 have hrun:(execOp ρ o).run P Γ.w = .ok (.value (.slice (some ⟨Γ.w.heap.size,0,none⟩) l.toNat c.toNat)) (Γ.w.alloc (.cells ((Array.range (c.toNat*n)).map (z.cells[· % z.cells.size]!)) e)):=by
  have w1:IntKind.i64.wrap l=l:=by rw[IntKind.wrap_i64]; omega
  have w2:IntKind.i64.wrap c=c:=by rw[IntKind.wrap_i64]; omega
  simp only[execOp,ho,(qas hx).1,(qas hy).1,Instr.makeSlice,Sem.run_bind,qai ht,Result.andThen_ok,asInt,Sem.run_pure,qbE hi,w1,w2,hib]
  have c1 : ¬ (c<0):=by omega
  have c2 : ¬ ((b:Int)*c > 2 ^ 48):=by omega
  have c3 : ¬ (l<0):=by omega
  have c4 : ¬ (l > c):=by omega
  simp only[asIntOf,Sem.run_pure,Result.andThen_ok,w1,w2,c1,c2,c3,c4,decide_false,Bool.or_false,YH,Wm,if_false,or_false,Sem.run_bind,run_askRoom,Result.andThen_ok,qaH hn]
  by_cases hl:c.toNat*n=0
  ·simp only[hl,if_true,Sem.run_bind,Result.andThen_ok,Sem.run_pure]
   have e0 : ∀ f:Nat->Value,Array.map f (Array.range 0) = #[]:=fun f=>by simp
   rw[e0,e0]
   simp[newRow]
  ·simp only[hl,if_false,Sem.run_bind,qbd hz,Result.andThen_ok,Sem.run_pure]
   simp[newRow]
 refine⟨⟨_,_,rfl,h1,h2,?_,.inl hrun⟩,?_⟩
 ·simp only[Rep]
  exact⟨Γ.w.heap.size,by simp[bind],rfl,by omega,⟨.cells ((qdF c.toNat (qar z)).map .dat),by simp,rfl⟩⟩
 ·have hle:l.toNat*n<=c.toNat*n:=Yc _ (by omega)
  have hrl:((qdF l.toNat (qar z)).map V.dat).length=l.toNat*n:=by rw[Yd,qdv,hzl]
  have hsz:((Array.range (c.toNat*n)).map (z.cells[· % z.cells.size]!)).size=c.toNat*n:=by simp
  have hl':((Array.range (c.toNat*n)).map (z.cells[· % z.cells.size]!)).toList=qdF c.toNat z.cells.toList:=by subst hzn; rw[qdY _ _ h0]
  have htake:(qdF c.toNat z.cells.toList).take (l.toNat*n)=qdF l.toNat z.cells.toList:=by
   have hz':z.cells.toList.length=n:=by simpa using hzn
   apply List.ext_getElem?
   intro j
   by_cases hj:j<l.toNat*n
   ·rw[Yn hj,qhl _ _ _ (by rw[hz']; omega),qhl _ _ _ (by rw[hz']; omega)]
   ·rw[WS,if_neg hj,W0 (by rw[qdv,hz']; omega)]
  obtain⟨h1,h2⟩:=qdr hr (.vec ((qdF l.toNat (qar z)).map .dat)) (.cells ((Array.range (c.toNat*n)).map (z.cells[· % z.cells.size]!)) e) 0
   (fun Γ' e' hx'=>by
    subst e'
    simp only[RepOb,grow,if_pos]
    refine⟨trivial,_,e,qap _ _,by rw[hrl,hsz]; exact hle,?_,?_⟩
    ·rw[hrl,hl',htake]
     exact Reps_dat.2 (qdh (qa3 (qbV hz)) l.toNat)
    ·rw[hrl,hl',htake]
     intro v hv
     have:=qjL hv
     have hok:=qbV hz
     simp only[qel,Wy,Wq] at hok
     exact (hok v this).2) (fun h=>absurd h (WR _))
  refine⟨_,.slice (some ⟨Γ.w.heap.size,0,none⟩) l.toNat c.toNat,rfl,h1,h2,?_,.inl hrun⟩
  simp only[Rep]
  refine⟨_,_,rfl,by omega,by rw[hzl]; exact h0,⟨.vec ((qdF l.toNat (qar z)).map .dat),by simp,rfl⟩,fun ob cs k1 k2=>?_⟩
  have:ob = .vec ((qdF l.toNat (qar z)).map .dat):=by simpa using k1.symm
  subst this
  simp only[Ob.rows,We] at k2; subst k2
  refine⟨by rw[hrl,hzl]; exact Wi _,fun _=>⟨Γ.w.heap.size,_,e,by simp[bind],rfl,qap _ _,?_⟩⟩
  rw[hzl,hsz]; exact Wi _
theorem qe8{kd:KD}{kt:TypeId}(hk:kdT P kt=some kd){a b:Value}{r:Bool}(h:qb8 kd a b=some r) : ∃ d,P.underlying kt=some d/\Instr.sameNow d a b=some r:=by
 unfold kdT at hk
 split at hk
 ·rename_i hu; cases hk
  refine⟨_,hu,?_⟩
  cases a<;>cases b<;>simp_all [qb8,Instr.sameNow]
 ·rename_i hu; cases hk
  refine⟨_,hu,?_⟩
  cases a<;>cases b<;>simp_all [qb8,Instr.sameNow]
 ·rename_i hu; cases hk
  refine⟨_,hu,?_⟩
  cases a<;>cases b<;>simp_all [qb8,Instr.sameNow]
 ·cases hk
theorem qeH{kd:KD}{kt:TypeId}(hk:kdT P kt=some kd)(e:Bool)(n:Nat)(key:Value)(w:World):(Instr.checkKey e (n+1) kt key).run P w = .ok () w:=by
 unfold kdT at hk
 split at hk
 ·rename_i hu; simp only[Instr.checkKey,Sem.run_bind,qai hu,Result.andThen_ok]; rfl
 ·rename_i hu; simp only[Instr.checkKey,Sem.run_bind,qai hu,Result.andThen_ok]; rfl
 ·rename_i hu; simp only[Instr.checkKey,Sem.run_bind,qai hu,Result.andThen_ok]; rfl
 ·cases hk
theorem qmx{kd:KD}{kt:TypeId}(hk:kdT P kt=some kd) : ∃ d,P.underlying kt=some d:=by
 unfold kdT at hk
 split at hk
 ·rename_i hu; exact⟨_,hu⟩
 ·rename_i hu; exact⟨_,hu⟩
 ·rename_i hu; exact⟨_,hu⟩
 ·cases hk
theorem qiO {kd:KD} {kt:TypeId} {d:TypeDesc} (hk:kdT P kt=some kd) (hu:P.underlying kt=some d) {key:Value} : ∀ {es:List (Value × V)} {xs:List MapEntry} {r:Option V} (i:Nat),RepE fid Γ es xs->qea kd key es=some r ->
  (r=none/\Instr.findNow d key xs i=some none) \/ ∃ u j x,r=some u/\Instr.findNow d key xs i=some (some (i+j,x))/\Rep fid Γ u x/\j<xs.length
 |[],xs,r,i,hx,h=>by
  simp only[qea,We] at h; subst h
  simp only[RepE] at hx; subst hx
  exact .inl ⟨rfl,rfl⟩
 | (k,v)::es,xs,r,i,hx,h=>by
  simp only[RepE] at hx
  obtain⟨e,xs',rfl,h1,h2,h3⟩:=hx
  simp only[qea] at h
  split at h
  ·rename_i hs
   cases h
   obtain⟨d',hd,hs'⟩:=qe8 hk hs
   rw[hu] at hd; cases hd
   refine .inr ⟨v,0,e.val,rfl,?_,h2,by simp⟩
   simp only[Instr.findNow,h1,hs',Ys]
  ·rename_i hs
   obtain⟨d',hd,hs'⟩:=qe8 hk hs
   rw[hu] at hd; cases hd
   rcases qiO hk hu (i+1) h3 h with ⟨rfl,h4⟩|⟨u,j,x,rfl,h4,h5,h6⟩
   ·exact .inl ⟨rfl,by simp only[Instr.findNow,h1,hs',h4]⟩
   ·exact .inr ⟨u,j+1,x,rfl,by simp only[Instr.findNow,h1,hs',h4]; congr 3; omega,h5,by simp; omega⟩
  ·cases h
theorem qmy (hr:Real fid Γ) {t kt e:TypeId} {kd:KD} {m k:Operand} {ok:Bool} {l:Nat} {key z:Value} {es:List (Value × V)} {r:Option V} (ho:o.op = .lookup t m k ok)
  (ht:P.underlying t=some (.map kt e)) (hk:kdT P kt=some kd) (hz:qc5 P e=some z) (hm:Rep fid Γ (.mp l) (ρ m)) (hkey:Rep fid Γ (.dat (.lit key)) (ρ k)) (hes : Γ.σ[l]?=some (.map es)) (h:qea kd key es=some r) :
  Comes P fid Γ ρ o (match r with|some u=>if ok then .tup [u,.bool true] else u|none=>if ok then .tup [.dat (toD z),.bool false] else .dat (toD z)) Γ.σ:=by
 simp only[Rep] at hm
 obtain⟨b,hb,hmx,_⟩:=hm
 obtain⟨hF,ents,clock,h1,h2⟩:=hr.obs l _ b hes hb
 obtain⟨d,hu⟩:=qmx hk
 have hrun : ∀ x,(Instr.findKey kt key ents.toList).run P Γ.w = .ok x Γ.w->(Instr.lookup t (.map (some b)) key ok).run P Γ.w=(match x with
   |some (_,v)=>Result.ok (if ok then .tuple #[v,.bool true] else v) Γ.w
   |none=>Result.ok (if ok then .tuple #[z,.bool false] else z) Γ.w):=fun x hx=>by
  simp only[Instr.lookup,Sem.run_bind,qai ht,Result.andThen_ok,getObj,Sem.run,h1,Sem.run_pure,qeH hk,hx]
  cases x with
  |none=>simp[qbd hz]
  |some p=>simp
 have hfk : ∀ x,Instr.findNow d key ents.toList 0=some x->(Instr.findKey kt key ents.toList).run P Γ.w = .ok x Γ.w:=fun x hx=>by
  simp only[Instr.findKey,Sem.run_bind,qai hu,Result.andThen_ok,hx]
  rfl
 rcases qiO hk hu 0 h2 h with ⟨rfl,h4⟩|⟨u,j,x,rfl,h4,h5,_⟩
 ·refine .pure hr (x:=if ok then .tuple #[z,.bool false] else z) ?_ ?_
  ·simp only[execOp,ho,hmx,(qas hkey).1,Sem.run_bind,hrun _ (hfk _ h4),Result.andThen_ok,Sem.run_pure]
  ·cases ok
   ·simpa [Rep] using qmT (qbV hz)
   ·simp only[if_true,Rep]
    exact⟨[z,.bool false],rfl,z,_,rfl,by simpa [Rep] using qmT (qbV hz),_,_,rfl,qd0 rfl,rfl⟩
 ·refine .pure hr (x:=if ok then .tuple #[x,.bool true] else x) ?_ ?_
  ·simp only[execOp,ho,hmx,(qas hkey).1,Sem.run_bind,hrun _ (hfk _ h4),Result.andThen_ok,Sem.run_pure]
  ·cases ok
   ·simpa using h5
   ·simp only[if_true,Rep]
    exact⟨[x,.bool true],rfl,x,_,rfl,h5,_,_,rfl,qd0 rfl,rfl⟩
theorem set_sound {kd:KD} {kt:TypeId} {d:TypeDesc} (hk:kdT P kt=some kd) (hu:P.underlying kt=some d) {key:Value} {u:V} {x:Value} (hx:Rep fid Γ u x) : ∀ {es es':List (Value × V)} {xs:List MapEntry} (i clock:Nat),RepE fid Γ es xs->qp8 kd key u es=some es' ->
  (Instr.findNow d key xs i=some none/\RepE fid Γ es' (xs++[⟨key,x,clock⟩])) \/ ∃ j y old,Instr.findNow d key xs i=some (some (i+j,y))/\xs[j]?=some old/\qb8 kd key old.key=some true /\
   ∀ f:MapEntry->MapEntry,(∀ e,(f e).key=key/\(f e).val=x)->RepE fid Γ es' (xs.modify j f)
 |[],es',xs,i,clock,hxs,h=>by
  simp only[qp8,We] at h; subst h
  simp only[RepE] at hxs; subst hxs
  exact .inl ⟨rfl,⟨key,x,clock⟩,[],rfl,rfl,hx,rfl⟩
 | (k,v)::es,es',xs,i,clock,hxs,h=>by
  simp only[RepE] at hxs
  obtain⟨e,xs',rfl,h1,h2,h3⟩:=hxs
  simp only[qp8] at h
  split at h
  ·rename_i hs
   cases h
   obtain⟨d',hd,hs'⟩:=qe8 hk hs
   rw[hu] at hd; cases hd
   refine .inr ⟨0,e.val,e,?_,by simp,by rw[h1]; exact hs,fun f hf=>?_⟩
   ·simp only[Instr.findNow,h1,hs',Ys]
   ·rw[List.modify_zero_cons]
    simp only[RepE]
    exact⟨f e,xs',rfl,(hf e).1,by rw[(hf e).2]; exact hx,h3⟩
  ·rename_i hs
   obtain⟨d',hd,hs'⟩:=qe8 hk hs
   rw[hu] at hd; cases hd
   split at h
   ·rename_i r' hr'
    cases h
    rcases set_sound hk hu hx (i+1) clock h3 hr' with ⟨h4,h5⟩|⟨j,y,old,h4,h5,h6,h7⟩
    ·refine .inl ⟨by simp only[Instr.findNow,h1,hs',h4],?_⟩
     simp only[Wh,RepE]
     exact⟨e,_,rfl,h1,h2,h5⟩
    ·refine .inr ⟨j+1,y,old,by simp only[Instr.findNow,h1,hs',h4]; congr 3; omega,by simpa using h5,h6,fun f hf=>?_⟩
     rw[List.modify_succ_cons]
     simp only[RepE]
     exact⟨e,_,rfl,h1,h2,h7 f hf⟩
   ·cases h
  ·cases h
theorem qdZ(x y:ByteArray):(x==y)=decide (x=y):=by
 have h:(x==y)=(x.data==y.data):=rfl
 rw[h,Bool.eq_iff_iff]
 simp only[beq_iff_eq,decide_eq_true_eq]
 exact⟨fun h=>by cases x; cases y; simp only at h; rw[h],fun h=>by rw[h]⟩
theorem qlC{kd:KD}{a b:Value}(h:qb8 kd a b=some true)(n:Nat):Instr.sameBits n b a=true:=by
 cases kd<;>cases a<;>cases b<;>simp_all [qb8,Instr.sameBits]
 simp only[qdZ,decide_eq_true_eq] at h ⊢
 exact h.symm
theorem qmz (hr:Real fid Γ) {t kt e:TypeId} {kd:KD} {m k x:Operand} {l:Nat} {key:Value} {u:V} {es es':List (Value × V)} (ho:o.op = .mapUpdate t m k x\/o.op = .insert t m k x)
  (ht:P.underlying t=some (.map kt e)) (hk:kdT P kt=some kd) (hm:Rep fid Γ (.mp l) (ρ m)) (hkey:Rep fid Γ (.dat (.lit key)) (ρ k)) (hx:Rep fid Γ u (ρ x)) (hes : Γ.σ[l]?=some (.map es)) (h:qp8 kd key u es=some es') :
  Comes P fid Γ ρ o (.dat (.lit undef)) (Γ.σ.set l (.map es')):=by
 simp only[Rep] at hm
 obtain⟨b,hb,hmx,_⟩:=hm
 obtain⟨hF,ents,clock,h1,h2⟩:=hr.obs l _ b hes hb
 obtain⟨d,hu⟩:=qmx hk
 have hfk : ∀ x,Instr.findNow d key ents.toList 0=some x->(Instr.findKey kt key ents.toList).run P Γ.w = .ok x Γ.w:=fun x hx=>by
  simp only[Instr.findKey,Sem.run_bind,qai hu,Result.andThen_ok,hx]
  rfl
 have hblt:=qdq h1
 have fin : ∀ ents' clock',(Instr.mapUpdate t (.map (some b)) key (ρ x)).run P Γ.w = .ok () { Γ.w with heap := Γ.w.heap.setIfInBounds b (.map ents' clock') }->RepE fid Γ es' ents'.toList ->
   Comes P fid Γ ρ o (.dat (.lit undef)) (Γ.σ.set l (.map es')):=fun ents' clock' hrun hrep=>by
  obtain⟨u1,u2⟩:=upd hr hes rfl (ob' := .map es') rfl hb (w':={ Γ.w with heap := Γ.w.heap.setIfInBounds b (.map ents' clock') })
   ⟨rfl,rfl,rfl,by simp,fun k hk=>by simp[Array.getElem?_setIfInBounds_ne (Yw hk)]⟩ (fun hx=>by
    simp only[RepOb]
    exact⟨hF,ents',clock',by simp[hblt],RepE.ext hx _ _ hrep⟩)
  refine⟨_,undef,rfl,u1,u2,qd0 rfl,.inr ⟨?_,rfl⟩⟩
  rcases ho with ho|ho<;>simp only[execOp,ho,hmx,(qas hkey).1,Sem.run_bind,hrun,Result.andThen_ok,Sem.run_pure]
 rcases set_sound hk hu hx 0 clock h2 h with ⟨h4,h5⟩|⟨j,y,old,h4,h5,h6,h7⟩
 ·refine fin (ents.push ⟨key,ρ x,clock⟩) (clock+1) ?_ (by simpa using h5)
  simp only[Instr.mapUpdate,Sem.run_bind,qai ht,Result.andThen_ok,getObj,Sem.run,h1,qeH hk,hfk _ h4,setObj]
 ·refine fin (ents.modify j fun e=>{ e with key,val := ρ x }) clock ?_ (by
   have:=h7 (fun e=>{ e with key,val := ρ x }) (fun e=>⟨rfl,rfl⟩)
   rw[Array.toList_modify]; exact this)
  have hold:ents[j]?=some old:=by simpa using h5
  simp only[Instr.mapUpdate,Sem.run_bind,qai ht,Result.andThen_ok,getObj,Sem.run,h1,qeH hk,hfk _ h4,setObj,WJ,hold,W4,Option.getD_some,Instr.keyThatStays,qlC h6,if_true,Sem.run_pure]
end
end
section
variable{P:Program}{ids:Ids}{fid:Fid}{N:Nat}
section
variable{Γ : Ctx}{fr:Fr}{ρ : Operand->Value}{o:Oper}{v:V}{σ':S}{C:Task->Option Res}
theorem qkz(newLen:Nat) : ∀ (r c:Nat),c<newLen->Builtin.growBy newLen r c<=2*newLen+192
 |0,c,h=>by simp only[Builtin.growBy]; omega
 |r+1,c,h=>by
  simp only[Builtin.growBy]
  rw[if_neg (by omega)]
  by_cases h2:c+(c+768) / 4<newLen
  ·exact qkz newLen r _ h2
  ·cases r with
   |zero=>simp only[Builtin.growBy]; omega
   |succ r=>simp only[Builtin.growBy]; rw[if_pos (by omega)]; omega
theorem qhK{need cap:Nat}(h:cap<need):Builtin.nextslicecap need cap<=2*need+192:=by
 unfold Builtin.nextslicecap
 split
 ·omega
 ·split
  ·omega
  ·exact qkz _ _ _ h
theorem qiK(F:Nat->Nat)(w:World)(s:ByteArray):RepDs F w (qfk s) (s.data.toList.map fun c=>Value.int .u8 c.toNat):=by
 have:qfk s=(s.data.toList.map fun c=>Value.int .u8 c.toNat).map .lit:=by simp[qfk]
 rw[this]
 exact qeQ fun v hv=>by obtain⟨c,_,rfl⟩:=Ye.1 hv; rfl
theorem qdH(sz:Nat)(s:ByteArray)(w:World):(Builtin.firstCells sz s.size (.string s)).run P w = .ok (s.data.toList.map fun c=>Value.int .u8 c.toNat).toArray w:=by
 simp only[Builtin.firstCells,ByteArray.extract_zero_size,Sem.run_pure]
 congr 1
 apply WN
 simp
theorem qow {u:V} {x:Value} {xs:List D} {m sz:Nat} (hu:Rep fid Γ u x) (h:qkw u=some (xs,m)) (hl:xs.length=m*sz) :
  ∃ vs,RepDs Γ.F Γ.w xs vs/\(∀ v∈vs,v.oneCell'=true)/\(∀ w',(Builtin.lenOf x).run P w' = .ok m w') /\
   ∀ w':World,(∀ b i,w'.cell? ⟨b,i,none⟩ = Γ.w.cell? ⟨b,i,none⟩)->(Builtin.firstCells sz m x).run P w' = .ok vs.toArray w':=by
 unfold qkw at h
 split at h
 ·rename_i a
  cases h
  rw[(qas hu).1]
  refine⟨[],by simp[RepDs],by simp,fun w'=>by simp[Builtin.lenOf],fun w' _=>?_⟩
  cases a with
  |none=>simp[Builtin.firstCells]
  |some a=>simp[Builtin.firstCells,loadCells,loadCellsFrom]
 ·cases h
  simp only[Rep,RepD] at hu
  obtain⟨b,o',cap,vs,rfl,_,_,h3,h4⟩:=hu
  refine⟨vs,h3,h4.2.2,fun w'=>by simp[Builtin.lenOf],fun w' hw=>?_⟩
  have:=qbx (P:=P) (w:=w') (b:=b) (o:=o') (vs:=vs) (fun j v hj=>by rw[hw]; exact h4.1 j v hj)
  rw[h3.length,hl] at this
  simp only[Builtin.firstCells,this]
 ·cases h
  simp only[Rep] at hu
  obtain⟨b,cap,vs,k,rfl,_,h3,h4,_⟩:=hu
  refine⟨vs,h3,h4.2.2,fun w'=>by simp[Builtin.lenOf],fun w' hw=>?_⟩
  have:=qbx (P:=P) (w:=w') (b:=b) (o:=0) (vs:=vs) (fun j v hj=>by rw[hw]; exact h4.1 j v hj)
  rw[h3.length,hl] at this
  simp only[Builtin.firstCells,this]
 ·rename_i s
  cases h
  rw[(qas hu).1]
  exact⟨_,qiK _ _ s,fun v hv=>by obtain⟨c,_,rfl⟩:=Ye.1 hv; rfl,fun w'=>by simp[Builtin.lenOf],fun w' _=>qdH sz s w'⟩
 ·cases h
section
variable{ts tx e ex:TypeId}{s x:Operand}{c:Call}{sz bytes:Nat}{z:Value}
theorem qkA (hts:P.underlying ts=some (.slice e)) (htx:(∃ ex,P.underlying tx=some (.slice ex))\/P.underlying tx=some .string) (hsz:qaP P e=some sz) (hby:qfq P e=some bytes) (hz:qc5 P e=some z)
  {base:Option Addr} {sLen sCap m:Nat} {X:Value} {olds news:List Value} {w:World} (hlen : ∀ w',(Builtin.lenOf X).run P w' = .ok m w')
  (hgt:sCap<sLen+m) (hroom:qaC (sLen+m) bytes=true)
  (hold : ∀ w':World,(∀ b i,w'.cell? ⟨b,i,none⟩=w.cell? ⟨b,i,none⟩)->(Builtin.firstCells sz sLen (.slice base sLen sCap)).run P w' = .ok olds.toArray w')
  (hnew : ∀ w':World,(∀ b i,w'.cell? ⟨b,i,none⟩=w.cell? ⟨b,i,none⟩)->(Builtin.firstCells sz m X).run P w' = .ok news.toArray w') :
  ∃ (cap:Nat) (rest:Array Value),sLen+m<=cap/\rest.size=(cap-(sLen+m))*z.cells.size /\
   (Builtin.append_ #[ts,tx] o.type #[.slice base sLen sCap,X]).run P w = .ok (.slice (some ⟨w.heap.size,0,none⟩) (sLen+m) cap) (w.drew.alloc (.cells ((olds++news).toArray++rest) e)):=by
 simp only[qaC,decide_eq_true_eq] at hroom
 have hn:=qhK hgt
 have h1:(2*(sLen+m)+192)*(bytes+1)=(2*(sLen+m)+192)*bytes+(2*(sLen+m)+192):=by rw[Nat.mul_add,Nat.mul_one]
 have h2:Builtin.nextslicecap (sLen+m) sCap*bytes<=(2*(sLen+m)+192)*bytes:=Yc _ hn
 have hmax:IntKind.max .i64=9223372036854775807:=by decide
 have hinfo : ∃ i,P.info? e=some i/\i.bytes=bytes:=by
  unfold qfq at hby
  cases hi:P.info? e with
  |none=>rw[hi] at hby; cases hby
  |some i=>rw[hi] at hby; simp at hby; exact⟨i,rfl,hby⟩
 obtain⟨i,hi,hib⟩:=hinfo
 refine⟨sLen+m+w.tape w.drawn (.appendCap (sLen+m) sCap e) % (2 ^ 63-(sLen+m)),Builtin.zeroCells z.cells (sLen+m+w.tape w.drawn (.appendCap (sLen+m) sCap e) % (2 ^ 63-(sLen+m))-(sLen+m)),by omega,by simp[Builtin.zeroCells],?_⟩
 rcases htx with ⟨ex,htx⟩|htx
 all_goals
  simp only[Builtin.append_,List.getElem?_toArray,List.getElem?_cons_zero,List.getElem?_cons_succ,Sem.run_bind,qai hts,Result.andThen_ok,qaH hsz,qai htx,Sem.run_pure,hlen,Wm,if_false]
  rw[if_neg (by omega)]
  simp only[Sem.run_bind,qbE hi,Result.andThen_ok,hib,false_or]
  rw[Sem.run_ite]
  have c1 : ¬ (((sLen+m:Nat):Int) > IntKind.i64.max/\bytes=0):=by
   rw[hmax]; intro h; have:=h.1; omega
  rw[if_neg c1]
  simp only[Sem.run_bind,qbE hi,Result.andThen_ok,hib]
  rw[Sem.run_ite,if_neg (by omega)]
  simp only[Sem.run_bind,run_choose,Question.forced,Wm,if_false,Question.cut,Result.andThen_ok,run_askRoom]
  simp only[qbE hi,Result.andThen_ok,World.drew_eq]
  rw[hold w.drew (fun b i=>rfl)]
  simp only[Result.andThen_ok,if_true,Bool.not_false]
  rw[hnew w.drew (fun b i=>rfl)]
  simp only[Result.andThen_ok,qbd hz,newRow,Sem.run_bind,run_newObj,Sem.run_pure]
  simp
  rfl
theorem qhj (hts:P.underlying ts=some (.slice e)) (htx:(∃ ex,P.underlying tx=some (.slice ex))\/P.underlying tx=some .string) (hsz:qaP P e=some sz)
  {base:Option Addr} {sLen sCap m:Nat} {X:Value} {news:List Value} {w w':World} (hlen:(Builtin.lenOf X).run P w = .ok m w)
  (hle:sLen+m<=sCap) (hnew:(Builtin.firstCells sz m X).run P w = .ok news.toArray w)
  (hst:(match base with|some a=>storeCells (a.add (sLen*sz)) news|none=>pure ()).run P w = .ok () w') :
  (Builtin.append_ #[ts,tx] o.type #[.slice base sLen sCap,X]).run P w = .ok (.slice base (sLen+m) sCap) w':=by
 rcases htx with ⟨ex,htx⟩|htx
 all_goals
  simp only[Builtin.append_,List.getElem?_toArray,List.getElem?_cons_zero,List.getElem?_cons_succ,Sem.run_bind,qai hts,Result.andThen_ok,qaH hsz,qai htx,Sem.run_pure,hlen,Wm,if_false]
  rw[if_pos hle]
  simp only[Sem.run_bind,Bool.not_false,if_true,hnew,Result.andThen_ok]
  cases base with
  |none=>
   simp only[Sem.run_pure] at hst ⊢
   cases hst
   simp
  |some a=>
   simp only at hst ⊢
   simp only[Sem.run_bind,hst]
   simp
theorem qcB (ho:o.op = .call c) (hcal:c.callee = .builtin .append) (hargs:c.args.toList=[s,x]) (hts:c.argTypes.toList=[ts,tx]) {w w':World} {r:Value}
  (h:(Builtin.append_ #[ts,tx] o.type #[ρ s,ρ x]).run P w = .ok r w'):(execOp ρ o).run P w = .ok (.value r) w':=by
 have ha:c.args = #[s,x]:=by apply WN; simpa using hargs
 have hb:c.argTypes = #[ts,tx]:=by apply WN; simpa using hts
 simp only[execOp,ho,resolve,hcal,ha,hb,invoke,builtin,Sem.run_bind,Sem.run_pure,Result.andThen_ok]
 simp[h]
theorem qmp (hr:Real fid Γ) (ho:o.op = .call c) (hcal:c.callee = .builtin .append) (hargs:c.args.toList=[s,x]) (hats:c.argTypes.toList=[ts,tx])
  (hts:P.underlying ts=some (.slice e)) (htx:(∃ ex,P.underlying tx=some (.slice ex))\/P.underlying tx=some .string) (hsz:qaP P e=some sz) (hby:qfq P e=some bytes) (hz:qc5 P e=some z) (hzn:z.cells.size=sz)
  {a b u:V} (ha:Rep fid Γ a (ρ s)) (hb:Rep fid Γ b (ρ x)) (h:qbQ Γ.σ sz bytes a b=some (u,σ')):Comes P fid Γ ρ o u σ':=by
 unfold qbQ at h
 split at h
 ·cases h
 ·rename_i xs m hsrc
  split at h
  ·rename_i hcond
   obtain⟨hxl,hsz0⟩:=hcond
   obtain⟨news,n1,n2,n3,n4⟩:=qow (P:=P) hb hsrc hxl
   have hnl:news.length=m*sz:=by rw[n1.length,hxl]
   split at h
   ·-- nothing is appended
    rename_i hm
    subst hm
    have hnews:news=[]:=by
     apply WP; rw[hnl]; simp
    have fin : ∀ base n cap,ρ s = .slice base n cap->n<=cap->(u=a /\ σ' = Γ.σ)->Comes P fid Γ ρ o u σ':=fun base n cap hs hle hu=>by
     obtain⟨rfl,rfl⟩:=hu
     refine .pure hr (x := ρ s) ?_ ha
     refine qcB ho hcal hargs hats ?_
     rw[hs]
     have:=qhj (P:=P) (o:=o) hts htx hsz (base:=base) (n3 Γ.w) (show n+0<=cap by omega) (n4 Γ.w fun _ _=>rfl) (w' := Γ.w) (by rw[hnews]; cases base<;>simp[storeCells])
     simpa using this
    split at h
    ·cases h
     exact fin _ _ _ (qas ha).1 (Wi _) ⟨rfl,rfl⟩
    ·cases h
     have ha':=ha
     simp only[Rep,RepD] at ha'
     obtain⟨b',o',cap,vs,hs,h2,_⟩:=ha'
     exact fin _ _ _ hs h2 ⟨rfl,rfl⟩
    ·cases h
     have ha':=ha
     simp only[Rep] at ha'
     obtain⟨b',cap,vs,k,hs,h2,_⟩:=ha'
     exact fin _ _ _ hs h2 ⟨rfl,rfl⟩
    ·cases h
   ·rename_i hm
    have fresh : ∀ {olds:List Value} {cs:List D} {base:Option Addr} {n cap:Nat},ρ s = .slice base n cap->cap<n+m->qaC (n+m) bytes=true->RepDs Γ.F Γ.w cs olds->(∀ v∈olds,v.oneCell'=true)->cs.length=n*sz ->
      (∀ w':World,(∀ b i,w'.cell? ⟨b,i,none⟩ = Γ.w.cell? ⟨b,i,none⟩)->(Builtin.firstCells sz n (.slice base n cap)).run P w' = .ok olds.toArray w') ->
      ∃ (newCap:Nat) (rest:Array Value),n+m<=newCap/\(n+m)*sz+rest.size=newCap*sz/\(cs++xs).length=(n+m)*sz/\0<(n+m)*sz/\RepDs Γ.F Γ.w (cs++xs) (olds++news)/\(∀ v∈olds++news,v.oneCell'=true) /\
       (execOp ρ o).run P Γ.w = .ok (.value (.slice (some ⟨Γ.w.heap.size,0,none⟩) (n+m) newCap)) (Γ.w.drew.alloc (.cells ((olds++news).toArray++rest) e)):=by
     intro olds cs base n cap hs hlt hroom hd hone hcl hold
     obtain⟨newCap,rest,r1,r2,r3⟩:=qkA (P:=P) (o:=o) hts htx hsz hby hz n3 hlt hroom hold n4
     refine⟨newCap,rest,r1,?_,?_,Nat.mul_pos (by omega) hsz0,RepDs_append.2 ⟨_,_,rfl,hd,n1⟩,?_,qcB ho hcal hargs hats (by rw[hs]; exact r3)⟩
     ·rw[r2,hzn,<- Nat.add_mul]; congr 1; omega
     ·rw[Wb,hcl,hxl,W6]
     ·intro v hv
      rcases Wl.1 hv with hv|hv
      ·exact hone v hv
      ·exact n2 v hv
    obtain⟨d1,d2⟩:=qmo hr
    have grown : ∀ {Γ':Ctx} {olds:List Value} {cs:List D} {rest:Array Value} {n newCap l:Nat},Ext ⟨Γ.σ,Γ.μ,Γ.F,Γ.w.drew⟩ Γ' -> Γ'.w = Γ.w.drew.alloc (.cells ((olds++news).toArray++rest) e) -> Γ'.F Γ.w.heap.size=(cs++xs).length ->
      Γ'.σ[l]?=some (.tip (cs++xs).length) -> Γ'.μ l=some Γ.w.heap.size->n+m<=newCap->(n+m)*sz+rest.size=newCap*sz->(cs++xs).length=(n+m)*sz->0<(n+m)*sz->RepDs Γ.F Γ.w (cs++xs) (olds++news)->(∀ v∈olds++news,v.oneCell'=true) ->
      Rep fid Γ' (.gsl (cs++xs) (n+m) sz l) (.slice (some ⟨Γ.w.heap.size,0,none⟩) (n+m) newCap):=by
     intro Γ' olds cs rest n newCap l hx hw hF hσ hμ g1 g2 g3 g4 g5 g6
     have hlen:=g5.length
     simp only[Rep]
     refine⟨Γ.w.heap.size,newCap,olds++news,(cs++xs).length,rfl,g1,RepDs.ext hx _ _ (RepDs.ext d2.ext _ _ g5),⟨fun i v hi=>?_,fun _=>by rw[hF,hlen]; omega,g6⟩,?_,hσ,by simp[hμ],Wi _,fun _=>⟨hμ,_,e,by rw[hw]; exact qap Γ.w.drew _,?_⟩⟩
     ·have hi':i<(olds++news).length:=(Wc.1 hi).1
      simp only[World.cell?,hw]
      rw[show Γ.w.heap.size = Γ.w.drew.heap.size from rfl,qap]
      simp only[Yq,Wm,if_false,WJ]
      rw[WU (by simpa using hi')]
      simpa using hi
     ·intro h0
      rw[h0] at g3
      simp at g3
      omega
     ·simp only[Yx,YG,hlen,g3]
      omega
    split at h
    ·-- a nil slice
     split at h
     ·rename_i hroom
      cases h
      obtain⟨newCap,rest,f1,f2,f3,f4,f5,f6,f7⟩:=fresh (olds:=[]) (cs:=[]) (qas ha).1 (show 0<0+m by omega) (by simpa using hroom) (by simp[RepDs]) (by simp) (by simp)
       (fun w' _=>by simp[Builtin.firstCells])
      obtain⟨k1,k2⟩:=qdr d1 (.tip xs.length) (.cells (([]++news).toArray++rest) e) xs.length
       (fun Γ' e' hx=>by subst e'; simp only[RepOb,grow,if_pos]; simp at f3; exact⟨trivial,by rw[f3]; simpa using f4⟩)
       (fun _=>⟨_,_,_,rfl,by simp[hnl,hxl]⟩)
      refine⟨_,_,rfl,k1,d2.trans k2,?_,.inl f7⟩
      have:=grown (cs:=[]) (olds:=[]) (rest:=rest) (n:=0) (newCap:=newCap) (l := Γ.σ.length) k2.ext rfl (by simp[grow]) (by simp) (by simp[bind]) f1 f2 f3 f4 f5 f6
      simpa using this
     ·cases h
    ·-- a full slice
     rename_i cs n
     split at h
     ·rename_i hcond
      obtain⟨hroom,hcl⟩:=hcond
      cases h
      have ha':=ha
      simp only[Rep,RepD] at ha'
      obtain⟨b',o',cap,olds,hs,h2,h3,h4,h5⟩:=ha'
      have hcap:=h3 trivial
      subst hcap
      obtain⟨newCap,rest,f1,f2,f3,f4,f5,f6,f7⟩:=fresh hs (show cap<cap+m by omega) hroom h4 h5.2.2 hcl (fun w' hw=>by
       have:=qbx (P:=P) (w:=w') (b:=b') (o:=o') (vs:=olds) (fun j v hj=>by rw[hw]; exact h5.1 j v hj)
       rw[h4.length,hcl] at this
       simp only[Builtin.firstCells,this])
      obtain⟨k1,k2⟩:=qdr d1 (.tip (cs++xs).length) (.cells ((olds++news).toArray++rest) e) (cs++xs).length
       (fun Γ' e' hx=>by subst e'; simp only[RepOb,grow,if_pos]; exact⟨trivial,by rw[f3]; exact f4⟩)
       (fun _=>⟨_,_,_,rfl,by have:=f5.length; simp only[Yx,YG]; omega⟩)
      exact⟨_,_,rfl,k1,d2.trans k2,grown k2.ext rfl (by simp[grow]) (by simp) (by simp[bind]) f1 f2 f3 f4 f5 f6,.inl f7⟩
     ·cases h
    ·-- a row of the program's own
     rename_i cs n sz' l
     split at h
     ·rename_i k hk
      split at h
      ·rename_i hcond
       obtain⟨hroom,hcl,rfl,hkl⟩:=hcond
       cases h
       have ha':=ha
       simp only[Rep] at ha'
       obtain⟨b',cap,olds,m',hs,h2,h4,h5,h6,h7,h8,h9,h10⟩:=ha'
       rw[hk] at h7
       cases h7
       obtain⟨q1,arr,e',q2,q3⟩:=h10 hkl.symm
       subst hkl
       by_cases hfit:n+m<=cap
       ·-- it fits
        have hbd:(n+m)*sz'<=cap*sz':=Yc _ hfit
        rw[W6] at hbd
        obtain⟨w',s1,s2,arr',s3,s4⟩:=qcO (P:=P) news 0 Γ.w b' (n*sz') arr e' q2 n2 (by rw[hnl]; omega)
        have hlen':arr'.size=arr.size:=by
         have:=congrArg List.length s4
         simp[hnl] at this
         omega
        obtain⟨k1,k2⟩:=qtr hr hk q1 (show cs.length<(cs++xs).length by rw[Wb,hxl]; have:=Nat.mul_pos (show 0<m by omega) hsz0; omega) s2 q2 s3 hlen'
         (by rw[Wb,hcl,hxl]; omega) (fun i hi=>by
          rw[<- Array.getElem?_toList,<- Array.getElem?_toList,s4,Wx (by simp; omega),Yn (by omega)])
        refine⟨_,.slice (some ⟨b',0,none⟩) (n+m) cap,rfl,k1,k2,?_,.inl (qcB ho hcal hargs hats ?_)⟩
        ·simp only[Rep]
         have holdlen:=h4.length
         refine⟨b',cap,olds++news,(cs++xs).length,rfl,hfit,RepDs.ext k2.ext _ _ (RepDs_append.2 ⟨_,_,rfl,h4,n1⟩),⟨fun i v hi=>?_,fun _=>?_,?_⟩,?_,?_,?_,Wi _,fun _=>⟨q1,arr',e',s3,by omega⟩⟩
         ·simp only[World.cell?,s3,Yq,Wm,if_false,WJ]
          rw[<- Array.getElem?_toList,s4]
          by_cases hi':i<olds.length
          ·rw[Wx hi'] at hi
           rw[Wx (by simp; omega),Yn (by omega)]
           have:=h5.1 i v hi
           simpa [World.cell?,q2] using this
          ·rw[WO (by omega)] at hi
           have hi2:i-olds.length<news.length:=(Wc.1 hi).1
           rw[WO (by simp; omega),Wx (by simp; omega)]
           rw[<- hi]; congr 1; simp; omega
         ·simp[grow,holdlen,n1.length]
         ·intro v hv
          rcases Wl.1 hv with hv|hv
          ·exact h5.2.2 v hv
          ·exact n2 v hv
         ·simp[h6]
         ·simp only[Yr (Wc.1 hk).1]
         ·simp[q1]
        ·rw[hs]
         refine qhj (P:=P) (o:=o) hts htx hsz (n3 Γ.w) hfit (n4 Γ.w fun _ _=>rfl) ?_
         simp only[qbI,WJ]
         exact s1
       ·-- it moves
        obtain⟨newCap,rest,f1,f2,f3,f4,f5,f6,f7⟩:=fresh hs (show cap<n+m by omega) hroom h4 h5.2.2 hcl (fun w' hw=>by
         have:=qbx (P:=P) (w:=w') (b:=b') (o:=0) (vs:=olds) (fun j v hj=>by rw[hw]; exact h5.1 j v hj)
         rw[h4.length,hcl] at this
         simp only[Builtin.firstCells,this])
        obtain⟨k1,k2⟩:=qtq d1 hk h8 (show cs.length<(cs++xs).length by rw[Wb,hxl]; have:=Nat.mul_pos (show 0<m by omega) hsz0; omega) ((olds++news).toArray++rest) e
         (by have:=f5.length; simp only[Yx,YG]; omega)
        exact⟨_,_,rfl,k1,d2.trans k2,grown k2.ext rfl (by simp[grow]) (by simp[(Wc.1 hk).1]) (by simp[bind]) f1 f2 f3 f4 f5 f6,.inl f7⟩
      ·cases h
     ·cases h
    ·cases h
  ·cases h
end
end
end
end Go.Pm
