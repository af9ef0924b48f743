/- Aggregates, rows, appends, maps. Append. -/
import Derived.Test.YtpakkndfjpimgaaGreatDoorPmH
import Derived.IntWalk
set_option linter.unusedSimpArgs false
set_option linter.unusedVariables false
section SI
namespace Go.Pm
variable {P:Program} {ids:Ids} {fid:Fid} {N:Nat}
section
variable {Γ : Ctx} {fr:Fr} {ρ : Operand->Value} {o:Oper} {v:V} {σ':S} {C:Task->Option Res}
inductive PartsRep (fid:Fid) (Γ : Ctx) (place:Nat->Option (Nat × Nat)):List (Nat × Nat × V)->List (Nat × Value)->Prop
 | nil:PartsRep fid Γ place [] []
 | cons {i off n:Nat} {v:V} {x:Value} {ps:List (Nat × Nat × V)} {xs:List (Nat × Value)} (hp:place i=some (off,n)) (hv:Rep fid Γ v x) (h:PartsRep fid Γ place ps xs) :
   PartsRep fid Γ place ((off,n,v)::ps) ((i,x)::xs)
theorem qbK (hid:Ties P ids fid) (hr:Real fid Γ) {a:Act} (hf:FrRep fid Γ N fr a.tmps) {place:Nat->Option (Nat × Nat)} : ∀ {xs:List (Nat × Operand)} {ys:List (Nat × Nat × X)} {ps:List (Nat × Nat × V)},
  qev ids N place xs=some ys->qbI fr ys=some ps->PartsRep fid Γ place ps (xs.map fun (i,x)=>(i,a.eval x))
 | [],ys,ps,hc,hv=>by
  simp only[qev,Option.some.injEq] at hc; subst hc
  simp only[qbI,Option.some.injEq] at hv; subst hv
  exact .nil
 | (i,x)::xs,ys,ps,hc,hv=>by
  simp only[qev] at hc
  split at hc
  ·rename_i off n y ys' h1 h2 h3
   cases hc
   simp only[qbI] at hv
   split at hv
   ·rename_i u us h4 h5
    cases hv
    exact .cons h1 (qaa hid hr hf h2 h4) (qbK hid hr hf h3 h5)
   ·cases hv
  ·cases hc
theorem qfW : ∀ (xs:List Value) (cs:Array Value) (off k:Nat),off+k+xs.length<=cs.size ->
  ((xs.zipIdx k).foldl (fun cs (c,j)=>cs.setIfInBounds (off+j) c) cs).toList=cs.toList.take (off+k)++(xs++cs.toList.drop (off+k+xs.length))
 | [],cs,off,k,_=>by simp
 | x::xs,cs,off,k,h=>by
  simp only[List.length_cons] at h
  simp only[List.zipIdx_cons,List.foldl_cons]
  rw[qfW xs _ off (k+1) (by simp; omega)]
  have hlt:off+k<cs.toList.length:=by rw[Array.length_toList]; omega
  rw[Array.toList_setIfInBounds,show off+(k+1)=off+k+1 from by omega]
  rw[List.take_succ_eq_append_getElem (by simpa using hlt),List.getElem_set_self,List.take_set_of_le (Nat.le_refl _),List.drop_set_of_lt (by omega)]
  simp
  omega
theorem qcJ {place:Nat->Option (Nat × Nat)} {ps:List (Nat × Nat × V)} {xs:List (Nat × Value)} (h:PartsRep fid Γ place ps xs) : ∀ {cs:List V} {arr:Array Value} {r:List V},
  Reps fid Γ cs arr.toList->qci cs ps=some r -> ∃ arr',Instr.fill place arr xs=some arr'/\Reps fid Γ r arr'.toList:=by
 induction h with
 | nil=>intro cs arr r hc hr; simp only[qci,Option.some.injEq] at hr; subst hr; exact⟨arr,rfl,hc⟩
 | @cons i off n v x ps xs hp hv h ih=>
  intro cs arr r hc hr
  simp only[qci] at hr
  split at hr
  ·rename_i hcond
   obtain⟨c1,c2,c3⟩:=hcond
   have hcells:=qb4 hv
   have hl1:=Reps.length hcells
   have hl2:=Reps.length hc
   simp only[Array.length_toList] at hl1 hl2
   have hfold:=qfW x.cells.toList arr off 0 (by simp; omega)
   have hfold':(x.cells.zipIdx.foldl (fun cs (c,j)=>cs.setIfInBounds (off+j) c) arr).toList=arr.toList.take off++(x.cells.toList++arr.toList.drop (off+n)):=by
    rw[<- Array.foldl_toList,Array.toList_zipIdx,hfold]
    simp[hl1,c1]
   obtain⟨arr',h1,h2⟩:=ih (cs:=cs.take off++(v.cells++cs.drop (off+n))) (arr:=x.cells.zipIdx.foldl (fun cs (c,j)=>cs.setIfInBounds (off+j) c) arr)
    (by rw[hfold']; exact Reps_append.2 ⟨_,_,rfl,qbt hc off,Reps_append.2 ⟨_,_,rfl,hcells,qbM hc _⟩⟩) hr
   refine⟨arr',?_,h2⟩
   simp only[Instr.fill,hp]
   rw[if_neg (by simp; omega)]
   exact h1
  ·cases hr
theorem qeO (w:World) : ∀ {fs:List Field} {ps:List (Nat × Nat)},qdF P fs=some ps->(fs.mapM fun f=>do pure (f.offset,<- sizeOf f.type):Sem (List (Nat × Nat))).run P w = .ok ps w
 | [],ps,h=>by simp only[qdF,Option.some.injEq] at h; subst h; simp
 | f::fs,ps,h=>by
  simp only[qdF] at h
  split at h
  ·rename_i n ps' h1 h2
   cases h
   simp only[List.mapM_cons,Sem.run_bind,qan h1,Result.andThen_ok,Sem.run_pure]
   rw[qeO w h2]
   simp
  ·cases h
theorem qiO (hr:Real fid Γ) {t:TypeId} {parts:Array (Nat × Operand)} {fields:Array Field} {z:Value} {pl:List (Nat × Nat)} {ps:List (Nat × Nat × V)} {cs:List V}
  (ho:o.op = .build t parts) (ht:P.underlying t=some (.struct fields)) (hz:qbu P t=some z) (hpl:qdF P fields.toList=some pl)
  (hps:PartsRep fid Γ (fun i=>pl[i]?) ps (parts.toList.map fun (i,x)=>(i,ρ x))) (h:qci ((qag z).map .dat) ps=some cs):Comes P fid Γ ρ o (qdd cs) Γ.σ:=by
 obtain⟨arr',h1,h2⟩:=qcJ hps (Reps_dat.2 (qav (qaV hz))) h
 refine .pure hr (x := .agg arr') ?_ (by have:=qb3 h2; simpa using this)
 simp only[execOp,ho,Instr.build,Sem.run_bind,qaA hz,Result.andThen_ok,qab ht,Array.mapM_eq_mapM_toList]
 have:=qeO (P:=P) Γ.w hpl
 simp only[Sem.run_map] at this ⊢
 rw[this]
 simp only[Result.andThen_ok,Array.toList_map,List.getElem?_toArray]
 have e:(parts.toList.map fun x=>match x with | (i,x)=>(i,ρ x))=parts.toList.map fun (i,x)=>(i,ρ x):=rfl
 rw[h1]
 simp
theorem qiP (hr:Real fid Γ) {t e:TypeId} {parts:Array (Nat × Operand)} {len n:Nat} {z:Value} {ps:List (Nat × Nat × V)} {cs:List V}
  (ho:o.op = .build t parts) (ht:P.underlying t=some (.array len e)) (hz:qbu P t=some z) (hn:qak P e=some n)
  (hps:PartsRep fid Γ (fun i=>some (i*n,n)) ps (parts.toList.map fun (i,x)=>(i,ρ x))) (h:qci ((qag z).map .dat) ps=some cs):Comes P fid Γ ρ o (qdd cs) Γ.σ:=by
 obtain⟨arr',h1,h2⟩:=qcJ hps (Reps_dat.2 (qav (qaV hz))) h
 refine .pure hr (x := .agg arr') ?_ (by have:=qb3 h2; simpa using this)
 simp only[execOp,ho,Instr.build,Sem.run_bind,qaA hz,Result.andThen_ok,qab ht,qan hn,Array.toList_map]
 rw[h1]
 simp
theorem qbL {α : Type} (l:List α) : ∀ n,(qbC n l).length=n*l.length
 | 0=>by simp[qbC]
 | n+1=>by simp[qbC,qbL l n,Nat.add_mul]; omega
theorem qd0 {α : Type} (l:List α) : ∀ (n j:Nat),j<n*l.length->(qbC n l)[j]?=l[j % l.length]?
 | 0,j,h=>by simp at h
 | n+1,j,h=>by
  simp only[qbC]
  by_cases hj:j<l.length
  ·rw[List.getElem?_append_left hj,Nat.mod_eq_of_lt hj]
  ·rw[List.getElem?_append_right (by omega),qd0 l n (j-l.length) (by rw[Nat.add_mul] at h; omega)]
   congr 1
   rw[<- Nat.mod_eq_sub_mod (by omega)]
theorem qbZ (zs:Array Value) (n:Nat) (hz:0<zs.size):((Array.range (n*zs.size)).map (zs[· % zs.size]!)).toList=qbC n zs.toList:=by
 apply List.ext_getElem?
 intro j
 by_cases hj:j<n*zs.size
 ·rw[qd0 _ _ _ (by simpa using hj)]
  simp[hj,Array.getElem!_eq_getD,Array.getD,Nat.mod_lt j hz]
 ·rw[List.getElem?_eq_none (by simp; omega),List.getElem?_eq_none (by rw[qbL]; simp; omega)]
theorem qbE {F:Nat->Nat} {w:World} {ds:List D} {xs:List Value} (h:RepDs F w ds xs) : ∀ n,RepDs F w (qbC n ds) (qbC n xs)
 | 0=>by simp[qbC,RepDs]
 | n+1=>RepDs_append.2 ⟨_,_,rfl,h,qbE h n⟩
theorem qfX (hr:Real fid Γ) {ds:List D} {arr:Array Value} (e:TypeId) (hd:RepDs Γ.F Γ.w ds arr.toList) (h1' : ∀ v∈arr.toList,v.oneCell'=true) (n cap:Nat) (full:Bool) (hc:n<=cap) (hf:full=true->cap=n) :
  ∃ Γ':Ctx,Γ'.σ = Γ.σ /\ Real fid Γ'/\Step Γ Γ' /\ Γ'.w = Γ.w.alloc (.cells arr e)/\Rep fid Γ' (.dat (.sl ds n full)) (.slice (some ⟨Γ.w.heap.size,0,none⟩) n cap):=by
 obtain⟨h1,h2⟩:=qiI hr arr e arr.size (Nat.le_refl _)
 refine⟨⟨Γ.σ,Γ.μ,grow Γ.F Γ.w.heap.size arr.size,Γ.w.alloc (.cells arr e)⟩,rfl,h1,h2,rfl,?_⟩
 simp only[Rep,RepD]
 refine⟨Γ.w.heap.size,0,cap,arr.toList,rfl,hc,hf,RepDs.ext h2.ext _ _ hd,fun i v hi=>?_,fun _=>by simp[grow],h1'⟩
 simp only[World.cell?,qad]
 simpa using hi
theorem fillV_one : ∀ {ps:List (Nat × Nat × V)} {cs r:List V},qci cs ps=some r->cs.all V.one=true->r.all V.one=true
 | [],cs,r,h,hc=>by simp only[qci,Option.some.injEq] at h; subst h; exact hc
 | (off,n,v)::ps,cs,r,h,hc=>by
  simp only[qci] at h
  split at h
  ·rename_i hcond
   refine fillV_one h ?_
   rw[List.all_eq_true] at hc ⊢
   intro x hx
   rcases List.mem_append.1 hx with hx | hx
   ·exact hc x (List.mem_of_mem_take hx)
   ·rcases List.mem_append.1 hx with hx | hx
    ·exact List.all_eq_true.1 hcond.2.2 x hx
    ·exact hc x (List.mem_of_mem_drop hx)
  ·cases h
theorem qfp {α : Type} {x : α} {l:List α} : ∀ {n:Nat},x∈qbC n l->x∈l
 | 0,h=>by simp[qbC] at h
 | n+1,h=>by
  simp only[qbC] at h
  rcases List.mem_append.1 h with h | h
  ·exact h
  ·exact qfp h
theorem qgS {z:Value} (h:qcg z=true) (n:Nat):((qbC n (qag z)).map V.dat).all V.one=true:=by
 rw[List.all_eq_true]
 intro x hx
 obtain⟨d,hd,rfl⟩:=List.mem_map.1 hx
 have:=qfp hd
 unfold qag at this
 obtain⟨v,hv,rfl⟩:=List.mem_map.1 this
 simp only[qcg,List.all_eq_true,Bool.and_eq_true] at h
 exact (h v hv).2
theorem qiQ (hr:Real fid Γ) {t e:TypeId} {parts:Array (Nat × Operand)} {len n:Nat} {z:Value} {ps:List (Nat × Nat × V)} {cs:List V} {ds:List D}
  (ho:o.op = .buildSlice t len parts) (ht:P.underlying t=some (.slice e)) (hz:qbu P e=some z) (hn:qak P e=some n) (hlen:len*n<=2 ^ 24) (hzn:z.cells.size=n) (h0:0<n)
  (hps:PartsRep fid Γ (fun i=>some (i*n,n)) ps (parts.toList.map fun (i,x)=>(i,ρ x))) (h:qci ((qbC len (qag z)).map .dat) ps=some cs) (hd:qaN cs=some ds) :
  Comes P fid Γ ρ o (.dat (.sl ds len true)) Γ.σ:=by
 have hzero:Reps fid Γ ((qbC len (qag z)).map .dat) ((Array.range (len*n)).map (z.cells[· % z.cells.size]!)).toList:=by
  subst hzn
  rw[qbZ _ _ h0]
  exact Reps_dat.2 (qbE (qav (qaV hz)) len)
 obtain⟨arr',h1,h2⟩:=qcJ hps hzero h
 have:=qbN hd
 subst this
 obtain⟨Γ',k1,k2,k3,k4,k5⟩:=qfX hr e (Reps_dat.1 h2) (qbB h2 (fillV_one h (qgS (qaV hz) len))) len len true (Nat.le_refl _) (fun _=>rfl)
 refine⟨Γ',_,k1,k2,k3,k5,.inl ?_⟩
 rw[k4]
 simp only[execOp,ho,Instr.buildSlice,Sem.run_bind,qab ht,Result.andThen_ok,qan hn,if_neg (show ¬ len*n > 2 ^ 24 by omega)]
 by_cases hl:len*n=0
 ·simp only[hl,if_true,Sem.run_bind,Result.andThen_ok,Sem.run_pure]
  have e0 : ∀ f:Nat->Value,Array.map f (Array.range 0) = #[]:=fun f=>by simp
  rw[hl,e0] at h1
  rw[Array.toList_map,e0,h1]
  simp[newRow]
 ·simp only[hl,if_false,Sem.run_bind,qaA hz,Result.andThen_ok,Sem.run_pure]
  rw[Array.toList_map,h1]
  simp[newRow]
theorem qdS : ∀ {ps:List (Nat × Nat × V)} {cs r:List V},qci cs ps=some r->r.length=cs.length
 | [],cs,r,h=>by simp only[qci,Option.some.injEq] at h; subst h; rfl
 | (off,n,v)::ps,cs,r,h=>by
  simp only[qci] at h
  split at h
  ·rename_i hcond
   rw[qdS h]
   simp only[List.length_append,List.length_take,List.length_drop,hcond.1]
   have:=hcond.2.1
   omega
  ·cases h
theorem qh8 (hr:Real fid Γ) {t e:TypeId} {parts:Array (Nat × Operand)} {len n:Nat} {z:Value} {ps:List (Nat × Nat × V)} {cs:List V} {ds:List D}
  (ho:o.op = .buildSlice t len parts) (ht:P.underlying t=some (.slice e)) (hz:qbu P e=some z) (hn:qak P e=some n) (hlen:len*n<=2 ^ 24) (hzn:z.cells.size=n) (h0:0<n)
  (hps:PartsRep fid Γ (fun i=>some (i*n,n)) ps (parts.toList.map fun (i,x)=>(i,ρ x))) (h:qci ((qbC len (qag z)).map .dat) ps=some cs) (hd:qaN cs=some ds) :
  Comes P fid Γ ρ o (.own Γ.σ.length len n) (Γ.σ ++ [.vec cs]):=by
 have hzero:Reps fid Γ ((qbC len (qag z)).map .dat) ((Array.range (len*n)).map (z.cells[· % z.cells.size]!)).toList:=by
  subst hzn
  rw[qbZ _ _ h0]
  exact Reps_dat.2 (qbE (qav (qaV hz)) len)
 obtain⟨arr',h1,h2⟩:=qcJ hps hzero h
 have hone:=qbB h2 (fillV_one h (qgS (qaV hz) len))
 have hlen2:arr'.toList.length=cs.length:=Reps.length h2
 have hcl:cs.length=len*n:=by
  rw[qdS h,List.length_map,qbL]
  unfold qag
  rw[List.length_map,Array.length_toList,hzn]
 have hsz:arr'.size=cs.length:=by rw[<- hlen2,Array.length_toList]
 obtain⟨k1,k2⟩:=qbi hr (.vec cs) (.cells arr' e) 0
  (fun Γ' e' hx'=>by
   subst e'
   simp only[RepOb,grow,if_pos]
   have htk:arr'.toList.take cs.length=arr'.toList:=List.take_of_length_le (by omega)
   refine⟨trivial,_,e,qad _ _,by rw[hsz]; exact Nat.le_refl _,?_,?_⟩
   ·rw[htk]; exact Reps.ext hx' _ _ h2
   ·rw[htk]; exact hone) (fun h=>absurd h (Nat.lt_irrefl _))
 have hrun:(execOp ρ o).run P Γ.w = .ok (.value (.slice (some ⟨Γ.w.heap.size,0,none⟩) len len)) (Γ.w.alloc (.cells arr' e)):=by
  simp only[execOp,ho,Instr.buildSlice,Sem.run_bind,qab ht,Result.andThen_ok,qan hn,if_neg (show ¬ len*n > 2 ^ 24 by omega)]
  by_cases hl:len*n=0
  ·simp only[hl,if_true,Sem.run_bind,Result.andThen_ok,Sem.run_pure]
   have e0 : ∀ f:Nat->Value,Array.map f (Array.range 0) = #[]:=fun f=>by simp
   rw[hl,e0] at h1
   rw[Array.toList_map,e0,h1]
   simp[newRow]
  ·simp only[hl,if_false,Sem.run_bind,qaA hz,Result.andThen_ok,Sem.run_pure]
   rw[Array.toList_map,h1]
   simp[newRow]
 refine⟨_,.slice (some ⟨Γ.w.heap.size,0,none⟩) len len,rfl,k1,k2,?_,.inl hrun⟩
 simp only[Rep]
 refine⟨_,_,rfl,Nat.le_refl _,h0,⟨.vec cs,by simp,rfl⟩,fun ob cs' q1 q2=>?_⟩
 have:ob = .vec cs:=by simpa using q1.symm
 subst this
 simp only[Ob.rows,Option.some.injEq] at q2; subst q2
 refine⟨by rw[hcl]; exact Nat.le_refl _,fun _=>⟨Γ.w.heap.size,_,e,by simp[bind],rfl,qad _ _,?_⟩⟩
 rw[hsz,hcl]; exact Nat.le_refl _
theorem qh9 (hr:Real fid Γ) {t e:TypeId} {x y:Operand} {k k':IntKind} {l c:Int} {n b:Nat} {z:Value} (ho:o.op = .makeSlice t x y) (ht:P.underlying t=some (.slice e)) (hz:qbu P e=some z) (hn:qak P e=some n) (hb:qcB P e=some b)
  (hzn:z.cells.size=n) (h0:0<n) (hx:Rep fid Γ (.dat (.lit (.int k l))) (ρ x)) (hy:Rep fid Γ (.dat (.lit (.int k' c))) (ρ y)) (hc:0<=l/\l<=c/\c<=2 ^ 40/\b*c<=2 ^ 48) :
  Comes P fid Γ ρ o (.msl Γ.σ.length 0 l.toNat c.toNat (qag z).length) (Γ.σ ++ [.cells ((qbC c.toNat (qag z)).map .dat)]) /\
  Comes P fid Γ ρ o (.own Γ.σ.length l.toNat (qag z).length) (Γ.σ ++ [.vec ((qbC l.toNat (qag z)).map .dat)]):=by
 have hzl:(qag z).length=n:=by simp[qag,hzn]
 have hzero:Reps fid Γ ((qbC c.toNat (qag z)).map .dat) ((Array.range (c.toNat*n)).map (z.cells[· % z.cells.size]!)).toList:=by
  subst hzn
  rw[qbZ _ _ h0]
  exact Reps_dat.2 (qbE (qav (qaV hz)) c.toNat)
 obtain⟨i,hi,hib⟩ : ∃ i,P.info? e=some i/\i.bytes=b:=by
  unfold qcB at hb
  cases hi:P.info? e with
  | none=>rw[hi] at hb; cases hb
  | some i=>rw[hi] at hb; simp at hb; exact⟨i,rfl,hb⟩
 obtain⟨h1,h2⟩:=qbi hr (.cells ((qbC c.toNat (qag z)).map .dat)) (.cells ((Array.range (c.toNat*n)).map (z.cells[· % z.cells.size]!)) e) 0
  (fun Γ' e' hx'=>by
   subst e'
   simp only[RepOb,grow,if_pos]
   refine⟨trivial,_,e,qad _ _,?_⟩
   rw[Reps_dat] at hzero ⊢
   subst hzn
   rw[qbZ _ _ h0]
   exact qbE (qav (qaV hz)) c.toNat) (fun h=>absurd h (Nat.lt_irrefl _))
 have hrun:(execOp ρ o).run P Γ.w = .ok (.value (.slice (some ⟨Γ.w.heap.size,0,none⟩) l.toNat c.toNat)) (Γ.w.alloc (.cells ((Array.range (c.toNat*n)).map (z.cells[· % z.cells.size]!)) e)):=by
  have w1:IntKind.i64.wrap l=l:=by rw[IntKind.wrap_i64]; omega
  have w2:IntKind.i64.wrap c=c:=by rw[IntKind.wrap_i64]; omega
  simp only[execOp,ho,(qaf hx).1,(qaf hy).1,Instr.makeSlice,Sem.run_bind,qab ht,Result.andThen_ok,asInt,Sem.run_pure,qaQ hi,w1,w2,hib]
  have c1 : ¬ (c<0):=by omega
  have c2 : ¬ ((b:Int)*c > 2 ^ 48):=by omega
  have c3 : ¬ (l<0):=by omega
  have c4 : ¬ (l > c):=by omega
  simp only[asIntOf,Sem.run_pure,Result.andThen_ok,w1,w2,c1,c2,c3,c4,decide_false,Bool.or_false,Bool.false_or,Bool.false_eq_true,if_false,or_false,Sem.run_bind,run_askRoom,Result.andThen_ok,qan hn]
  by_cases hl:c.toNat*n=0
  ·simp only[hl,if_true,Sem.run_bind,Result.andThen_ok,Sem.run_pure]
   have e0 : ∀ f:Nat->Value,Array.map f (Array.range 0) = #[]:=fun f=>by simp
   rw[e0,e0]
   simp[newRow]
  ·simp only[hl,if_false,Sem.run_bind,qaA hz,Result.andThen_ok,Sem.run_pure]
   simp[newRow]
 refine⟨⟨_,_,rfl,h1,h2,?_,.inl hrun⟩,?_⟩
 ·simp only[Rep]
  exact⟨Γ.w.heap.size,by simp[bind],rfl,by omega,⟨.cells ((qbC c.toNat (qag z)).map .dat),by simp,rfl⟩⟩
 ·have hle:l.toNat*n<=c.toNat*n:=Nat.mul_le_mul_right _ (by omega)
  have hrl:((qbC l.toNat (qag z)).map V.dat).length=l.toNat*n:=by rw[List.length_map,qbL,hzl]
  have hsz:((Array.range (c.toNat*n)).map (z.cells[· % z.cells.size]!)).size=c.toNat*n:=by simp
  have hl':((Array.range (c.toNat*n)).map (z.cells[· % z.cells.size]!)).toList=qbC c.toNat z.cells.toList:=by subst hzn; rw[qbZ _ _ h0]
  have htake:(qbC c.toNat z.cells.toList).take (l.toNat*n)=qbC l.toNat z.cells.toList:=by
   have hz':z.cells.toList.length=n:=by simpa using hzn
   apply List.ext_getElem?
   intro j
   by_cases hj:j<l.toNat*n
   ·rw[List.getElem?_take_of_lt hj,qd0 _ _ _ (by rw[hz']; omega),qd0 _ _ _ (by rw[hz']; omega)]
   ·rw[List.getElem?_take,if_neg hj,List.getElem?_eq_none (by rw[qbL,hz']; omega)]
  obtain⟨h1,h2⟩:=qbi hr (.vec ((qbC l.toNat (qag z)).map .dat)) (.cells ((Array.range (c.toNat*n)).map (z.cells[· % z.cells.size]!)) e) 0
   (fun Γ' e' hx'=>by
    subst e'
    simp only[RepOb,grow,if_pos]
    refine⟨trivial,_,e,qad _ _,by rw[hrl,hsz]; exact hle,?_,?_⟩
    ·rw[hrl,hl',htake]
     exact Reps_dat.2 (qbE (qav (qaV hz)) l.toNat)
    ·rw[hrl,hl',htake]
     intro v hv
     have:=qfp hv
     have hok:=qaV hz
     simp only[qcg,List.all_eq_true,Bool.and_eq_true] at hok
     exact (hok v this).2) (fun h=>absurd h (Nat.lt_irrefl _))
  refine⟨_,.slice (some ⟨Γ.w.heap.size,0,none⟩) l.toNat c.toNat,rfl,h1,h2,?_,.inl hrun⟩
  simp only[Rep]
  refine⟨_,_,rfl,by omega,by rw[hzl]; exact h0,⟨.vec ((qbC l.toNat (qag z)).map .dat),by simp,rfl⟩,fun ob cs k1 k2=>?_⟩
  have:ob = .vec ((qbC l.toNat (qag z)).map .dat):=by simpa using k1.symm
  subst this
  simp only[Ob.rows,Option.some.injEq] at k2; subst k2
  refine⟨by rw[hrl,hzl]; exact Nat.le_refl _,fun _=>⟨Γ.w.heap.size,_,e,by simp[bind],rfl,qad _ _,?_⟩⟩
  rw[hzl,hsz]; exact Nat.le_refl _
theorem qcK {kd:KD} {kt:TypeId} (hk:kdT P kt=some kd) {a b:Value} {r:Bool} (h:qb9 kd a b=some r) : ∃ d,P.underlying kt=some d/\Instr.sameNow d a b=some r:=by
 unfold kdT at hk
 split at hk
 ·rename_i hu; cases hk
  refine⟨_,hu,?_⟩
  cases a<;>cases b<;>simp_all [qb9,Instr.sameNow]
 ·rename_i hu; cases hk
  refine⟨_,hu,?_⟩
  cases a<;>cases b<;>simp_all [qb9,Instr.sameNow]
 ·rename_i hu; cases hk
  refine⟨_,hu,?_⟩
  cases a<;>cases b<;>simp_all [qb9,Instr.sameNow]
 ·cases hk
theorem qcu {kd:KD} {kt:TypeId} (hk:kdT P kt=some kd) (e:Bool) (n:Nat) (key:Value) (w:World):(Instr.checkKey e (n+1) kt key).run P w = .ok () w:=by
 unfold kdT at hk
 split at hk
 ·rename_i hu; simp only[Instr.checkKey,Sem.run_bind,qab hu,Result.andThen_ok]; rfl
 ·rename_i hu; simp only[Instr.checkKey,Sem.run_bind,qab hu,Result.andThen_ok]; rfl
 ·rename_i hu; simp only[Instr.checkKey,Sem.run_bind,qab hu,Result.andThen_ok]; rfl
 ·cases hk
theorem qgT {kd:KD} {kt:TypeId} (hk:kdT P kt=some kd) : ∃ d,P.underlying kt=some d:=by
 unfold kdT at hk
 split at hk
 ·rename_i hu; exact⟨_,hu⟩
 ·rename_i hu; exact⟨_,hu⟩
 ·rename_i hu; exact⟨_,hu⟩
 ·cases hk
theorem qeP {kd:KD} {kt:TypeId} {d:TypeDesc} (hk:kdT P kt=some kd) (hu:P.underlying kt=some d) {key:Value} : ∀ {es:List (Value × V)} {xs:List MapEntry} {r:Option V} (i:Nat),RepE fid Γ es xs->qhc kd key es=some r ->
  (r=none/\Instr.findNow d key xs i=some none) \/ ∃ u j x,r=some u/\Instr.findNow d key xs i=some (some (i+j,x))/\Rep fid Γ u x/\j<xs.length
 | [],xs,r,i,hx,h=>by
  simp only[qhc,Option.some.injEq] at h; subst h
  simp only[RepE] at hx; subst hx
  exact .inl ⟨rfl,rfl⟩
 | (k,v)::es,xs,r,i,hx,h=>by
  simp only[RepE] at hx
  obtain⟨e,xs',rfl,h1,h2,h3⟩:=hx
  simp only[qhc] at h
  split at h
  ·rename_i hs
   cases h
   obtain⟨d',hd,hs'⟩:=qcK hk hs
   rw[hu] at hd; cases hd
   refine .inr ⟨v,0,e.val,rfl,?_,h2,by simp⟩
   simp only[Instr.findNow,h1,hs',Nat.add_zero]
  ·rename_i hs
   obtain⟨d',hd,hs'⟩:=qcK hk hs
   rw[hu] at hd; cases hd
   rcases qeP hk hu (i+1) h3 h with ⟨rfl,h4⟩ | ⟨u,j,x,rfl,h4,h5,h6⟩
   ·exact .inl ⟨rfl,by simp only[Instr.findNow,h1,hs',h4]⟩
   ·exact .inr ⟨u,j+1,x,rfl,by simp only[Instr.findNow,h1,hs',h4]; congr 3; omega,h5,by simp; omega⟩
  ·cases h
theorem qgU (hr:Real fid Γ) {t kt e:TypeId} {kd:KD} {m k:Operand} {ok:Bool} {l:Nat} {key z:Value} {es:List (Value × V)} {r:Option V} (ho:o.op = .lookup t m k ok)
  (ht:P.underlying t=some (.map kt e)) (hk:kdT P kt=some kd) (hz:qbu P e=some z) (hm:Rep fid Γ (.mp l) (ρ m)) (hkey:Rep fid Γ (.dat (.lit key)) (ρ k)) (hes : Γ.σ[l]?=some (.map es)) (h:qhc kd key es=some r) :
  Comes P fid Γ ρ o (match r with | some u=>if ok then .tup [u,.bool true] else u | none=>if ok then .tup [.dat (toD z),.bool false] else .dat (toD z)) Γ.σ:=by
 simp only[Rep] at hm
 obtain⟨b,hb,hmx,_⟩:=hm
 obtain⟨hF,ents,clock,h1,h2⟩:=hr.obs l _ b hes hb
 obtain⟨d,hu⟩:=qgT hk
 have hrun : ∀ x,(Instr.findKey kt key ents.toList).run P Γ.w = .ok x Γ.w->(Instr.lookup t (.map (some b)) key ok).run P Γ.w=(match x with
   | some (_,v)=>Result.ok (if ok then .tuple #[v,.bool true] else v) Γ.w
   | none=>Result.ok (if ok then .tuple #[z,.bool false] else z) Γ.w):=fun x hx=>by
  simp only[Instr.lookup,Sem.run_bind,qab ht,Result.andThen_ok,getObj,Sem.run,h1,Sem.run_pure,qcu hk,hx]
  cases x with
  | none=>simp[qaA hz]
  | some p=>simp
 have hfk : ∀ x,Instr.findNow d key ents.toList 0=some x->(Instr.findKey kt key ents.toList).run P Γ.w = .ok x Γ.w:=fun x hx=>by
  simp only[Instr.findKey,Sem.run_bind,qab hu,Result.andThen_ok,hx]
  rfl
 rcases qeP hk hu 0 h2 h with ⟨rfl,h4⟩ | ⟨u,j,x,rfl,h4,h5,_⟩
 ·refine .pure hr (x:=if ok then .tuple #[z,.bool false] else z) ?_ ?_
  ·simp only[execOp,ho,hmx,(qaf hkey).1,Sem.run_bind,hrun _ (hfk _ h4),Result.andThen_ok,Sem.run_pure]
  ·cases ok
   ·simpa [Rep] using qg3 (qaV hz)
   ·simp only[if_true,Rep]
    exact⟨[z,.bool false],rfl,z,_,rfl,by simpa [Rep] using qg3 (qaV hz),_,_,rfl,qb1 rfl,rfl⟩
 ·refine .pure hr (x:=if ok then .tuple #[x,.bool true] else x) ?_ ?_
  ·simp only[execOp,ho,hmx,(qaf hkey).1,Sem.run_bind,hrun _ (hfk _ h4),Result.andThen_ok,Sem.run_pure]
  ·cases ok
   ·simpa using h5
   ·simp only[if_true,Rep]
    exact⟨[x,.bool true],rfl,x,_,rfl,h5,_,_,rfl,qb1 rfl,rfl⟩
theorem set_sound {kd:KD} {kt:TypeId} {d:TypeDesc} (hk:kdT P kt=some kd) (hu:P.underlying kt=some d) {key:Value} {u:V} {x:Value} (hx:Rep fid Γ u x) : ∀ {es es':List (Value × V)} {xs:List MapEntry} (i clock:Nat),RepE fid Γ es xs->qkm kd key u es=some es' ->
  (Instr.findNow d key xs i=some none/\RepE fid Γ es' (xs++[⟨key,x,clock⟩])) \/ ∃ j y old,Instr.findNow d key xs i=some (some (i+j,y))/\xs[j]?=some old/\qb9 kd key old.key=some true /\
   ∀ f:MapEntry->MapEntry,(∀ e,(f e).key=key/\(f e).val=x)->RepE fid Γ es' (xs.modify j f)
 | [],es',xs,i,clock,hxs,h=>by
  simp only[qkm,Option.some.injEq] at h; subst h
  simp only[RepE] at hxs; subst hxs
  exact .inl ⟨rfl,⟨key,x,clock⟩,[],rfl,rfl,hx,rfl⟩
 | (k,v)::es,es',xs,i,clock,hxs,h=>by
  simp only[RepE] at hxs
  obtain⟨e,xs',rfl,h1,h2,h3⟩:=hxs
  simp only[qkm] at h
  split at h
  ·rename_i hs
   cases h
   obtain⟨d',hd,hs'⟩:=qcK hk hs
   rw[hu] at hd; cases hd
   refine .inr ⟨0,e.val,e,?_,by simp,by rw[h1]; exact hs,fun f hf=>?_⟩
   ·simp only[Instr.findNow,h1,hs',Nat.add_zero]
   ·rw[List.modify_zero_cons]
    simp only[RepE]
    exact⟨f e,xs',rfl,(hf e).1,by rw[(hf e).2]; exact hx,h3⟩
  ·rename_i hs
   obtain⟨d',hd,hs'⟩:=qcK hk hs
   rw[hu] at hd; cases hd
   split at h
   ·rename_i r' hr'
    cases h
    rcases set_sound hk hu hx (i+1) clock h3 hr' with ⟨h4,h5⟩ | ⟨j,y,old,h4,h5,h6,h7⟩
    ·refine .inl ⟨by simp only[Instr.findNow,h1,hs',h4],?_⟩
     simp only[List.cons_append,RepE]
     exact⟨e,_,rfl,h1,h2,h5⟩
    ·refine .inr ⟨j+1,y,old,by simp only[Instr.findNow,h1,hs',h4]; congr 3; omega,by simpa using h5,h6,fun f hf=>?_⟩
     rw[List.modify_succ_cons]
     simp only[RepE]
     exact⟨e,_,rfl,h1,h2,h7 f hf⟩
   ·cases h
  ·cases h
theorem qia (x y:ByteArray):(x==y)=decide (x=y):=by
 have h:(x==y)=(x.data==y.data):=rfl
 rw[h,Bool.eq_iff_iff]
 simp only[beq_iff_eq,decide_eq_true_eq]
 exact⟨fun h=>by cases x; cases y; simp only at h; rw[h],fun h=>by rw[h]⟩
theorem qgp {kd:KD} {a b:Value} (h:qb9 kd a b=some true) (n:Nat):Instr.sameBits n b a=true:=by
 cases kd<;>cases a<;>cases b<;>simp_all [qb9,Instr.sameBits]
 simp only[qia,decide_eq_true_eq] at h ⊢
 exact h.symm
theorem qgV (hr:Real fid Γ) {t kt e:TypeId} {kd:KD} {m k x:Operand} {l:Nat} {key:Value} {u:V} {es es':List (Value × V)} (ho:o.op = .mapUpdate t m k x\/o.op = .insert t m k x)
  (ht:P.underlying t=some (.map kt e)) (hk:kdT P kt=some kd) (hm:Rep fid Γ (.mp l) (ρ m)) (hkey:Rep fid Γ (.dat (.lit key)) (ρ k)) (hx:Rep fid Γ u (ρ x)) (hes : Γ.σ[l]?=some (.map es)) (h:qkm kd key u es=some es') :
  Comes P fid Γ ρ o (.dat (.lit undef)) (Γ.σ.set l (.map es')):=by
 simp only[Rep] at hm
 obtain⟨b,hb,hmx,_⟩:=hm
 obtain⟨hF,ents,clock,h1,h2⟩:=hr.obs l _ b hes hb
 obtain⟨d,hu⟩:=qgT hk
 have hfk : ∀ x,Instr.findNow d key ents.toList 0=some x->(Instr.findKey kt key ents.toList).run P Γ.w = .ok x Γ.w:=fun x hx=>by
  simp only[Instr.findKey,Sem.run_bind,qab hu,Result.andThen_ok,hx]
  rfl
 have hblt:=qbv h1
 have fin : ∀ ents' clock',(Instr.mapUpdate t (.map (some b)) key (ρ x)).run P Γ.w = .ok () { Γ.w with heap := Γ.w.heap.setIfInBounds b (.map ents' clock') }->RepE fid Γ es' ents'.toList ->
   Comes P fid Γ ρ o (.dat (.lit undef)) (Γ.σ.set l (.map es')):=fun ents' clock' hrun hrep=>by
  obtain⟨u1,u2⟩:=upd hr hes rfl (ob' := .map es') rfl hb (w':={ Γ.w with heap := Γ.w.heap.setIfInBounds b (.map ents' clock') })
   ⟨rfl,rfl,rfl,by simp,fun k hk=>by simp[Array.getElem?_setIfInBounds_ne (Ne.symm hk)]⟩ (fun hx=>by
    simp only[RepOb]
    exact⟨hF,ents',clock',by simp[hblt],RepE.ext hx _ _ hrep⟩)
  refine⟨_,undef,rfl,u1,u2,qb1 rfl,.inr ⟨?_,rfl⟩⟩
  rcases ho with ho | ho<;>simp only[execOp,ho,hmx,(qaf hkey).1,Sem.run_bind,hrun,Result.andThen_ok,Sem.run_pure]
 rcases set_sound hk hu hx 0 clock h2 h with ⟨h4,h5⟩ | ⟨j,y,old,h4,h5,h6,h7⟩
 ·refine fin (ents.push ⟨key,ρ x,clock⟩) (clock+1) ?_ (by simpa using h5)
  simp only[Instr.mapUpdate,Sem.run_bind,qab ht,Result.andThen_ok,getObj,Sem.run,h1,qcu hk,hfk _ h4,setObj]
 ·refine fin (ents.modify j fun e=>{ e with key,val := ρ x }) clock ?_ (by
   have:=h7 (fun e=>{ e with key,val := ρ x }) (fun e=>⟨rfl,rfl⟩)
   rw[Array.toList_modify]; exact this)
  have hold:ents[j]?=some old:=by simpa using h5
  simp only[Instr.mapUpdate,Sem.run_bind,qab ht,Result.andThen_ok,getObj,Sem.run,h1,qcu hk,hfk _ h4,setObj,Nat.zero_add,hold,Option.map_some,Option.getD_some,Instr.keyThatStays,qgp h6,if_true,Sem.run_pure]
end
end Go.Pm
end SI
section SJ
namespace Go.Pm
variable {P:Program} {ids:Ids} {fid:Fid} {N:Nat}
section
variable {Γ : Ctx} {fr:Fr} {ρ : Operand->Value} {o:Oper} {v:V} {σ':S} {C:Task->Option Res}
theorem qfS (newLen:Nat) : ∀ (r c:Nat),c<newLen->Builtin.growBy newLen r c<=2*newLen+192
 | 0,c,h=>by simp only[Builtin.growBy]; omega
 | r+1,c,h=>by
  simp only[Builtin.growBy]
  rw[if_neg (by omega)]
  by_cases h2:c+(c+768) / 4<newLen
  ·exact qfS newLen r _ h2
  ·cases r with
   | zero=>simp only[Builtin.growBy]; omega
   | succ r=>simp only[Builtin.growBy]; rw[if_pos (by omega)]; omega
theorem qee {need cap:Nat} (h:cap<need):Builtin.nextslicecap need cap<=2*need+192:=by
 unfold Builtin.nextslicecap
 split
 ·omega
 ·split
  ·omega
  ·exact qfS _ _ _ h
theorem qeM (F:Nat->Nat) (w:World) (s:ByteArray):RepDs F w (qcO s) (s.data.toList.map fun c=>Value.int .u8 c.toNat):=by
 have:qcO s=(s.data.toList.map fun c=>Value.int .u8 c.toNat).map .lit:=by simp[qcO]
 rw[this]
 exact qcz fun v hv=>by obtain⟨c,_,rfl⟩:=List.mem_map.1 hv; rfl
theorem qbP (sz:Nat) (s:ByteArray) (w:World):(Builtin.firstCells sz s.size (.string s)).run P w = .ok (s.data.toList.map fun c=>Value.int .u8 c.toNat).toArray w:=by
 simp only[Builtin.firstCells,ByteArray.extract_zero_size,Sem.run_pure]
 congr 1
 apply Array.ext'
 simp
theorem qhY {u:V} {x:Value} {xs:List D} {m sz:Nat} (hu:Rep fid Γ u x) (h:qiD u=some (xs,m)) (hl:xs.length=m*sz) :
  ∃ vs,RepDs Γ.F Γ.w xs vs/\(∀ v∈vs,v.oneCell'=true)/\(∀ w',(Builtin.lenOf x).run P w' = .ok m w') /\
   ∀ w':World,(∀ b i,w'.cell? ⟨b,i,none⟩ = Γ.w.cell? ⟨b,i,none⟩)->(Builtin.firstCells sz m x).run P w' = .ok vs.toArray w':=by
 unfold qiD at h
 split at h
 ·rename_i a
  cases h
  rw[(qaf hu).1]
  refine⟨[],by simp[RepDs],by simp,fun w'=>by simp[Builtin.lenOf],fun w' _=>?_⟩
  cases a with
  | none=>simp[Builtin.firstCells]
  | some a=>simp[Builtin.firstCells,loadCells,loadCellsFrom]
 ·cases h
  simp only[Rep,RepD] at hu
  obtain⟨b,o',cap,vs,rfl,_,_,h3,h4⟩:=hu
  refine⟨vs,h3,h4.2.2,fun w'=>by simp[Builtin.lenOf],fun w' hw=>?_⟩
  have:=qau (P:=P) (w:=w') (b:=b) (o:=o') (vs:=vs) (fun j v hj=>by rw[hw]; exact h4.1 j v hj)
  rw[h3.length,hl] at this
  simp only[Builtin.firstCells,this]
 ·cases h
  simp only[Rep] at hu
  obtain⟨b,cap,vs,k,rfl,_,h3,h4,_⟩:=hu
  refine⟨vs,h3,h4.2.2,fun w'=>by simp[Builtin.lenOf],fun w' hw=>?_⟩
  have:=qau (P:=P) (w:=w') (b:=b) (o:=0) (vs:=vs) (fun j v hj=>by rw[hw]; exact h4.1 j v hj)
  rw[h3.length,hl] at this
  simp only[Builtin.firstCells,this]
 ·rename_i s
  cases h
  rw[(qaf hu).1]
  exact⟨_,qeM _ _ s,fun v hv=>by obtain⟨c,_,rfl⟩:=List.mem_map.1 hv; rfl,fun w'=>by simp[Builtin.lenOf],fun w' _=>qbP sz s w'⟩
 ·cases h
section
variable {ts tx e ex:TypeId} {s x:Operand} {c:Call} {sz bytes:Nat} {z:Value}
theorem qef (hts:P.underlying ts=some (.slice e)) (htx:(∃ ex,P.underlying tx=some (.slice ex))\/P.underlying tx=some .string) (hsz:qak P e=some sz) (hby:qcB P e=some bytes) (hz:qbu P e=some z)
  {base:Option Addr} {sLen sCap m:Nat} {X:Value} {olds news:List Value} {w:World} (hlen : ∀ w',(Builtin.lenOf X).run P w' = .ok m w')
  (hgt:sCap<sLen+m) (hroom:qas (sLen+m) bytes=true)
  (hold : ∀ w':World,(∀ b i,w'.cell? ⟨b,i,none⟩=w.cell? ⟨b,i,none⟩)->(Builtin.firstCells sz sLen (.slice base sLen sCap)).run P w' = .ok olds.toArray w')
  (hnew : ∀ w':World,(∀ b i,w'.cell? ⟨b,i,none⟩=w.cell? ⟨b,i,none⟩)->(Builtin.firstCells sz m X).run P w' = .ok news.toArray w') :
  ∃ (cap:Nat) (rest:Array Value),sLen+m<=cap/\rest.size=(cap-(sLen+m))*z.cells.size /\
   (Builtin.append_ #[ts,tx] o.type #[.slice base sLen sCap,X]).run P w = .ok (.slice (some ⟨w.heap.size,0,none⟩) (sLen+m) cap) (w.drew.alloc (.cells ((olds++news).toArray++rest) e)):=by
 simp only[qas,decide_eq_true_eq] at hroom
 have hn:=qee hgt
 have h1:(2*(sLen+m)+192)*(bytes+1)=(2*(sLen+m)+192)*bytes+(2*(sLen+m)+192):=by rw[Nat.mul_add,Nat.mul_one]
 have h2:Builtin.nextslicecap (sLen+m) sCap*bytes<=(2*(sLen+m)+192)*bytes:=Nat.mul_le_mul_right _ hn
 have hmax:IntKind.max .i64=9223372036854775807:=by decide
 have hinfo : ∃ i,P.info? e=some i/\i.bytes=bytes:=by
  unfold qcB at hby
  cases hi:P.info? e with
  | none=>rw[hi] at hby; cases hby
  | some i=>rw[hi] at hby; simp at hby; exact⟨i,rfl,hby⟩
 obtain⟨i,hi,hib⟩:=hinfo
 refine⟨sLen+m+w.tape w.drawn (.appendCap (sLen+m) sCap e) % (2 ^ 63-(sLen+m)),Builtin.zeroCells z.cells (sLen+m+w.tape w.drawn (.appendCap (sLen+m) sCap e) % (2 ^ 63-(sLen+m))-(sLen+m)),by omega,by simp[Builtin.zeroCells],?_⟩
 rcases htx with ⟨ex,htx⟩ | htx
 all_goals
  simp only[Builtin.append_,List.getElem?_toArray,List.getElem?_cons_zero,List.getElem?_cons_succ,Sem.run_bind,qab hts,Result.andThen_ok,qan hsz,qab htx,Sem.run_pure,hlen,Bool.false_eq_true,if_false]
  rw[if_neg (by omega)]
  simp only[Sem.run_bind,qaQ hi,Result.andThen_ok,hib,false_or]
  rw[Sem.run_ite]
  have c1 : ¬ (((sLen+m:Nat):Int) > IntKind.i64.max/\bytes=0):=by
   rw[hmax]; intro h; have:=h.1; omega
  rw[if_neg c1]
  simp only[Sem.run_bind,qaQ hi,Result.andThen_ok,hib]
  rw[Sem.run_ite,if_neg (by omega)]
  simp only[Sem.run_bind,run_choose,Question.forced,Bool.false_eq_true,if_false,Question.cut,Result.andThen_ok,run_askRoom]
  simp only[qaQ hi,Result.andThen_ok,World.drew_eq]
  rw[hold w.drew (fun b i=>rfl)]
  simp only[Result.andThen_ok,if_true,Bool.not_false]
  rw[hnew w.drew (fun b i=>rfl)]
  simp only[Result.andThen_ok,qaA hz,newRow,Sem.run_bind,run_newObj,Sem.run_pure]
  simp
  rfl
theorem qcF (hts:P.underlying ts=some (.slice e)) (htx:(∃ ex,P.underlying tx=some (.slice ex))\/P.underlying tx=some .string) (hsz:qak P e=some sz)
  {base:Option Addr} {sLen sCap m:Nat} {X:Value} {news:List Value} {w w':World} (hlen:(Builtin.lenOf X).run P w = .ok m w)
  (hle:sLen+m<=sCap) (hnew:(Builtin.firstCells sz m X).run P w = .ok news.toArray w)
  (hst:(match base with | some a=>storeCells (a.add (sLen*sz)) news | none=>pure ()).run P w = .ok () w') :
  (Builtin.append_ #[ts,tx] o.type #[.slice base sLen sCap,X]).run P w = .ok (.slice base (sLen+m) sCap) w':=by
 rcases htx with ⟨ex,htx⟩ | htx
 all_goals
  simp only[Builtin.append_,List.getElem?_toArray,List.getElem?_cons_zero,List.getElem?_cons_succ,Sem.run_bind,qab hts,Result.andThen_ok,qan hsz,qab htx,Sem.run_pure,hlen,Bool.false_eq_true,if_false]
  rw[if_pos hle]
  simp only[Sem.run_bind,Bool.not_false,if_true,hnew,Result.andThen_ok]
  cases base with
  | none=>
   simp only[Sem.run_pure] at hst ⊢
   cases hst
   simp
  | some a=>
   simp only at hst ⊢
   simp only[Sem.run_bind,hst]
   simp
theorem qaS (ho:o.op = .call c) (hcal:c.callee = .builtin .append) (hargs:c.args.toList=[s,x]) (hts:c.argTypes.toList=[ts,tx]) {w w':World} {r:Value}
  (h:(Builtin.append_ #[ts,tx] o.type #[ρ s,ρ x]).run P w = .ok r w'):(execOp ρ o).run P w = .ok (.value r) w':=by
 have ha:c.args = #[s,x]:=by apply Array.ext'; simpa using hargs
 have hb:c.argTypes = #[ts,tx]:=by apply Array.ext'; simpa using hts
 simp only[execOp,ho,resolve,hcal,ha,hb,invoke,builtin,Sem.run_bind,Sem.run_pure,Result.andThen_ok]
 simp[h]
theorem qgQ (hr:Real fid Γ) (ho:o.op = .call c) (hcal:c.callee = .builtin .append) (hargs:c.args.toList=[s,x]) (hats:c.argTypes.toList=[ts,tx])
  (hts:P.underlying ts=some (.slice e)) (htx:(∃ ex,P.underlying tx=some (.slice ex))\/P.underlying tx=some .string) (hsz:qak P e=some sz) (hby:qcB P e=some bytes) (hz:qbu P e=some z) (hzn:z.cells.size=sz)
  {a b u:V} (ha:Rep fid Γ a (ρ s)) (hb:Rep fid Γ b (ρ x)) (h:qbS Γ.σ sz bytes a b=some (u,σ')):Comes P fid Γ ρ o u σ':=by
 unfold qbS at h
 split at h
 ·cases h
 ·rename_i xs m hsrc
  split at h
  ·rename_i hcond
   obtain⟨hxl,hsz0⟩:=hcond
   obtain⟨news,n1,n2,n3,n4⟩:=qhY (P:=P) hb hsrc hxl
   have hnl:news.length=m*sz:=by rw[n1.length,hxl]
   split at h
   ·-- nothing is appended
    rename_i hm
    subst hm
    have hnews:news=[]:=by
     apply List.eq_nil_of_length_eq_zero; rw[hnl]; simp
    have fin : ∀ base n cap,ρ s = .slice base n cap->n<=cap->(u=a /\ σ' = Γ.σ)->Comes P fid Γ ρ o u σ':=fun base n cap hs hle hu=>by
     obtain⟨rfl,rfl⟩:=hu
     refine .pure hr (x := ρ s) ?_ ha
     refine qaS ho hcal hargs hats ?_
     rw[hs]
     have:=qcF (P:=P) (o:=o) hts htx hsz (base:=base) (n3 Γ.w) (show n+0<=cap by omega) (n4 Γ.w fun _ _=>rfl) (w' := Γ.w) (by rw[hnews]; cases base<;>simp[storeCells])
     simpa using this
    split at h
    ·cases h
     exact fin _ _ _ (qaf ha).1 (Nat.le_refl _) ⟨rfl,rfl⟩
    ·cases h
     have ha':=ha
     simp only[Rep,RepD] at ha'
     obtain⟨b',o',cap,vs,hs,h2,_⟩:=ha'
     exact fin _ _ _ hs h2 ⟨rfl,rfl⟩
    ·cases h
     have ha':=ha
     simp only[Rep] at ha'
     obtain⟨b',cap,vs,k,hs,h2,_⟩:=ha'
     exact fin _ _ _ hs h2 ⟨rfl,rfl⟩
    ·cases h
   ·rename_i hm
    have fresh : ∀ {olds:List Value} {cs:List D} {base:Option Addr} {n cap:Nat},ρ s = .slice base n cap->cap<n+m->qas (n+m) bytes=true->RepDs Γ.F Γ.w cs olds->(∀ v∈olds,v.oneCell'=true)->cs.length=n*sz ->
      (∀ w':World,(∀ b i,w'.cell? ⟨b,i,none⟩ = Γ.w.cell? ⟨b,i,none⟩)->(Builtin.firstCells sz n (.slice base n cap)).run P w' = .ok olds.toArray w') ->
      ∃ (newCap:Nat) (rest:Array Value),n+m<=newCap/\(n+m)*sz+rest.size=newCap*sz/\(cs++xs).length=(n+m)*sz/\0<(n+m)*sz/\RepDs Γ.F Γ.w (cs++xs) (olds++news)/\(∀ v∈olds++news,v.oneCell'=true) /\
       (execOp ρ o).run P Γ.w = .ok (.value (.slice (some ⟨Γ.w.heap.size,0,none⟩) (n+m) newCap)) (Γ.w.drew.alloc (.cells ((olds++news).toArray++rest) e)):=by
     intro olds cs base n cap hs hlt hroom hd hone hcl hold
     obtain⟨newCap,rest,r1,r2,r3⟩:=qef (P:=P) (o:=o) hts htx hsz hby hz n3 hlt hroom hold n4
     refine⟨newCap,rest,r1,?_,?_,Nat.mul_pos (by omega) hsz0,RepDs_append.2 ⟨_,_,rfl,hd,n1⟩,?_,qaS ho hcal hargs hats (by rw[hs]; exact r3)⟩
     ·rw[r2,hzn,<- Nat.add_mul]; congr 1; omega
     ·rw[List.length_append,hcl,hxl,Nat.add_mul]
     ·intro v hv
      rcases List.mem_append.1 hv with hv | hv
      ·exact hone v hv
      ·exact n2 v hv
    obtain⟨d1,d2⟩:=qfj hr
    have grown : ∀ {Γ':Ctx} {olds:List Value} {cs:List D} {rest:Array Value} {n newCap l:Nat},Ext ⟨Γ.σ,Γ.μ,Γ.F,Γ.w.drew⟩ Γ' -> Γ'.w = Γ.w.drew.alloc (.cells ((olds++news).toArray++rest) e) -> Γ'.F Γ.w.heap.size=(cs++xs).length ->
      Γ'.σ[l]?=some (.tip (cs++xs).length) -> Γ'.μ l=some Γ.w.heap.size->n+m<=newCap->(n+m)*sz+rest.size=newCap*sz->(cs++xs).length=(n+m)*sz->0<(n+m)*sz->RepDs Γ.F Γ.w (cs++xs) (olds++news)->(∀ v∈olds++news,v.oneCell'=true) ->
      Rep fid Γ' (.gsl (cs++xs) (n+m) sz l) (.slice (some ⟨Γ.w.heap.size,0,none⟩) (n+m) newCap):=by
     intro Γ' olds cs rest n newCap l hx hw hF hσ hμ g1 g2 g3 g4 g5 g6
     have hlen:=g5.length
     simp only[Rep]
     refine⟨Γ.w.heap.size,newCap,olds++news,(cs++xs).length,rfl,g1,RepDs.ext hx _ _ (RepDs.ext d2.ext _ _ g5),⟨fun i v hi=>?_,fun _=>by rw[hF,hlen]; omega,g6⟩,?_,hσ,by simp[hμ],Nat.le_refl _,fun _=>⟨hμ,_,e,by rw[hw]; exact qad Γ.w.drew _,?_⟩⟩
     ·have hi':i<(olds++news).length:=(List.getElem?_eq_some_iff.1 hi).1
      simp only[World.cell?,hw]
      rw[show Γ.w.heap.size = Γ.w.drew.heap.size from rfl,qad]
      simp only[Option.isSome_none,Bool.false_eq_true,if_false,Nat.zero_add]
      rw[Array.getElem?_append_left (by simpa using hi')]
      simpa using hi
     ·intro h0
      rw[h0] at g3
      simp at g3
      omega
     ·simp only[Array.size_append,List.size_toArray,hlen,g3]
      omega
    split at h
    ·-- a nil slice
     split at h
     ·rename_i hroom
      cases h
      obtain⟨newCap,rest,f1,f2,f3,f4,f5,f6,f7⟩:=fresh (olds:=[]) (cs:=[]) (qaf ha).1 (show 0<0+m by omega) (by simpa using hroom) (by simp[RepDs]) (by simp) (by simp)
       (fun w' _=>by simp[Builtin.firstCells])
      obtain⟨k1,k2⟩:=qbi d1 (.tip xs.length) (.cells (([]++news).toArray++rest) e) xs.length
       (fun Γ' e' hx=>by subst e'; simp only[RepOb,grow,if_pos]; simp at f3; exact⟨trivial,by rw[f3]; simpa using f4⟩)
       (fun _=>⟨_,_,_,rfl,by simp[hnl,hxl]⟩)
      refine⟨_,_,rfl,k1,d2.trans k2,?_,.inl f7⟩
      have:=grown (cs:=[]) (olds:=[]) (rest:=rest) (n:=0) (newCap:=newCap) (l := Γ.σ.length) k2.ext rfl (by simp[grow]) (by simp) (by simp[bind]) f1 f2 f3 f4 f5 f6
      simpa using this
     ·cases h
    ·-- a full slice
     rename_i cs n
     split at h
     ·rename_i hcond
      obtain⟨hroom,hcl⟩:=hcond
      cases h
      have ha':=ha
      simp only[Rep,RepD] at ha'
      obtain⟨b',o',cap,olds,hs,h2,h3,h4,h5⟩:=ha'
      have hcap:=h3 trivial
      subst hcap
      obtain⟨newCap,rest,f1,f2,f3,f4,f5,f6,f7⟩:=fresh hs (show cap<cap+m by omega) hroom h4 h5.2.2 hcl (fun w' hw=>by
       have:=qau (P:=P) (w:=w') (b:=b') (o:=o') (vs:=olds) (fun j v hj=>by rw[hw]; exact h5.1 j v hj)
       rw[h4.length,hcl] at this
       simp only[Builtin.firstCells,this])
      obtain⟨k1,k2⟩:=qbi d1 (.tip (cs++xs).length) (.cells ((olds++news).toArray++rest) e) (cs++xs).length
       (fun Γ' e' hx=>by subst e'; simp only[RepOb,grow,if_pos]; exact⟨trivial,by rw[f3]; exact f4⟩)
       (fun _=>⟨_,_,_,rfl,by have:=f5.length; simp only[Array.size_append,List.size_toArray]; omega⟩)
      exact⟨_,_,rfl,k1,d2.trans k2,grown k2.ext rfl (by simp[grow]) (by simp) (by simp[bind]) f1 f2 f3 f4 f5 f6,.inl f7⟩
     ·cases h
    ·-- a row of the program's own
     rename_i cs n sz' l
     split at h
     ·rename_i k hk
      split at h
      ·rename_i hcond
       obtain⟨hroom,hcl,rfl,hkl⟩:=hcond
       cases h
       have ha':=ha
       simp only[Rep] at ha'
       obtain⟨b',cap,olds,m',hs,h2,h4,h5,h6,h7,h8,h9,h10⟩:=ha'
       rw[hk] at h7
       cases h7
       obtain⟨q1,arr,e',q2,q3⟩:=h10 hkl.symm
       subst hkl
       by_cases hfit:n+m<=cap
       ·-- it fits
        have hbd:(n+m)*sz'<=cap*sz':=Nat.mul_le_mul_right _ hfit
        rw[Nat.add_mul] at hbd
        obtain⟨w',s1,s2,arr',s3,s4⟩:=qa9 (P:=P) news 0 Γ.w b' (n*sz') arr e' q2 n2 (by rw[hnl]; omega)
        have hlen':arr'.size=arr.size:=by
         have:=congrArg List.length s4
         simp[hnl] at this
         omega
        obtain⟨k1,k2⟩:=qjI hr hk q1 (show cs.length<(cs++xs).length by rw[List.length_append,hxl]; have:=Nat.mul_pos (show 0<m by omega) hsz0; omega) s2 q2 s3 hlen'
         (by rw[List.length_append,hcl,hxl]; omega) (fun i hi=>by
          rw[<- Array.getElem?_toList,<- Array.getElem?_toList,s4,List.getElem?_append_left (by simp; omega),List.getElem?_take_of_lt (by omega)])
        refine⟨_,.slice (some ⟨b',0,none⟩) (n+m) cap,rfl,k1,k2,?_,.inl (qaS ho hcal hargs hats ?_)⟩
        ·simp only[Rep]
         have holdlen:=h4.length
         refine⟨b',cap,olds++news,(cs++xs).length,rfl,hfit,RepDs.ext k2.ext _ _ (RepDs_append.2 ⟨_,_,rfl,h4,n1⟩),⟨fun i v hi=>?_,fun _=>?_,?_⟩,?_,?_,?_,Nat.le_refl _,fun _=>⟨q1,arr',e',s3,by omega⟩⟩
         ·simp only[World.cell?,s3,Option.isSome_none,Bool.false_eq_true,if_false,Nat.zero_add]
          rw[<- Array.getElem?_toList,s4]
          by_cases hi':i<olds.length
          ·rw[List.getElem?_append_left hi'] at hi
           rw[List.getElem?_append_left (by simp; omega),List.getElem?_take_of_lt (by omega)]
           have:=h5.1 i v hi
           simpa [World.cell?,q2] using this
          ·rw[List.getElem?_append_right (by omega)] at hi
           have hi2:i-olds.length<news.length:=(List.getElem?_eq_some_iff.1 hi).1
           rw[List.getElem?_append_right (by simp; omega),List.getElem?_append_left (by simp; omega)]
           rw[<- hi]; congr 1; simp; omega
         ·simp[grow,holdlen,n1.length]
         ·intro v hv
          rcases List.mem_append.1 hv with hv | hv
          ·exact h5.2.2 v hv
          ·exact n2 v hv
         ·simp[h6]
         ·simp only[List.getElem?_set_self (List.getElem?_eq_some_iff.1 hk).1]
         ·simp[q1]
        ·rw[hs]
         refine qcF (P:=P) (o:=o) hts htx hsz (n3 Γ.w) hfit (n4 Γ.w fun _ _=>rfl) ?_
         simp only[qaI,Nat.zero_add]
         exact s1
       ·-- it moves
        obtain⟨newCap,rest,f1,f2,f3,f4,f5,f6,f7⟩:=fresh hs (show cap<n+m by omega) hroom h4 h5.2.2 hcl (fun w' hw=>by
         have:=qau (P:=P) (w:=w') (b:=b') (o:=0) (vs:=olds) (fun j v hj=>by rw[hw]; exact h5.1 j v hj)
         rw[h4.length,hcl] at this
         simp only[Builtin.firstCells,this])
        obtain⟨k1,k2⟩:=qjH d1 hk h8 (show cs.length<(cs++xs).length by rw[List.length_append,hxl]; have:=Nat.mul_pos (show 0<m by omega) hsz0; omega) ((olds++news).toArray++rest) e
         (by have:=f5.length; simp only[Array.size_append,List.size_toArray]; omega)
        exact⟨_,_,rfl,k1,d2.trans k2,grown k2.ext rfl (by simp[grow]) (by simp[(List.getElem?_eq_some_iff.1 hk).1]) (by simp[bind]) f1 f2 f3 f4 f5 f6,.inl f7⟩
      ·cases h
     ·cases h
    ·cases h
  ·cases h
end
end
end Go.Pm
end SJ
