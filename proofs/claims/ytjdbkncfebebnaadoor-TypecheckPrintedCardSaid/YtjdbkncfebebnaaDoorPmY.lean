/- The abstract program's meaning without fuel: equations to reckon with. Reckoning with the abstract machine: what simp may unfold; rows of numbers. What a law is given, as abstract values; what it may leave behind. What a package variable holds, read off the datum that it is laid with. What a package variable holds, out of a list of several that are laid. Rows of numbers, places, wraps: what the walks of all chapters use. A law's arguments, as the abstract machine's values. A string, a byte, as arguments of a law. -/
import Derived.Test.YtjdbkncfebebnaaDoorPmR
import Derived.IntWalk
import Derived.DataReads
import Derived.Below
import Derived.OpenShut
import Derived.FnData
import Derived.LaidMore
set_option linter.unusedSimpArgs false
set_option linter.unusedVariables false
section SY
namespace Go.Pm
def Le (C C':Task->Option Res):Prop := ∀ t r,C t=some r->C' t=some r
section
variable {C C':Task->Option Res}
theorem qbv (h:Le C C') {f:List V->S->Task} {args:List V} {σ : S} {r:V × S} (hr:qbw C f args σ = some r):qbw C' f args σ = some r:=by
 unfold qbw at hr ⊢
 simp only at hr ⊢
 split at hr
 ·rename_i a s hres
  split at hr
  ·cases hr
  ·rename_i v s' hnp hc
   simp only[h _ _ hc]
   exact hr
  ·cases hr
 ·cases hr
theorem qdr (h:Le C C') {f:List V->S->Task} {args:List V} {σ : S} {r:V × S} (hr:qaf C f args σ = some r):qaf C' f args σ = some r:=by
 unfold qaf at hr ⊢
 simp only at hr ⊢
 split at hr
 ·rename_i a s hres
  split at hr
  ·rename_i v s' hc
   simp only[h _ _ hc]
   exact hr
  ·cases hr
 ·cases hr
theorem qie (h:Le C C') {fr:Fr} {σ : S} {op:O} {r:V × S} (hr:qbM C fr σ op=some r):qbM C' fr σ op=some r:=by
 cases op with
 | call f xs=>
  simp only[qbM] at hr ⊢
  split at hr
  ·exact qdr h hr
  ·cases hr
 | callv f xs=>
  simp only[qbM] at hr ⊢
  split at hr
  ·exact qdr h hr
  ·exact qdr h hr
  ·cases hr
 | invoke tbl x xs=>
  simp only[qbM] at hr ⊢
  split at hr
  ·split at hr
   ·exact qdr h hr
   ·cases hr
  ·cases hr
 | _=>exact hr
theorem qb6 (h:Le C C') {fr:Fr} {σ : S} {op:O} {r:V × S} (hr:qaA C fr σ op=some r):qaA C' fr σ op=some r:=by
 cases op with
 | call f xs=>
  simp only[qaA] at hr ⊢
  split at hr
  ·exact qbv h hr
  ·cases hr
 | callv f xs=>
  simp only[qaA] at hr ⊢
  split at hr
  ·exact qbv h hr
  ·exact qbv h hr
  ·exact qbv h hr
  ·cases hr
 | invoke tbl x xs=>
  simp only[qaA] at hr ⊢
  split at hr
  ·split at hr
   ·exact qbv h hr
   ·cases hr
  ·cases hr
 | _=>exact hr
theorem qeK (h:Le C C') : ∀ {is:List I} {fr:Fr} {σ : S} {r:Fr × S},qem C is fr σ = some r->qem C' is fr σ = some r
 | [],_,_,_,hr=>hr
 | i::is,fr,σ,r,hr=>by
  simp only[qem] at hr ⊢
  split at hr
  ·rename_i hw
   split at hr
   ·rename_i v σ' hv
    simp only[qb6 h hv]
    exact qeK h hr
   ·cases hr
  ·exact qeK h hr
  ·cases hr
theorem qdU (h:Le C C') {f:List V->S->Task} {args:List V} {σ : S} {r:V × S} (hr:qaf C f args σ = some r):qbw C' f args σ = none:=by
 unfold qaf at hr
 unfold qbw
 simp only at hr ⊢
 split at hr
 ·rename_i a s hres
  split at hr
  ·rename_i v s' hc
   simp only[h _ _ hc]
  ·cases hr
 ·cases hr
theorem qfx (h:Le C C') {fr:Fr} {σ : S} {op:O} {r:V × S} (hr:qbM C fr σ op=some r):qaA C' fr σ op=none:=by
 cases op with
 | call f xs=>
  simp only[qbM] at hr
  simp only[qaA]
  split at hr
  ·exact qdU h hr
  ·cases hr
 | callv f xs=>
  simp only[qbM] at hr
  simp only[qaA]
  split at hr
  ·rename_i h1 h2; simp only[h1,h2]; exact qdU h hr
  ·rename_i h1 h2; simp only[h1,h2]; exact qdU h hr
  ·cases hr
 | invoke tbl x xs=>
  simp only[qbM] at hr
  simp only[qaA]
  split at hr
  ·split at hr
   ·exact qdU h hr
   ·cases hr
  ·cases hr
 | panic x=>rfl
 | _=>cases hr
theorem qdf (h:Le C C') : ∀ {is:List I} {fr:Fr} {σ : S} {r:V × Fr × S},qcQ C is fr σ = some r->qcQ C' is fr σ = some r/\qem C' is fr σ = none
 | [],_,_,_,hr=>by simp[qcQ] at hr
 | i::is,fr,σ,r,hr=>by
  simp only[qcQ,qem] at hr ⊢
  split at hr
  ·rename_i hw
   split at hr
   ·rename_i v σ' hv
    simp only[qb6 h hv]
    exact qdf h hr
   ·split at hr
    ·rename_i v σ' hv
     simp only[qfx h hv,qie h hv]
     exact⟨hr,trivial⟩
    ·cases hr
  ·exact qdf h hr
  ·cases hr
theorem qcM (h:Le C C') : ∀ {is:List I} {q:Nat} {fr:Fr} {σ : S} {r:Nat × List Ev × V × S},qaz C q is fr σ = some r->qaz C' q is fr σ = some r/\qc4 C' is fr σ = none
 | [],_,_,_,_,hr=>by simp[qaz] at hr
 | i::is,q,fr,σ,r,hr=>by
  simp only[qaz,qc4] at hr ⊢
  split at hr
  ·rename_i hw
   split at hr
   ·rename_i v σ' hv
    simp only[qb6 h hv]
    split at hr
    ·rename_i p l u σ'' hrest
     obtain⟨h1,h2⟩:=qcM h hrest
     simp only[h1,h2]
     exact⟨hr,trivial⟩
    ·cases hr
   ·split at hr
    ·rename_i v σ' hv
     simp only[qfx h hv,qie h hv]
     exact⟨hr,trivial⟩
    ·cases hr
  ·split at hr
   ·rename_i p l u σ'' hrest
    obtain⟨h1,h2⟩:=qcM h hrest
    simp only[h1,h2]
    exact⟨hr,trivial⟩
   ·cases hr
  ·cases hr
theorem qdg (h:Le C C') : ∀ {is:List I} {fr:Fr} {σ : S} {r:List Ev × Fr × S},qc4 C is fr σ = some r->qc4 C' is fr σ = some r
 | [],_,_,_,hr=>hr
 | i::is,fr,σ,r,hr=>by
  simp only[qc4] at hr ⊢
  split at hr
  ·rename_i hw
   split at hr
   ·rename_i v σ' hv
    simp only[qb6 h hv]
    split at hr
    ·rename_i l fr' σ'' hrest
     simp only[qdg h hrest]; exact hr
    ·cases hr
   ·cases hr
  ·split at hr
   ·rename_i l fr' σ'' hrest
    simp only[qdg h hrest]; exact hr
   ·cases hr
  ·cases hr
theorem qdD (h:Le C C') : ∀ {is:List I} {fr:Fr} {σ : S} {r:List (Fr × S)},qbn C is fr σ = some r->qbn C' is fr σ = some r
 | [],_,_,_,hr=>hr
 | i::is,fr,σ,r,hr=>by
  simp only[qbn] at hr ⊢
  split at hr
  ·rename_i hw
   split at hr
   ·rename_i v σ' hv
    simp only[qb6 h hv]
    split at hr
    ·rename_i l hrest
     simp only[qdD h hrest]; exact hr
    ·cases hr
   ·cases hr
  ·split at hr
   ·rename_i l hrest
    simp only[qdD h hrest]; exact hr
   ·cases hr
  ·cases hr
theorem qaL (h:Le C C') {k:Nat} : ∀ {pc:PC} {fr:Fr} {σ : S} {r:Ex × Fr × S},run C k pc fr σ = some r->run C' k pc fr σ = some r
 | .range f ps as bd,fr,σ,r,hr=>by
  simp only[run] at hr ⊢
  split at hr
  ·split at hr
   ·rename_i v σ' hx
    split at hx
    ·rename_i hl
     rw[if_pos hl]
     simp only[qbv h hx]
     exact hr
    ·cases hx
   ·cases hr
  ·cases hr
 | .skip,_,_,_,hr=>hr
 | .exit _,_,_,_,hr=>hr
 | .ret,_,_,_,hr=>hr
 | .region none ops keep _,fr,σ,r,hr=>by
  simp only[run] at hr ⊢
  split at hr
  ·rename_i fr' σ' hx; simp only[qeK h hx]; exact hr
  ·split at hr
   ·rename_i v fr' σ' hx
    obtain⟨h1,h2⟩:=qdf h hx
    simp only[h1,h2]; exact hr
   ·cases hr
 | .region (some rs) ops keep _,fr,σ,r,hr=>by
  simp only[run] at hr ⊢
  split at hr
  ·rename_i es fr' σ' hx
   simp only[qdg h hx]
   split at hr
   ·rename_i hc; rw[if_pos hc]; exact hr
   ·rename_i hc
    rw[if_neg hc]
    split at hr
    ·rename_i ss ht; simp only[qdD h ht]; exact hr
    ·cases hr
  ·split at hr
   ·rename_i p es v σ' hx
    obtain⟨h1,h2⟩:=qcM h hx
    simp only[h1,h2]; exact hr
   ·cases hr
 | .seq a b,fr,σ,r,hr=>by
  simp only[run] at hr ⊢
  split at hr
  ·rename_i fr' σ' hx; simp only[qaL h hx]; exact qaL h hr
  ·rename_i hne
   have:=qaL h hr
   rw[this]
   obtain⟨e,fr',σ'⟩:=r
   cases e with
   | normal=>exact absurd hr (hne _ _)
   | exit id=>rfl
   | ret=>rfl
   | pan v=>rfl
 | .cond c a b,fr,σ,r,hr=>by
  simp only[run] at hr ⊢
  split at hr
  ·exact qaL h hr
  ·exact qaL h hr
  ·cases hr
 | .block id b,fr,σ,r,hr=>by
  simp only[run] at hr ⊢
  split at hr
  ·rename_i id' fr' σ' hx; simp only[qaL h hx]; exact hr
  ·rename_i hne
   have:=qaL h hr
   rw[this]
   obtain⟨e,fr',σ'⟩:=r
   cases e with
   | normal=>rfl
   | exit id=>exact absurd hr (hne _ _ _)
   | ret=>rfl
   | pan v=>rfl
 | .loop b,fr,σ,r,hr=>by
  simp only[run] at hr ⊢
  split at hr
  ·rename_i e fr' σ' hx; simp only[h _ _ hx]; exact hr
  ·cases hr
theorem qdV (h:Le C C') {args:List V} {σ : S} {r:Res} (hr:qbo C args σ = some r):qbo C' args σ = some r:=by
 unfold qbo at hr ⊢
 split at hr
 ·split at hr
  ·split at hr
   ·rename_i hlp hc
    simp only[if_pos hc]
    split at hr
    ·rename_i fr1 σ1 hx
     simp only[qaL h hx]
     split at hr
     ·split at hr
      ·rename_i hlp1 hst
       simp only[hlp1,if_pos hst]
       split at hr
       ·cases hr
       ·rename_i e fr2 σ2 hnp hy
        simp only[qaL h hy]
        cases e with
        | pan v=>exact (hnp _ rfl).elim
        | normal=>exact hr
        | exit id=>exact hr
        | ret=>exact hr
       ·cases hr
      ·cases hr
     ·cases hr
    ·cases hr
   ·cases hr
  ·cases hr
 ·cases hr
theorem qb7 (h:Le C C') : ∀ {l:List V} {σ : S} {r:S},qbf C l σ = some r->qbf C' l σ = some r
 | [],σ,r,hr=>hr
 | v::l,σ,r,hr=>by
  unfold qbf at hr ⊢
  split at hr
  ·rename_i e; cases e
  ·rename_i id a r' e
   cases e
   split at hr
   ·rename_i v' σ' hc
    simp only[qbv h hc]
    exact qb7 h hr
   ·cases hr
  ·cases hr
theorem qif (h:Le C C') {pf:PFun} {k:Nat} {fr:Fr} {σ : S} {r:Res} (hr:qfg C pf k fr σ = some r):qfg C' pf k fr σ = some r:=by
 unfold qfg at hr ⊢
 split at hr
 ·rename_i σ' hx; simp only[qb7 h hx]; exact hr
 ·cases hr
theorem qhf (h:Le C C') {pf:PFun} {k:Nat} {v:V} {fr:Fr} {σ : S} {r:Res} (hr:qfG C pf k v fr σ = some r):qfG C' pf k v fr σ = some r:=by
 unfold qfG at hr ⊢
 split at hr
 ·exact hr
 ·split at hr
  ·cases hr
  ·rename_i hn
   rw[if_neg hn]
   split at hr
   ·rename_i v' σ' hc
    simp only[qbv h hc]
    split at hr
    ·rename_i σ'' hx; simp only[qb7 h hx]; exact hr
    ·cases hr
   ·cases hr
 ·cases hr
theorem qfy (h:Le C C') {pf:PFun} {args:List V} {σ : S} {r:Res} (hr:qcc C pf args σ = some r):qcc C' pf args σ = some r:=by
 have lv : ∀ {k fr σ},(if pf.df then qfg C pf k fr σ else qdk pf k fr σ)=some r->(if pf.df then qfg C' pf k fr σ else qdk pf k fr σ)=some r:=fun hr=>by
  split at hr
  ·rename_i hd; rw[if_pos hd]; exact qif h hr
  ·rename_i hd; rw[if_neg hd]; exact hr
 unfold qcc at hr ⊢
 split at hr
 ·rename_i hl
  rw[if_pos hl]
  split at hr
  ·rename_i fr σ' hx; simp only[qaL h hx]; exact lv hr
  ·rename_i fr σ' hx; simp only[qaL h hx]; exact lv hr
  ·rename_i v fr σ' hx; simp only[qaL h hx]; exact qhf h hr
  ·cases hr
 ·cases hr
theorem qe5 (h:Le C C') {pf:PFun} {args:List V} {σ : S} {r:Res} (hr:qa5 C pf args σ = some r):qa5 C' pf args σ = some r:=by
 unfold qa5 at hr ⊢
 split at hr
 ·split at hr
  ·rename_i hl
   rw[if_pos hl]
   split at hr
   ·rename_i fr σ' hx; simp only[qaL h hx]; exact hr
   ·rename_i fr σ' hx; simp only[qaL h hx]; exact hr
   ·cases hr
  ·cases hr
 ·cases hr
end
variable {prog:Nat->Option PFun}
theorem qjI : ∀ n,Le (qcd prog n) (qcd prog (n+1))
 | 0=>fun t r h=>by simp[qcd] at h
 | n+1=>fun t r h=>by
  have ih:=qjI n
  cases t with
  | call f args σ=>
   simp only[qcd] at h ⊢
   split at h
   ·split at h
    ·cases h
    ·rename_i hc; rw[if_neg hc]; exact qfy ih h
   ·cases h
  | dcall f args σ=>
   simp only[qcd] at h ⊢
   split at h
   ·exact qe5 ih h
   ·cases h
  | round args σ=>
   simp only[qcd] at h ⊢
   exact qdV ih h
  | loop k b fr σ=>
   simp only[qcd] at h ⊢
   split at h
   ·rename_i fr0 σ0 hg
    split at h
    ·rename_i fr' σ' hx
     rw[qaL ih hx]
     exact ih _ _ h
    ·rename_i e fr' σ' hne hx
     rw[qaL ih hx]
     cases e with
     | normal=>exact absurd rfl hne
     | exit id=>exact h
     | ret=>exact h
     | pan v=>exact h
    ·cases h
   ·cases h
theorem qaT {m n:Nat} (h:m<=n):Le (qcd prog m) (qcd prog n):=by
 induction n with
 | zero => have:m=0:=by omega
           subst this; exact fun _ _ h=>h
 | succ n ih=>
  rcases Nat.lt_or_ge n m with h' | h'
  ·have:m=n+1:=by omega
   subst this; exact fun _ _ h=>h
  ·exact fun t r ht=>qjI n t r (ih h' t r ht)
open Classical in
noncomputable def Z (prog:Nat->Option PFun) (t:Task):Option Res:=if h : ∃ n r,qcd prog n t=some r then qcd prog (Classical.choose h) t else none
theorem Z_iff {t:Task} {r:Res}:Z prog t=some r ↔ ∃ n,qcd prog n t=some r:=by
 classical
 unfold Z
 constructor
 ·intro h
  split at h
  ·exact⟨_,h⟩
  ·cases h
 ·rintro ⟨n,hn⟩
  have hex : ∃ n r,qcd prog n t=some r:=⟨n,r,hn⟩
  rw[dif_pos hex]
  obtain⟨r',hr'⟩:=Classical.choose_spec hex
  have h1:=qaT (prog:=prog) (Nat.le_max_left n (Classical.choose hex)) t r hn
  have h2:=qaT (prog:=prog) (Nat.le_max_right n (Classical.choose hex)) t r' hr'
  rw[h1] at h2
  rw[hr',h2]
theorem qmR {n:Nat} {t:Task} {r:Res} (h:qcd prog n t=some r):Z prog t=some r:=Z_iff.2 ⟨n,h⟩
theorem qcN {f:List V->S->Task} {args:List V} {σ : S} {r:V × S} (hr:qbw (Z prog) f args σ = some r) : ∃ n,qbw (qcd prog n) f args σ = some r:=by
 unfold qbw at hr ⊢
 simp only at hr ⊢
 split at hr
 ·split at hr
  ·cases hr
  ·rename_i v s' hnp hc
   obtain⟨n,hn⟩:=Z_iff.1 hc
   exact⟨n,by simp only[hn]; exact hr⟩
  ·cases hr
 ·cases hr
theorem qeL {f:List V->S->Task} {args:List V} {σ : S} {r:V × S} (hr:qaf (Z prog) f args σ = some r) : ∃ n,qaf (qcd prog n) f args σ = some r:=by
 unfold qaf at hr ⊢
 simp only at hr ⊢
 split at hr
 ·split at hr
  ·rename_i v s' hc
   obtain⟨n,hn⟩:=Z_iff.1 hc
   exact⟨n,by simp only[hn]; exact hr⟩
  ·cases hr
 ·cases hr
theorem qll {fr:Fr} {σ : S} {op:O} {r:V × S} (hr:qbM (Z prog) fr σ op=some r) : ∃ n,qbM (qcd prog n) fr σ op=some r:=by
 cases op with
 | call f xs=>
  simp only[qbM] at hr ⊢
  split at hr
  ·exact qeL hr
  ·cases hr
 | callv f xs=>
  simp only[qbM] at hr ⊢
  split at hr
  ·exact qeL hr
  ·exact qeL hr
  ·cases hr
 | invoke tbl x xs=>
  simp only[qbM] at hr ⊢
  split at hr
  ·split at hr
   ·exact qeL hr
   ·cases hr
  ·cases hr
 | _=>exact⟨0,hr⟩
theorem qhg {fr:Fr} {σ : S} {op:O} {r:V × S} (hr:qaA (Z prog) fr σ op=some r) : ∃ n,qaA (qcd prog n) fr σ op=some r:=by
 cases op with
 | call f xs=>
  simp only[qaA] at hr ⊢
  split at hr
  ·exact qcN hr
  ·cases hr
 | callv f xs=>
  simp only[qaA] at hr ⊢
  split at hr
  ·exact qcN hr
  ·exact qcN hr
  ·exact qcN hr
  ·cases hr
 | invoke tbl x xs=>
  simp only[qaA] at hr ⊢
  split at hr
  ·split at hr
   ·exact qcN hr
   ·cases hr
  ·cases hr
 | _=>exact⟨0,hr⟩
theorem qiW : ∀ {is:List I} {fr:Fr} {σ : S} {r:Fr × S},qem (Z prog) is fr σ = some r -> ∃ n,qem (qcd prog n) is fr σ = some r
 | [],_,_,_,hr=>⟨0,hr⟩
 | i::is,fr,σ,r,hr=>by
  simp only[qem] at hr ⊢
  split at hr
  ·rename_i hw
   split at hr
   ·rename_i v σ' hv
    obtain⟨n,hn⟩:=qhg hv
    obtain⟨m,hm⟩:=qiW hr
    refine⟨max n m,?_⟩
    simp only[qb6 (qaT (Nat.le_max_left n m)) hn]
    exact qeK (qaT (Nat.le_max_right n m)) hm
   ·cases hr
  ·exact qiW hr
  ·cases hr
theorem qhh : ∀ {is:List I} {fr:Fr} {σ : S} {r:List Ev × Fr × S},qc4 (Z prog) is fr σ = some r -> ∃ n,qc4 (qcd prog n) is fr σ = some r
 | [],_,_,_,hr=>⟨0,hr⟩
 | i::is,fr,σ,r,hr=>by
  simp only[qc4] at hr ⊢
  split at hr
  ·rename_i hw
   split at hr
   ·rename_i v σ' hv
    obtain⟨n,hn⟩:=qhg hv
    split at hr
    ·rename_i l fr' σ'' hrest
     obtain⟨m,hm⟩:=qhh hrest
     refine⟨max n m,?_⟩
     simp only[qb6 (qaT (Nat.le_max_left n m)) hn,qdg (qaT (Nat.le_max_right n m)) hm]
     exact hr
    ·cases hr
   ·cases hr
  ·split at hr
   ·rename_i l fr' σ'' hrest
    obtain⟨m,hm⟩:=qhh hrest
    exact⟨m,by simp only[hm]; exact hr⟩
   ·cases hr
  ·cases hr
theorem qiX : ∀ {is:List I} {fr:Fr} {σ : S} {r:List (Fr × S)},qbn (Z prog) is fr σ = some r -> ∃ n,qbn (qcd prog n) is fr σ = some r
 | [],_,_,_,hr=>⟨0,hr⟩
 | i::is,fr,σ,r,hr=>by
  simp only[qbn] at hr ⊢
  split at hr
  ·rename_i hw
   split at hr
   ·rename_i v σ' hv
    obtain⟨n,hn⟩:=qhg hv
    split at hr
    ·rename_i l hrest
     obtain⟨m,hm⟩:=qiX hrest
     refine⟨max n m,?_⟩
     simp only[qb6 (qaT (Nat.le_max_left n m)) hn,qdD (qaT (Nat.le_max_right n m)) hm]
     exact hr
    ·cases hr
   ·cases hr
  ·split at hr
   ·rename_i l hrest
    obtain⟨m,hm⟩:=qiX hrest
    exact⟨m,by simp only[hm]; exact hr⟩
   ·cases hr
  ·cases hr
theorem qhi : ∀ {is:List I} {fr:Fr} {σ : S} {r:V × Fr × S},qcQ (Z prog) is fr σ = some r -> ∃ n,qcQ (qcd prog n) is fr σ = some r
 | [],_,_,_,hr=>by simp[qcQ] at hr
 | i::is,fr,σ,r,hr=>by
  simp only[qcQ] at hr ⊢
  split at hr
  ·rename_i hw
   split at hr
   ·rename_i v σ' hv
    obtain⟨n,hn⟩:=qhg hv
    obtain⟨m,hm⟩:=qhi hr
    refine⟨max n m,?_⟩
    simp only[qb6 (qaT (Nat.le_max_left n m)) hn]
    exact (qdf (qaT (Nat.le_max_right n m)) hm).1
   ·split at hr
    ·rename_i v σ' hv
     obtain⟨n,hn⟩:=qll hv
     exact⟨n,by simp only[qfx (fun _ _ h=>h) hn,hn]; exact hr⟩
    ·cases hr
  ·exact qhi hr
  ·cases hr
theorem qf9 : ∀ {is:List I} {q:Nat} {fr:Fr} {σ : S} {r:Nat × List Ev × V × S},qaz (Z prog) q is fr σ = some r -> ∃ n,qaz (qcd prog n) q is fr σ = some r
 | [],_,_,_,_,hr=>by simp[qaz] at hr
 | i::is,q,fr,σ,r,hr=>by
  simp only[qaz] at hr ⊢
  split at hr
  ·rename_i hw
   split at hr
   ·rename_i v σ' hv
    obtain⟨n,hn⟩:=qhg hv
    split at hr
    ·rename_i p l u σ'' hrest
     obtain⟨m,hm⟩:=qf9 hrest
     refine⟨max n m,?_⟩
     simp only[qb6 (qaT (Nat.le_max_left n m)) hn,(qcM (qaT (Nat.le_max_right n m)) hm).1]
     exact hr
    ·cases hr
   ·split at hr
    ·rename_i v σ' hv
     obtain⟨n,hn⟩:=qll hv
     exact⟨n,by simp only[qfx (fun _ _ h=>h) hn,hn]; exact hr⟩
    ·cases hr
  ·split at hr
   ·rename_i p l u σ'' hrest
    obtain⟨m,hm⟩:=qf9 hrest
    exact⟨m,by simp only[hm]; exact hr⟩
   ·cases hr
  ·cases hr
theorem qc3 {k:Nat} : ∀ {pc:PC} {fr:Fr} {σ : S} {r:Ex × Fr × S},run (Z prog) k pc fr σ = some r -> ∃ n,run (qcd prog n) k pc fr σ = some r
 | .range f ps as bd,fr,σ,r,hr=>by
  simp only[run] at hr ⊢
  split at hr
  ·split at hr
   ·rename_i v σ' hx
    split at hx
    ·rename_i hl
     obtain⟨n,hn⟩:=qcN hx
     exact⟨n,by simp only[if_pos hl,hn]; exact hr⟩
    ·cases hx
   ·cases hr
  ·cases hr
 | .skip,_,_,_,hr=>⟨0,hr⟩
 | .exit _,_,_,_,hr=>⟨0,hr⟩
 | .ret,_,_,_,hr=>⟨0,hr⟩
 | .region none ops keep _,fr,σ,r,hr=>by
  simp only[run] at hr ⊢
  split at hr
  ·rename_i fr' σ' hx
   obtain⟨n,hn⟩:=qiW hx
   exact⟨n,by simp only[hn]; exact hr⟩
  ·split at hr
   ·rename_i v fr' σ' hx
    obtain⟨n,hn⟩:=qhi hx
    exact⟨n,by simp only[hn,(qdf (fun _ _ h=>h) hn).2]; exact hr⟩
   ·cases hr
 | .region (some rs) ops keep _,fr,σ,r,hr=>by
  simp only[run] at hr ⊢
  split at hr
  ·rename_i es fr' σ' hx
   obtain⟨n,hn⟩:=qhh hx
   split at hr
   ·rename_i hc; exact⟨n,by simp only[hn]; rw[if_pos hc]; exact hr⟩
   ·rename_i hc
    split at hr
    ·rename_i ss ht
     obtain⟨m,hm⟩:=qiX ht
     refine⟨max n m,?_⟩
     simp only[qdg (qaT (Nat.le_max_left n m)) hn,qdD (qaT (Nat.le_max_right n m)) hm]
     rw[if_neg hc]; exact hr
    ·cases hr
  ·split at hr
   ·rename_i p es v σ' hx
    obtain⟨n,hn⟩:=qf9 hx
    exact⟨n,by simp only[hn,(qcM (fun _ _ h=>h) hn).2]; exact hr⟩
   ·cases hr
 | .seq a b,fr,σ,r,hr=>by
  simp only[run] at hr ⊢
  split at hr
  ·rename_i fr' σ' hx
   obtain⟨n,hn⟩:=qc3 hx
   obtain⟨m,hm⟩:=qc3 hr
   refine⟨max n m,?_⟩
   simp only[qaL (qaT (Nat.le_max_left n m)) hn]
   exact qaL (qaT (Nat.le_max_right n m)) hm
  ·rename_i hne
   obtain⟨n,hn⟩:=qc3 hr
   refine⟨n,?_⟩
   rw[hn]
   obtain⟨e,fr',σ'⟩:=r
   cases e with
   | normal=>exact absurd hr (hne _ _)
   | exit id=>rfl
   | ret=>rfl
   | pan v=>rfl
 | .cond c a b,fr,σ,r,hr=>by
  simp only[run] at hr ⊢
  split at hr
  ·exact qc3 hr
  ·exact qc3 hr
  ·cases hr
 | .block id b,fr,σ,r,hr=>by
  simp only[run] at hr ⊢
  split at hr
  ·rename_i id' fr' σ' hx
   obtain⟨n,hn⟩:=qc3 hx
   exact⟨n,by simp only[hn]; exact hr⟩
  ·rename_i hne
   obtain⟨n,hn⟩:=qc3 hr
   refine⟨n,?_⟩
   rw[hn]
   obtain⟨e,fr',σ'⟩:=r
   cases e with
   | normal=>rfl
   | exit id=>exact absurd hr (hne _ _ _)
   | ret=>rfl
   | pan v=>rfl
 | .loop b,fr,σ,r,hr=>by
  simp only[run] at hr ⊢
  split at hr
  ·rename_i e fr' σ' hx
   obtain⟨n,hn⟩:=Z_iff.1 hx
   exact⟨n,by simp only[hn]; exact hr⟩
  ·cases hr
theorem qeg : ∀ {l:List V} {σ : S} {r:S},qbf (Z prog) l σ = some r -> ∃ n,qbf (qcd prog n) l σ = some r
 | [],σ,r,hr=>⟨0,hr⟩
 | v::l,σ,r,hr=>by
  unfold qbf at hr ⊢
  split at hr
  ·rename_i e; cases e
  ·rename_i id a r' e
   cases e
   split at hr
   ·rename_i v' σ' hc
    obtain⟨n,hn⟩:=qcN hc
    obtain⟨m,hm⟩:=qeg hr
    refine⟨max n m,?_⟩
    simp only[qbv (qaT (Nat.le_max_left n m)) hn]
    exact qb7 (qaT (Nat.le_max_right n m)) hm
   ·cases hr
  ·cases hr
theorem qlm {pf:PFun} {k:Nat} {fr:Fr} {σ : S} {r:Res} (hr:(if pf.df then qfg (Z prog) pf k fr σ else qdk pf k fr σ)=some r) : ∃ n,(if pf.df then qfg (qcd prog n) pf k fr σ else qdk pf k fr σ)=some r:=by
 split at hr
 ·rename_i hd
  simp only[if_pos hd]
  unfold qfg at hr ⊢
  split at hr
  ·rename_i σ' hx
   obtain⟨n,hn⟩:=qeg hx
   exact⟨n,by simp only[hn]; exact hr⟩
  ·cases hr
 ·rename_i hd
  simp only[if_neg hd]
  exact⟨0,hr⟩
theorem qmS {pf:PFun} {k:Nat} {v:V} {fr:Fr} {σ : S} {r:Res} (hr:qfG (Z prog) pf k v fr σ = some r) : ∃ n,qfG (qcd prog n) pf k v fr σ = some r:=by
 unfold qfG at hr ⊢
 split at hr
 ·exact⟨0,hr⟩
 ·split at hr
  ·cases hr
  ·rename_i hn
   simp only[if_neg hn]
   split at hr
   ·rename_i v' σ' hc
    obtain⟨n,hn⟩:=qcN hc
    split at hr
    ·rename_i σ'' hx
     obtain⟨m,hm⟩:=qeg hx
     refine⟨max n m,?_⟩
     simp only[qbv (qaT (Nat.le_max_left n m)) hn,qb7 (qaT (Nat.le_max_right n m)) hm]
     exact hr
    ·cases hr
   ·cases hr
 ·cases hr
theorem qkE {pf:PFun} {args:List V} {σ : S} {r:Res} (h:qcc (Z prog) pf args σ = some r) : ∃ n,qcc (qcd prog n) pf args σ = some r:=by
 have lv : ∀ {n m k fr σ},(if pf.df then qfg (qcd prog m) pf k fr σ else qdk pf k fr σ)=some r->m<=n->(if pf.df then qfg (qcd prog n) pf k fr σ else qdk pf k fr σ)=some r:=fun hr hle=>by
  split at hr
  ·rename_i hd; rw[if_pos hd]; exact qif (qaT hle) hr
  ·rename_i hd; rw[if_neg hd]; exact hr
 unfold qcc at h ⊢
 split at h
 ·rename_i hl
  simp only[if_pos hl]
  split at h
  ·rename_i fr σ' hx
   obtain⟨n,hn⟩:=qc3 hx
   obtain⟨m,hm⟩:=qlm h
   refine⟨max n m,?_⟩
   simp only[qaL (qaT (Nat.le_max_left n m)) hn]
   exact lv hm (Nat.le_max_right n m)
  ·rename_i fr σ' hx
   obtain⟨n,hn⟩:=qc3 hx
   obtain⟨m,hm⟩:=qlm h
   refine⟨max n m,?_⟩
   simp only[qaL (qaT (Nat.le_max_left n m)) hn]
   exact lv hm (Nat.le_max_right n m)
  ·rename_i v fr σ' hx
   obtain⟨n,hn⟩:=qc3 hx
   obtain⟨m,hm⟩:=qmS h
   refine⟨max n m,?_⟩
   simp only[qaL (qaT (Nat.le_max_left n m)) hn]
   exact qhf (qaT (Nat.le_max_right n m)) hm
  ·cases h
 ·cases h
theorem qaa {f:Nat} {pf:PFun} {args:List V} {σ : S} {r:Res} (hf:prog f=some pf) (hc:pf.catches=false) (h:qcc (Z prog) pf args σ = some r):Z prog (.call f args σ)=some r:=by
 obtain⟨n,hn⟩:=qkE h
 exact qmR (n:=n+1) (by simp only[qcd,hf,hc,Bool.false_eq_true,if_false,hn])
theorem qkF {f:Nat} {pf:PFun} {args:List V} {σ : S} {r:Res} (hf:prog f=some pf) (h:qa5 (Z prog) pf args σ = some r):Z prog (.dcall f args σ)=some r:=by
 have : ∃ n,qa5 (qcd prog n) pf args σ = some r:=by
  unfold qa5 at h ⊢
  split at h
  ·split at h
   ·rename_i hl
    simp only[if_pos hl]
    split at h
    ·rename_i fr σ' hx
     obtain⟨n,hn⟩:=qc3 hx
     exact⟨n,by simp only[hn]; exact h⟩
    ·rename_i fr σ' hx
     obtain⟨n,hn⟩:=qc3 hx
     exact⟨n,by simp only[hn]; exact h⟩
    ·cases h
   ·cases h
  ·cases h
 obtain⟨n,hn⟩:=this
 exact qmR (n:=n+1) (by simp only[qcd,hf,hn])
theorem qkG {k:Nat} {b:PC} {fr fr0 fr':Fr} {σ σ0 σ':S} {r:Res} (hg:gcF k fr σ = some (fr0,σ0)) (h:run (Z prog) k b fr0 σ0=some (.normal,fr',σ')) (hr:Z prog (.loop k b fr' σ')=some r):Z prog (.loop k b fr σ)=some r:=by
 obtain⟨n,hn⟩:=qc3 h
 obtain⟨m,hm⟩:=Z_iff.1 hr
 refine qmR (n:=max n m+1) ?_
 simp only[qcd,hg,qaL (qaT (Nat.le_max_left n m)) hn]
 exact qaT (Nat.le_max_right n m) _ _ hm
theorem qme {k:Nat} {b:PC} {fr fr0 fr':Fr} {σ σ0 σ':S} {e:Ex} (he:e ≠ .normal) (hg:gcF k fr σ = some (fr0,σ0)) (h:run (Z prog) k b fr0 σ0=some (e,fr',σ')):Z prog (.loop k b fr σ)=some (.out e fr' σ'):=by
 obtain⟨n,hn⟩:=qc3 h
 refine qmR (n:=n+1) ?_
 simp only[qcd,hg,hn]
 all_goals (cases e with
  | normal=>exact absurd rfl he
  | exit id=>rfl
  | ret=>rfl
  | pan v=>rfl)
theorem qqu {args:List V} {σ : S} {r:Res} (h:qbo (Z prog) args σ = some r):Z prog (.round args σ)=some r:=by
 have : ∃ n,qbo (qcd prog n) args σ = some r:=by
  unfold qbo at h ⊢
  split at h
  ·split at h
   ·split at h
    ·rename_i hlp hc
     simp only[if_pos hc]
     split at h
     ·rename_i fr1 σ1 hx
      obtain⟨n,hn⟩:=qc3 hx
      split at h
      ·split at h
       ·rename_i hlp1 hst
        split at h
        ·cases h
        ·rename_i e fr2 σ2 hnp hy
         obtain⟨m,hm⟩:=qc3 hy
         refine⟨max n m,?_⟩
         simp only[qaL (qaT (Nat.le_max_left n m)) hn,hlp1,if_pos hst,qaL (qaT (Nat.le_max_right n m)) hm]
         cases e with
         | pan v=>exact (hnp _ rfl).elim
         | normal=>exact h
         | exit id=>exact h
         | ret=>exact h
        ·cases h
       ·cases h
      ·cases h
     ·cases h
    ·cases h
   ·cases h
  ·cases h
 obtain⟨n,hn⟩:=this
 exact qmR (n:=n+1) (by simp only[qcd,hn])
variable {P:Program} {ids:Ids} {fid:Fid}
def qmT (w:World):Nat->Nat:=fun b=>match w.heap[b]? with
 | some (.cells arr _ _)=>arr.size
 | _=>0
def start (w:World):Ctx:=⟨[],fun _=>none,qmT w,w⟩
def GlbAt (fid:Fid) (w:World):Prop := ∀ g cs,fid.gl g=some cs -> ∃ vs,RepDs (qmT w) w cs vs/\Row (qmT w) w g 0 vs
theorem qmf {w:World} (hg:GlbAt fid w):Real fid (start w):=by
 refine⟨fun l ob b h=>by simp[start] at h,fun l b h=>by simp[start] at h,fun l l' b h=>by simp[start] at h,fun b hb=>?_,hg⟩
 simp only[start,qmT] at hb ⊢
 cases h:w.heap[b]? with
 | none=>rw[h] at hb; simp at hb
 | some o=>
  rw[h] at hb
  cases o<;>simp only at hb<;>first | (exact absurd hb (Nat.lt_irrefl _)) | exact⟨_,_,_,rfl,Nat.le_refl _⟩
theorem calls_of_Z (hid:Ties P ids fid) (hcr:Codes P ids fid) (hm:P.follows .mixedOrders=true) (ht:Tied P ids fid prog) {f:Nat} {args:List V} {xs:List Value} {d:Value} {σ':S} {w:World} (h:Z prog (.call f args [])=some (.ret (.dat (.lit d)) σ')) (hg:GlbAt fid w)
  (ha:Reps fid (start w) args xs):Calls P (fid f) xs.toArray w fun e w'=>e = .returned d/\w'.os=w.os/\w'.tape=w.tape/\w'.output=w.output/\w.heap.size<=w'.heap.size /\ ∀ k,k<w.heap.size->w'.heap[k]?=w.heap[k]?:=by
 obtain⟨n,hn⟩:=Z_iff.1 h
 obtain⟨_,hs⟩:=(qin hid hcr hm ht n).1.call _ _ _ _ _ hn
 refine (callsIn_wide.1 (hs (start w) xs rfl (qmf hg) ha)).mono ?_
 rintro e w' ⟨Γ',rfl,_,_,h3,hout⟩
 rcases hout with ⟨x,rfl,h4⟩ | ⟨u,x,hu,_⟩
 rotate_left
 ·cases hu
 refine⟨by rw[(qap h4).1],h3.ext.os,h3.ext.tape,h3.ext.output,h3.ext.size,fun k hk=>(h3.frm.same k hk fun l h=>by simp[start] at h).1⟩
end Go.Pm
namespace Go.Pm
variable {prog:Nat->Option PFun}
theorem qmU {α : Type} {a b:Option α} (h : ∀ r,a=some r->b=some r) (k : ∀ r,b=some r->a=some r):a=b:=by
 cases a with
 | some r=>exact (h r rfl).symm
 | none=>cases b with
  | none=>rfl
  | some r=>exact k r rfl
theorem qmV {n:Nat}:Le (qcd prog n) (Z prog):=fun _ _ h=>qmR h
def qae (C:Task->Option Res) (k:Nat) (b:PC):Option (Fr × S)->Option Res
 | some (fr0,σ0)=>match run C k b fr0 σ0 with
  | some (.normal,fr',σ')=>C (.loop k b fr' σ')
  | some (e,fr',σ')=>some (.out e fr' σ')
  | none=>none
 | none=>none
theorem qac (k:Nat) (b:PC) (fr:Fr) (σ : S):Z prog (.loop k b fr σ)=qae (Z prog) k b (gcF k fr σ):=by
 refine qmU (fun r h=>?_) (fun r h=>?_)
 ·obtain⟨n,hn⟩:=Z_iff.1 h
  cases n with
  | zero=>simp[qcd] at hn
  | succ n=>
   simp only[qcd] at hn
   split at hn
   ·rename_i fr0 σ0 hg
    rw[hg]
    simp only[qae]
    split at hn
    ·rename_i fr' σ' hx
     rw[qaL qmV hx]
     exact qmR hn
    ·rename_i e fr' σ' hne hx
     rw[qaL qmV hx]
     cases e with
     | normal=>exact absurd rfl hne
     | exit id=>exact hn
     | ret=>exact hn
     | pan v=>exact hn
    ·cases hn
   ·cases hn
 ·unfold qae at h
  split at h
  ·rename_i fr0 σ0 hg
   split at h
   ·rename_i fr' σ' hx
    exact qkG hg hx h
   ·rename_i e fr' σ' hne hx
    simp only[Option.some.injEq] at h
    subst h
    exact qme (fun he=>hne he) hg hx
   ·cases h
  ·cases h
theorem qcw (args:List V) (σ : S):Z prog (.round args σ)=qbo (Z prog) args σ:=by
 refine qmU (fun r h=>?_) (fun r h=>qqu h)
 obtain⟨n,hn⟩:=Z_iff.1 h
 cases n with
 | zero=>simp[qcd] at hn
 | succ n=>
  simp only[qcd] at hn
  exact qdV qmV hn
theorem qln {prog prog':Nat->Option PFun} (hs : ∀ f pf,prog f=some pf->prog' f=some pf) : ∀ n,Le (qcd prog n) (qcd prog' n)
 | 0=>fun t r h=>by simp[qcd] at h
 | n+1=>fun t r h=>by
  have ih:=qln hs n
  cases t with
  | call f args σ=>
   simp only[qcd] at h ⊢
   split at h
   ·rename_i pf hpf
    simp only[hs f pf hpf]
    split at h
    ·cases h
    ·rename_i hc; rw[if_neg hc]; exact qfy ih h
   ·cases h
  | dcall f args σ=>
   simp only[qcd] at h ⊢
   split at h
   ·rename_i pf hpf
    simp only[hs f pf hpf]
    exact qe5 ih h
   ·cases h
  | round args σ=>
   simp only[qcd] at h ⊢
   exact qdV ih h
  | loop k b fr σ=>
   simp only[qcd] at h ⊢
   split at h
   ·rename_i fr0 σ0 hg
    split at h
    ·rename_i fr' σ' hx
     rw[qaL ih hx]
     exact ih _ _ h
    ·rename_i e fr' σ' hne hx
     rw[qaL ih hx]
     cases e with
     | normal=>exact absurd rfl hne
     | exit id=>exact h
     | ret=>exact h
     | pan v=>exact h
    ·cases h
   ·cases h
theorem qgP {prog prog':Nat->Option PFun} (hs : ∀ f pf,prog f=some pf->prog' f=some pf) {t:Task} {r:Res} (h:Z prog t=some r):Z prog' t=some r:=by
 obtain⟨n,hn⟩:=Z_iff.1 h
 exact qmR (qln hs n _ _ hn)
end Go.Pm
end SY
section SS
namespace Go.Pm
attribute [simp] qs0 qmm qec qmJ qnd qne qh4 outV qlx qos qdI finishV Ob.rows qs1 qqM appendO appendT qoO qja V.isStr qml qfF qfg qfG qbf Fr.defs qbM qcQ qfE undef qcc qbl run qem qc4 qaA qaR X.ev evs qdh qff Fr.get Fr.put Fr.keep qoM unV qoN qdk qqd qmk qiq V.sealT V.sealv qbm qir reach qaI V.locs qj1 inL closed qdX V.ren one
 gcL gcF qcr qkP Ob.locs Ob.ren qgQ qoL idx back qay qbw qbV qbj qc5 qa3 qdj qdi qen qhq qcP storeV qcz qss Value.oneCell' qbE V.aggCells qfe qea
@[simp] theorem quY (v:Value):V.one (.dat (.lit v))=v.oneCell':=rfl
@[simp] theorem qsI (v:Value):V.cells (.dat (.lit v))=[(.dat (.lit v))]:=rfl
@[simp] theorem qv4 (cs:List D) (n:Nat) (f:Bool):V.one (.dat (.sl cs n f))=true:=rfl
@[simp] theorem qui (cs:List D) (n:Nat) (f:Bool):V.cells (.dat (.sl cs n f))=[(.dat (.sl cs n f))]:=rfl
@[simp] theorem quZ (cs:List D) (o:Nat):V.one (.dat (.imm cs o))=true:=rfl
@[simp] theorem qsJ (cs:List D) (o:Nat):V.cells (.dat (.imm cs o))=[(.dat (.imm cs o))]:=rfl
@[simp] theorem quj (cs:List D):V.one (.dat (.agg cs))=false:=rfl
@[simp] theorem qso (cs:List D):V.cells (.dat (.agg cs))=cs.map .dat:=rfl
@[simp] theorem qsp (t:Nat) (d:D):V.one (.dat (.iface t d))=true:=rfl
@[simp] theorem qp7 (t:Nat) (d:D):V.cells (.dat (.iface t d))=[(.dat (.iface t d))]:=rfl
@[simp] theorem qu0 (l o:Nat):V.one (.ptr l o)=true:=rfl
@[simp] theorem qsK (l o:Nat):V.cells (.ptr l o)=[(.ptr l o)]:=rfl
@[simp] theorem qu1 (cs:List D) (n sz l:Nat):V.one (.gsl cs n sz l)=true:=rfl
@[simp] theorem qsL (cs:List D) (n sz l:Nat):V.cells (.gsl cs n sz l)=[(.gsl cs n sz l)]:=rfl
@[simp] theorem qu2 (l o n cap sz:Nat):V.one (.msl l o n cap sz)=true:=rfl
@[simp] theorem qsM (l o n cap sz:Nat):V.cells (.msl l o n cap sz)=[(.msl l o n cap sz)]:=rfl
@[simp] theorem qu3 (l n sz:Nat):V.one (.own l n sz)=true:=rfl
@[simp] theorem qsN (l n sz:Nat):V.cells (.own l n sz)=[(.own l n sz)]:=rfl
@[simp] theorem quk (l n o:Nat):V.one (.eptr l n o)=true:=rfl
@[simp] theorem qsq (l n o:Nat):V.cells (.eptr l n o)=[(.eptr l n o)]:=rfl
@[simp] theorem qv5 (g:Nat) (v:V):V.one (.bm g v)=true:=rfl
@[simp] theorem qul (g:Nat) (v:V):V.cells (.bm g v)=[(.bm g v)]:=rfl
@[simp] theorem qu4 (cs:List V):V.one (.agg cs)=false:=rfl
@[simp] theorem qsO (cs:List V):V.cells (.agg cs)=cs:=rfl
@[simp] theorem qv6 (f:Nat) (a b:List V):V.one (.fn f a b)=true:=rfl
@[simp] theorem qum (f:Nat) (a b:List V):V.cells (.fn f a b)=[(.fn f a b)]:=rfl
@[simp] theorem qv7 (l:Nat):V.one (.mp l)=true:=rfl
@[simp] theorem qun (l:Nat):V.cells (.mp l)=[(.mp l)]:=rfl
@[simp] theorem qsP (t:Nat) (v:V):V.one (.iface t v)=true:=rfl
@[simp] theorem qqC (t:Nat) (v:V):V.cells (.iface t v)=[(.iface t v)]:=rfl
@[simp] theorem qu5 (vs:List V):V.one (.tup vs)=false:=rfl
@[simp] theorem qsQ (vs:List V):V.cells (.tup vs)=[(.tup vs)]:=rfl
@[simp] theorem qu6 (l:Nat):V.one (.yld l)=true:=rfl
@[simp] theorem qsR (l:Nat):V.cells (.yld l)=[(.yld l)]:=rfl
@[simp] theorem qup {α : Type} (cs:List α):cutCells cs 0 0=some []:=by simp[cutCells]
@[simp] theorem quq {α : Type} (c : α) (cs:List α) (n:Nat):cutCells (c::cs) 0 (n+1)=(cutCells cs 0 n).map (c :: ·):=by
 simp only[cutCells,List.drop_zero,List.take_succ_cons,List.length_cons,Nat.add_right_cancel_iff]
 split<;>simp
@[simp] theorem qur {α : Type} (c : α) (cs:List α) (o n:Nat):cutCells (c::cs) (o+1) n=cutCells cs o n:=by
 simp only[cutCells,List.drop_succ_cons]
@[simp] theorem qu7 (a b:Int):eqI a b=decide (a=b):=rfl
abbrev I64 (n:Int):Prop := -9223372036854775808<=n/\n<=9223372036854775807
theorem qag (n:Int) (h : -9223372036854775808<=n/\n<=9223372036854775807):IntKind.i64.wrap n=n:=by rw[IntKind.wrap_i64]; omega
def qcO (xs:List Int):List D:=xs.map fun x => .lit (.int .i64 x)
def qek:List Int->D
 | [] => .lit (.slice none 0 0)
 | x::xs => .sl (qcO (x::xs)) (x::xs).length false
@[simp] theorem qsS (σ : S) (xs:List Int):V.len σ .sl (.dat (qek xs))=some xs.length:=by
 cases xs<;>simp[qek,V.len]
@[simp] theorem qsT (xs:List Int):V.one (.dat (qek xs))=true:=by cases xs<;>rfl
@[simp] theorem qqD (xs:List Int):V.cells (.dat (qek xs))=[.dat (qek xs)]:=by cases xs<;>rfl
theorem qoC (xs:List Int) (i:Int) (h0:0<=i) (h1:i<xs.length):qan 1 (.dat (qek xs)) i=some (.dat (.imm (qcO xs) i.toNat)):=by
 cases xs with
 | nil=>simp at h1; omega
 | cons x xs=>simp only[List.length_cons] at h1; simp[qek,qan,h0]; omega
theorem qm3 (xs:List Int) (i:Nat) (h:i<xs.length):cutCells (qcO xs) i 1=some [.lit (.int .i64 xs[i])]:=by
 unfold cutCells qcO
 rw[List.drop_eq_getElem_cons (by simpa using h)]
 simp
end Go.Pm
end SS
section SW
namespace Go.Pm
def RowV (v:D) (xs:List Int):Prop:=
 (∃ o,v = .lit (.slice o 0 0)/\xs=[])\/v = .sl (qcO xs) xs.length false
theorem RowV.one {v:D} {xs:List Int} (h:RowV v xs):V.one (.dat v)=true:=by rcases h with ⟨o,rfl,rfl⟩ | rfl<;>rfl
theorem RowV.cells {v:D} {xs:List Int} (h:RowV v xs):V.cells (.dat v)=[.dat v]:=by rcases h with ⟨o,rfl,rfl⟩ | rfl<;>rfl
theorem qkd (F:Nat->Nat) (w:World) : ∀ xs:List Int,RepDs F w (qcO xs) (xs.map (.int .i64))
 | []=>rfl
 | x::xs=>⟨_,_,rfl,⟨rfl,rfl⟩,qkd F w xs⟩
theorem row_rep (fid:Fid) {w:World} {a:Option Addr} {len cap:Nat} {zs:List Int}
  (h:(a=none/\len=0/\cap=0/\zs=[]) \/ ∃ x,a=some x/\len<=cap/\cap<=maxLen/\zs.length=cap/\(∀ i,i<zs.length->w.cell? (x.add i)=some (.int .i64 (zs.getD i 0))) /\ ∀ n∈zs,(Lit.int .i64 n).wf=true) :
  ∃ d,RowV d (zs.take len)/\(∀ x∈zs.take len,I64 x)/\Rep fid (start w) (.dat d) (.slice a len cap):=by
 rcases h with ⟨rfl,rfl,rfl,rfl⟩ | ⟨x,rfl,h1,h2,h3,h4,h5⟩
 ·exact⟨.lit (.slice none 0 0),.inl ⟨_,rfl,rfl⟩,by simp,rfl,rfl⟩
 by_cases hc:cap=0
 ·subst hc
  have:len=0:=by omega
  subst this
  exact⟨.lit (.slice (some x) 0 0),.inl ⟨_,rfl,by simp⟩,by simp,rfl,rfl⟩
 have hl:(zs.take len).length=len:=by rw[List.length_take]; omega
 have hs:x.spot=none:=World.cell?_spot (v := .int .i64 (zs.getD 0 0)) (by simpa [Addr.add] using h4 0 (by omega))
 obtain⟨b,o,sp⟩:=x
 simp only at hs
 subst hs
 have hcell : ∀ i,i<zs.length->w.cell? ⟨b,o+i,none⟩=some (.int .i64 (zs.getD i 0)):=fun i hi=>by
  have:=h4 i hi
  by_cases h0:i=0
  ·subst h0; simpa [Addr.add] using this
  ·simpa [Addr.add,h0] using this
 refine⟨.sl (qcO (zs.take len)) len false,.inr (by rw[hl]),fun n hn=>?_,b,o,cap,(zs.take len).map (.int .i64),rfl,h1,by simp,qkd _ _ _,?_,?_,?_⟩
 ·have:=h5 n (List.mem_of_mem_take hn)
  simp only[Lit.wf,Bool.and_eq_true,decide_eq_true_eq] at this
  have e1:IntKind.i64.min = -9223372036854775808:=by decide
  have e2:IntKind.i64.max=9223372036854775807:=by decide
  unfold I64
  omega
 ·intro i v hv
  rw[List.getElem?_map,List.getElem?_take] at hv
  split at hv
  ·rename_i hi
   rw[List.getElem?_eq_getElem (by omega)] at hv
   simp only[Option.map_some,Option.some.injEq] at hv
   subst hv
   rw[show (start w).w=w from rfl,hcell i (by omega)]
   simp[List.getD_eq_getElem?_getD,show i<zs.length by omega]
  ·simp at hv
 ·intro hp
  simp only[List.length_map,hl] at hp ⊢
  have:=hcell (len-1) (by omega)
  unfold World.cell? at this
  simp only[start,qmT]
  split at this
  ·rename_i c _ _ hb
   rw[hb]
   simp only[Option.isSome_none,Bool.false_eq_true,if_false] at this
   have hlt:o+(len-1)<c.size:=by
    rcases Nat.lt_or_ge (o+(len-1)) c.size with h' | h'
    ·exact h'
    ·rw[Array.getElem?_eq_none h'] at this; cases this
   simp only
   omega
  ·cases this
 ·intro v hv
  obtain⟨n,_,rfl⟩:=List.mem_map.1 hv
  rfl
theorem qvp (fid:Fid) (w:World) (n:Int):Rep fid (start w) (.int n) (.int .i64 n):=⟨rfl,rfl⟩
theorem reps_cons {fid:Fid} {Γ : Ctx} {a:V} {x:Value} {as:List V} {xs:List Value} (h:Rep fid Γ a x) (k:Reps fid Γ as xs):Reps fid Γ (a::as) (x::xs):=⟨_,_,rfl,h,k⟩
end Go.Pm
end SW
section SU
namespace Go.Pm
def fl (P:Program):Nat->TypeId->DataW Unit->Option (List Value)
 | 0,_,_=>none
 | m+1,t,d=>match P.underlying t,d with
  | some (.int k),.lit (.int k' n)=>if k=k' then some [.int k n] else none
  | some (.array n e),.agg ds=>match ds.mapM (fl P m e) with
   | some vs=>if ds.length=n/\vs.all (fun v=>v.length==P.cellsOf e)/\P.cellsOf t=n*P.cellsOf e then some vs.flatten else none
   | none=>none
  | some (.struct fs),.agg ds=>match (fs.toList.zip ds).mapM (fun x=>fl P m x.1.type x.2) with
   | some vs=>if ds.length=fs.size/\((fs.toList.zip vs).all (fun x=>x.2.length==P.cellsOf x.1.type))/\(List.range fs.size).all (fun i=>(fs[i]?.map (·.offset)).getD 0==(vs.take i).flatten.length)/\P.cellsOf t=vs.flatten.length then some vs.flatten else none
   | none=>none
  | _,_=>none
theorem parts {α : Type} : ∀ (vs:List (List α)) (cs:List α) (o:Nat),(∀ (i:Nat) (v:List α),vs[i]?=some v->(cs.drop (o+(vs.take i).flatten.length)).take v.length=v)->cs.length=o+vs.flatten.length->cs.drop o=vs.flatten
 | [],cs,o,_,hl=>by simp at hl; simp[hl]
 | v::vs,cs,o,h,hl=>by
  have h0:=h 0 v rfl
  simp only[List.take_zero,List.flatten_nil,List.length_nil,Nat.add_zero] at h0
  have ih:=parts vs cs (o+v.length) (fun i u hu=>by
   have:=h (i+1) u hu
   simpa [Nat.add_assoc] using this) (by rw[List.flatten_cons,List.length_append] at hl; omega)
  rw[List.flatten_cons,<- ih]
  have e:=List.take_append_drop v.length (cs.drop o)
  rw[h0,List.drop_drop] at e
  exact e.symm
theorem qjw {α β : Type} {f : α -> Option β} : ∀ {l:List α} {r:List β},l.mapM f=some r->r.length=l.length /\ ∀ (i:Nat) (a : α),l[i]?=some a -> ∃ b,r[i]?=some b/\f a=some b
 | [],r,h=>by simp at h; subst h; simp
 | a::l,r,h=>by
  simp only[List.mapM_cons,Option.pure_def,Option.bind_eq_bind,Option.bind_eq_some_iff,Option.some.injEq] at h
  obtain⟨b,hb,r',hr,rfl⟩:=h
  obtain⟨h1,h2⟩:=qjw hr
  refine⟨by simp[h1],fun i x hx=>?_⟩
  cases i with
  | zero=>simp at hx; subst hx; exact⟨b,rfl,hb⟩
  | succ i=>simpa using h2 i x (by simpa using hx)
theorem qeF {α : Type} (m:Nat) : ∀ (vs:List (List α)) (i:Nat),(∀ v∈vs,v.length=m)->i<=vs.length->(vs.take i).flatten.length=i*m
 | _,0,_,_=>by simp
 | [],i+1,_,h=>by simp at h
 | v::vs,i+1,h,hi=>by
  simp only[List.take_succ_cons,List.flatten_cons,List.length_append]
  rw[qeF m vs i (fun u hu=>h u (List.mem_cons_of_mem _ hu)) (by simpa using hi),h v List.mem_cons_self,Nat.add_mul]
  omega
section
variable {enc:TypeId × Value->Unit} {P:Program} {w:World} {base:Nat} {spare:Nat->Bool} {held:Bool}
theorem qjx : ∀ (m:Nat) (t:TypeId) (d:DataW Unit) (vs:List Value) (fuel:Nat) (cs:List Value) (p:List MemPlace),fl P m t d=some vs->DataW.trod enc P w base spare held fuel t cs=some (d,p)->cs=vs
 | 0,t,d,vs,fuel,cs,p,h,_=>by simp[fl] at h
 | m+1,t,d,vs,fuel,cs,p,h,ht=>by
  unfold fl at h
  split at h
  ·rename_i k k' n hu
   split at h
   ·rename_i hk
    subst hk
    cases h
    obtain⟨n',rfl,e,_⟩:=DataW.trod_int hu ht
    simp only[Prod.mk.injEq,DataW.lit.injEq,Lit.int.injEq] at e
    rw[e.1.2]
   ·cases h
  ·rename_i n e ds hu
   split at h
   ·rename_i us hus
    split at h
    ·rename_i hc
     cases h
     obtain⟨h1,h2,h3⟩:=hc
     obtain⟨xs,q,rfl,hx,hl,hn,hel⟩:=DataW.trod_array hu ht
     simp only[Prod.mk.injEq,DataW.agg.injEq] at hx
     obtain⟨g1,g2⟩:=qjw hus
     have hlen : ∀ v∈us,v.length=P.cellsOf e:=fun v hv=>by simpa using List.all_eq_true.1 h2 v hv
     have hp:=parts us cs 0 (fun i v hv=>by
      have hi:i<us.length:=(List.getElem?_eq_some_iff.1 hv).1
      have hfl:=qeF (P.cellsOf e) us i hlen (by omega)
      rw[Nat.zero_add,hfl,hlen v (List.mem_of_getElem? hv)]
      have:=hel i (by omega)
      obtain⟨x,hxi⟩ : ∃ x,xs[i]?=some x:=⟨xs[i]'(by omega),List.getElem?_eq_getElem (by omega)⟩
      rw[hxi] at this
      have hd:ds[i]?=some x.1:=by rw[hx.1]; simp[hxi]
      obtain⟨b,hb,hf⟩:=g2 i _ hd
      rw[hv] at hb
      cases hb
      exact qjx m e x.1 v q _ x.2 hf this) (by
      have hfl:=qeF (P.cellsOf e) us us.length hlen (by omega)
      rw[List.take_length] at hfl
      rw[hl,h3,hfl,g1,h1]; simp)
     simpa using hp
    ·cases h
   ·cases h
  ·rename_i fs ds hu
   split at h
   ·rename_i us hus
    split at h
    ·rename_i hc
     cases h
     obtain⟨h1,h2,h3,h4⟩:=hc
     obtain⟨xs,q,rfl,hx,hl,hn,hel⟩:=DataW.trod_struct hu ht
     simp only[Prod.mk.injEq,DataW.agg.injEq] at hx
     obtain⟨g1,g2⟩:=qjw hus
     have gl:us.length=fs.size:=by rw[g1]; simp[h1]
     have hp:=parts us cs 0 (fun i v hv=>by
      have hi:i<us.length:=(List.getElem?_eq_some_iff.1 hv).1
      obtain⟨f,hf⟩ : ∃ f,fs[i]?=some f:=⟨fs[i]'(by omega),Array.getElem?_eq_getElem (by omega)⟩
      have hfl:fs.toList[i]?=some f:=by simpa using hf
      have ho:=List.all_eq_true.1 h3 i (by simp; omega)
      simp only[hf,Option.map_some,Option.getD_some,beq_iff_eq] at ho
      have hz:(fs.toList.zip us)[i]?=some (f,v):=by simp[List.getElem?_zip_eq_some,hfl,hv]
      have hlv:=List.all_eq_true.1 h2 (f,v) (List.mem_of_getElem? hz)
      simp only[beq_iff_eq] at hlv
      rw[Nat.zero_add,<- ho,hlv]
      have:=hel i f hf
      obtain⟨x,hxi⟩ : ∃ x,xs[i]?=some x:=⟨xs[i]'(by omega),List.getElem?_eq_getElem (by omega)⟩
      rw[hxi] at this
      have hd:ds[i]?=some x.1:=by rw[hx.1]; simp[hxi]
      have hz2:(fs.toList.zip ds)[i]?=some (f,x.1):=by simp[List.getElem?_zip_eq_some,hfl,hd]
      obtain⟨b,hb,hf2⟩:=g2 i _ hz2
      rw[hv] at hb
      cases hb
      exact qjx m f.type x.1 v q _ x.2 hf2 this) (by rw[hl,h4]; simp)
     simpa using hp
    ·cases h
   ·cases h
  ·cases h
end
theorem qgq {F:Nat->Nat} {w:World} : ∀ (vs:List Value),(vs.all fun v=>qbs v)=true->RepDs F w (vs.map .lit) vs
 | [],_=>rfl
 | v::vs,h=>by
  simp only[List.all_cons,Bool.and_eq_true] at h
  exact⟨v,vs,rfl,⟨rfl,h.1⟩,qgq vs h.2⟩
theorem qr8 {P:Program} {w:World} {n:String} {d:DataW Unit} {g:Nat} {t:TypeId} {vs:List Value} {m:Nat} (hg:P.globalNamed n=some g) (ht:(P.globals[g]?).map (·.type)=some t)
  (hf:fl P m t d=some vs) (hv:(vs.all fun v=>qbs v&&v.oneCell')=true) (h:laidMet P [(n,d)] w):RepDs (qmT w) w (vs.map .lit) vs/\Row (qmT w) w g 0 vs:=by
 obtain⟨ps,⟨g0,t0,cs,fuel,p,q,hg0,ht0,hvar,hd,_,hps⟩,_,hcell⟩:=h
 obtain rfl:=Option.some.inj (hg.symm.trans hg0)
 obtain rfl:=Option.some.inj (ht.symm.trans ht0)
 have e:=qjx m t d vs fuel cs.toList p hf hd
 have hc : ∀ i,w.cell? ⟨g,i,none⟩=vs[i]?:=fun i=>by rw[World.var?_cell hg hvar i,<- e]; simp
 refine⟨qgq vs (by
  rw[List.all_eq_true] at hv ⊢
  intro v hvm
  have:=hv v hvm
  simp only[Bool.and_eq_true] at this
  exact this.1),fun i v hi=>by rw[Nat.zero_add,hc,hi],fun hl=>?_,fun v hvm=>?_⟩
 ·have h0:w.cell? ⟨g,vs.length-1,none⟩=some (vs[vs.length-1]'(by omega)):=by rw[hc,List.getElem?_eq_getElem]
  unfold World.cell? at h0
  unfold qmT
  split at h0
  ·rename_i c _ _ hb
   rw[hb]
   simp only[Option.isSome_none,Bool.false_eq_true,if_false] at h0
   have hlt:vs.length-1<c.size:=by
    rcases Nat.lt_or_ge (vs.length-1) c.size with h' | h'
    ·exact h'
    ·rw[Array.getElem?_eq_none h'] at h0; cases h0
   simp only
   omega
  ·cases h0
 ·have:=List.all_eq_true.1 hv v hvm
  simp only[Bool.and_eq_true] at this
  exact this.2
end Go.Pm
end SU
section SU2
namespace Go.Pm
open Go
theorem qlw {P:Program} {w:World} {n:String} {d:DataW Unit} : ∀ (L:List (String × DataW Unit)) (ps:List MemPlace),DataW.LaidVars P w L ps->(n,d)∈L ->
  ∃ g t cs fuel p,P.globalNamed n=some g/\(P.globals[g]?).map (·.type)=some t/\w.var? P n=some cs/\DataW.trod (fun _=>()) P w 0 (fun _=>true) false fuel t cs.toList=some (d,p)
 | [],ps,_,hm=>by cases hm
 | (n',d')::r,ps,h,hm=>by
  obtain⟨g,t,cs,fuel,p,q,h1,h2,h3,h4,h5,_⟩:=h
  rcases List.mem_cons.1 hm with e | hm
  ·cases e; exact⟨g,t,cs,fuel,p,h1,h2,h3,h4⟩
  ·exact qlw r q h5 hm
theorem glb_of_laids {P:Program} {w:World} {n:String} {d:DataW Unit} {L:List (String × DataW Unit)} {g:Nat} {t:TypeId} {vs:List Value} {m:Nat} (hmem:(n,d)∈L) (hg:P.globalNamed n=some g) (ht:(P.globals[g]?).map (·.type)=some t)
  (hf:fl P m t d=some vs) (hv:(vs.all fun v=>qbs v&&v.oneCell')=true) (h:laidMet P L w):RepDs (qmT w) w (vs.map .lit) vs/\Row (qmT w) w g 0 vs:=by
 obtain⟨ps,hL,_,hcell⟩:=h
 obtain⟨g0,t0,cs,fuel,p,hg0,ht0,hvar,hd⟩:=qlw L ps hL hmem
 obtain rfl:=Option.some.inj (hg.symm.trans hg0)
 obtain rfl:=Option.some.inj (ht.symm.trans ht0)
 have e:=qjx m t d vs fuel cs.toList p hf hd
 have hc : ∀ i,w.cell? ⟨g,i,none⟩=vs[i]?:=fun i=>by rw[World.var?_cell hg hvar i,<- e]; simp
 refine⟨qgq vs (by
  rw[List.all_eq_true] at hv ⊢
  intro v hvm
  have:=hv v hvm
  simp only[Bool.and_eq_true] at this
  exact this.1),fun i v hi=>by rw[Nat.zero_add,hc,hi],fun hl=>?_,fun v hvm=>?_⟩
 ·have h0:w.cell? ⟨g,vs.length-1,none⟩=some (vs[vs.length-1]'(by omega)):=by rw[hc,List.getElem?_eq_getElem]
  unfold World.cell? at h0
  unfold qmT
  split at h0
  ·rename_i c _ _ hb
   rw[hb]
   simp only[Option.isSome_none,Bool.false_eq_true,if_false] at h0
   have hlt:vs.length-1<c.size:=by
    rcases Nat.lt_or_ge (vs.length-1) c.size with h' | h'
    ·exact h'
    ·rw[Array.getElem?_eq_none h'] at h0; cases h0
   simp only
   omega
  ·cases h0
 ·have:=List.all_eq_true.1 hv v hvm
  simp only[Bool.and_eq_true] at this
  exact this.2
end Go.Pm
end SU2
section SW2
namespace Go.Pm
def qmM (xs:List Int):List V:=xs.map fun n=>V.int n
@[simp] theorem qrI (xs:List Int):(qmM xs).length=xs.length:=by simp[qmM]
@[simp] theorem qqn (xs:List Int):(qcO xs).length=xs.length:=by simp[qcO]
@[simp] theorem qsw (xs:List Int):qaI (qmM xs)=[]:=by
 induction xs with
 | nil=>rfl
 | cons x xs ih=>simpa [qmM] using ih
@[simp] theorem qtL (r:Nat->Nat) (xs:List Int):qdX r (qmM xs)=qmM xs:=by
 induction xs with
 | nil=>rfl
 | cons x xs ih=>simpa [qmM] using ih
@[simp] theorem qrJ (xs:List Int):qbE (qmM xs)=some (qcO xs):=by
 induction xs with
 | nil=>rfl
 | cons x xs ih=>
  have:qbE (qmM (x::xs))=match qbE (qmM xs) with
   | some ds=>some (.lit (.int .i64 x)::ds)
   | none=>none:=rfl
  rw[this,ih]; rfl
@[simp] theorem qpy (xs:List Int):(qcO xs).all (fun d=>V.one (.dat d))=true:=by
 simp[qcO,Value.oneCell']
@[simp] theorem qqo (xs:List Int):(qmM xs).all V.one=true:=by
 simp[qmM,Value.oneCell']
@[simp] theorem qpz (xs:List Int):(∀ x∈qcO xs,V.one (.dat x)=true):=by
 simp[qcO,Value.oneCell']
def qwl (cs:List Int) (i v:Int):List Int:=cs.set i.toNat v
@[simp] theorem qrK (cs:List Int) (i v:Int):(qwl cs i v).length=cs.length:=by simp[qwl]
abbrev wr (n:Int):Int:=IntKind.i64.wrap n
def qcU (n m:Int):Int:=(if n<0 then -(n+1) else n).tmod m
theorem qfZ {n m:Int} (h1:I64 n) (hm:1<=m):0<=qcU n m/\qcU n m<m:=by
 unfold qcU
 split
 ·exact⟨Int.tmod_nonneg _ (by omega),Int.tmod_lt_of_pos _ (by omega)⟩
 ·exact⟨Int.tmod_nonneg _ (by omega),Int.tmod_lt_of_pos _ (by omega)⟩
structure IsRow (d:D) (xs:List Int):Prop where
 len : ∀ σ,V.len σ .sl (.dat d)=some xs.length
 at_ : ∀ i:Int,0<=i->i<xs.length->qan 1 (.dat d) i=some (.dat (.imm (qcO xs) i.toNat))
 one:V.one (.dat d)=true
 cells:V.cells (.dat d)=[.dat d]
theorem qpA (xs:List Int) (f:Bool):IsRow (.sl (qcO xs) xs.length f) xs where
 len:=fun _=>rfl
 at_:=fun i h0 h1=>by simp[qan,h0,h1]
 one:=rfl
 cells:=rfl
theorem qnS (o:Option Addr):IsRow (.lit (.slice o 0 0)) [] where
 len:=fun _=>rfl
 at_:=fun i h0 h1=>by simp at h1; omega
 one:=rfl
 cells:=rfl
theorem qam {prog:Nat->Option PFun} {k:Nat} {b:PC} {fr fr':Fr} {σ σ':S} (h:gcF k fr σ = gcF k fr' σ'):Z prog (.loop k b fr σ)=Z prog (.loop k b fr' σ'):=by
 rw[qac,qac,h]
theorem qnT (cs:List D) (n:Nat) (f:Bool) (i:Int) (h0:0<=i) (h1:i<n):qan 1 (.dat (.sl cs n f)) i=some (.dat (.imm cs i.toNat)):=by
 simp[qan,h0,h1]
theorem qnU (σ : S):V.len σ .sl (.dat (.lit (.slice none 0 0)))=some 0:=rfl
theorem qtM (σ : S) (cs:List D) (n:Nat) (f:Bool):V.len σ .sl (.dat (.sl cs n f))=some n:=rfl
@[simp] theorem qvE:Fr.noD []=[]:=rfl
@[simp] theorem quA (k:Nat) (v:V) (r:Fr):Fr.noD ((k,v)::r)=if k=1000000 then Fr.noD r else (k,v)::Fr.noD r:=by
 simp only[Fr.noD,List.filter_cons,dkey]
 by_cases h:k=1000000<;>simp[h]
end Go.Pm
end SW2
section SX1
namespace Go.Pm
theorem qsv {d:D} {xs:List Int} (h:RowV d xs):IsRow d xs:=by
 rcases h with ⟨o,rfl,rfl⟩ | rfl
 ·exact qnS o
 ·exact qpA xs false
theorem qwk {n:Int} (h:(Lit.int .i64 n).wf=true):I64 n:=by
 simp only[Lit.wf,Bool.and_eq_true,decide_eq_true_eq] at h
 have e1:IntKind.i64.min = -9223372036854775808:=by decide
 have e2:IntKind.i64.max=9223372036854775807:=by decide
 unfold I64
 omega
theorem qvB {w:World} {a:Option Addr} {len cap:Nat} {zs:List Int}
  (h:(a=none/\len=0/\cap=0/\zs=[]) \/ ∃ x,a=some x/\len<=cap/\cap<=maxLen/\zs.length=cap/\(∀ i,i<zs.length->w.cell? (x.add i)=some (.int .i64 (zs.getD i 0))) /\ ∀ n∈zs,(Lit.int .i64 n).wf=true) :
  (zs.take len).length<=9223372036854775807:=by
 rcases h with ⟨rfl,rfl,rfl,rfl⟩ | ⟨x,rfl,h1,h2,h3,h4,h5⟩
 ·simp
 ·have e:maxLen<=9223372036854775807:=by decide
  rw[List.length_take]
  omega
theorem quz (fid:Fid) (w:World) (b:Bool):Rep fid (start w) (.bool b) (.bool b):=⟨rfl,rfl⟩
end Go.Pm
end SX1
section SX3
namespace Go.Pm
open Go
theorem qv1 (fid:Fid) (w:World) (s:ByteArray):Rep fid (start w) (.str s) (.string s):=⟨rfl,rfl⟩
theorem quP (fid:Fid) (w:World) (n:Int):Rep fid (start w) (.dat (.lit (.int .u8 n))) (.int .u8 n):=⟨rfl,rfl⟩
theorem qwV {n:Int} (h:(Lit.int .u8 n).wf=true) : ∃ c:Nat,c<256/\n=c:=by
 have:0<=n/\n<256:=by
  simp only[Lit.wf,Bool.and_eq_true,decide_eq_true_eq] at h
  have e1:IntKind.u8.min=0:=by decide
  have e2:IntKind.u8.max=255:=by decide
  omega
 exact⟨n.toNat,by omega,by omega⟩
end Go.Pm
end SX3
