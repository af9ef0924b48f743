/- The abstract program's meaning without fuel: equations to reckon with. Reckoning with the abstract machine: what simp may unfold; rows of numbers. What a law is given, as abstract values; what it may leave behind. What a package variable holds, read off the datum that it is laid with. What a package variable holds, out of a list of several that are laid. Rows of numbers, places, wraps: what the walks of all chapters use. A law's arguments, as the abstract machine's values. A string, a byte, as arguments of a law. -/
import Derived.Test.YtjdbkncfebebnaaDoorPmR
import Derived.IntWalk
import Derived.DataReads
import Derived.Below
import Derived.OpenShut
import Derived.FnData
import Derived.LaidMore
set_option linter.unusedSimpArgs false
set_option linter.unusedVariables false
section SY
namespace Go.Pm
def Le (C C':Task->Option Res):Prop := ∀ t r,C t=some r->C' t=some r
section
variable {C C':Task->Option Res}
theorem qbM (h:Le C C') {f:List V->S->Task} {args:List V} {σ : S} {r:V × S} (hr:qbN C f args σ = some r):qbN C' f args σ = some r:=by
 unfold qbN at hr ⊢
 simp only at hr ⊢
 split at hr
 ·rename_i a s hres
  split at hr
  ·cases hr
  ·rename_i v s' hnp hc
   simp only[h _ _ hc]
   exact hr
  ·cases hr
 ·cases hr
theorem qdM (h:Le C C') {f:List V->S->Task} {args:List V} {σ : S} {r:V × S} (hr:qae C f args σ = some r):qae C' f args σ = some r:=by
 unfold qae at hr ⊢
 simp only at hr ⊢
 split at hr
 ·rename_i a s hres
  split at hr
  ·rename_i v s' hc
   simp only[h _ _ hc]
   exact hr
  ·cases hr
 ·cases hr
theorem qiF (h:Le C C') {fr:Fr} {σ : S} {op:O} {r:V × S} (hr:qb8 C fr σ op=some r):qb8 C' fr σ op=some r:=by
 cases op with
 | call f xs=>
  simp only[qb8] at hr ⊢
  split at hr
  ·exact qdM h hr
  ·cases hr
 | callv f xs=>
  simp only[qb8] at hr ⊢
  split at hr
  ·exact qdM h hr
  ·exact qdM h hr
  ·cases hr
 | invoke tbl x xs=>
  simp only[qb8] at hr ⊢
  split at hr
  ·split at hr
   ·exact qdM h hr
   ·cases hr
  ·cases hr
 | _=>exact hr
theorem qcr (h:Le C C') {fr:Fr} {σ : S} {op:O} {r:V × S} (hr:qaI C fr σ op=some r):qaI C' fr σ op=some r:=by
 cases op with
 | call f xs=>
  simp only[qaI] at hr ⊢
  split at hr
  ·exact qbM h hr
  ·cases hr
 | callv f xs=>
  simp only[qaI] at hr ⊢
  split at hr
  ·exact qbM h hr
  ·exact qbM h hr
  ·exact qbM h hr
  ·cases hr
 | invoke tbl x xs=>
  simp only[qaI] at hr ⊢
  split at hr
  ·split at hr
   ·exact qbM h hr
   ·cases hr
  ·cases hr
 | _=>exact hr
theorem qe3 (h:Le C C') : ∀ {is:List I} {fr:Fr} {σ : S} {r:Fr × S},qeJ C is fr σ = some r->qeJ C' is fr σ = some r
 | [],_,_,_,hr=>hr
 | i::is,fr,σ,r,hr=>by
  simp only[qeJ] at hr ⊢
  split at hr
  ·rename_i hw
   split at hr
   ·rename_i v σ' hv
    simp only[qcr h hv]
    exact qe3 h hr
   ·cases hr
  ·exact qe3 h hr
  ·cases hr
theorem qek (h:Le C C') {f:List V->S->Task} {args:List V} {σ : S} {r:V × S} (hr:qae C f args σ = some r):qbN C' f args σ = none:=by
 unfold qae at hr
 unfold qbN
 simp only at hr ⊢
 split at hr
 ·rename_i a s hres
  split at hr
  ·rename_i v s' hc
   simp only[h _ _ hc]
  ·cases hr
 ·cases hr
theorem qfT (h:Le C C') {fr:Fr} {σ : S} {op:O} {r:V × S} (hr:qb8 C fr σ op=some r):qaI C' fr σ op=none:=by
 cases op with
 | call f xs=>
  simp only[qb8] at hr
  simp only[qaI]
  split at hr
  ·exact qek h hr
  ·cases hr
 | callv f xs=>
  simp only[qb8] at hr
  simp only[qaI]
  split at hr
  ·rename_i h1 h2; simp only[h1,h2]; exact qek h hr
  ·rename_i h1 h2; simp only[h1,h2]; exact qek h hr
  ·cases hr
 | invoke tbl x xs=>
  simp only[qb8] at hr
  simp only[qaI]
  split at hr
  ·split at hr
   ·exact qek h hr
   ·cases hr
  ·cases hr
 | panic x=>rfl
 | _=>cases hr
theorem qdB (h:Le C C') : ∀ {is:List I} {fr:Fr} {σ : S} {r:V × Fr × S},qdb C is fr σ = some r->qdb C' is fr σ = some r/\qeJ C' is fr σ = none
 | [],_,_,_,hr=>by simp[qdb] at hr
 | i::is,fr,σ,r,hr=>by
  simp only[qdb,qeJ] at hr ⊢
  split at hr
  ·rename_i hw
   split at hr
   ·rename_i v σ' hv
    simp only[qcr h hv]
    exact qdB h hr
   ·split at hr
    ·rename_i v σ' hv
     simp only[qfT h hv,qiF h hv]
     exact⟨hr,trivial⟩
    ·cases hr
  ·exact qdB h hr
  ·cases hr
theorem qc8 (h:Le C C') : ∀ {is:List I} {q:Nat} {fr:Fr} {σ : S} {r:Nat × List Ev × V × S},qaH C q is fr σ = some r->qaH C' q is fr σ = some r/\qdo C' is fr σ = none
 | [],_,_,_,_,hr=>by simp[qaH] at hr
 | i::is,q,fr,σ,r,hr=>by
  simp only[qaH,qdo] at hr ⊢
  split at hr
  ·rename_i hw
   split at hr
   ·rename_i v σ' hv
    simp only[qcr h hv]
    split at hr
    ·rename_i p l u σ'' hrest
     obtain⟨h1,h2⟩:=qc8 h hrest
     simp only[h1,h2]
     exact⟨hr,trivial⟩
    ·cases hr
   ·split at hr
    ·rename_i v σ' hv
     simp only[qfT h hv,qiF h hv]
     exact⟨hr,trivial⟩
    ·cases hr
  ·split at hr
   ·rename_i p l u σ'' hrest
    obtain⟨h1,h2⟩:=qc8 h hrest
    simp only[h1,h2]
    exact⟨hr,trivial⟩
   ·cases hr
  ·cases hr
theorem qdC (h:Le C C') : ∀ {is:List I} {fr:Fr} {σ : S} {r:List Ev × Fr × S},qdo C is fr σ = some r->qdo C' is fr σ = some r
 | [],_,_,_,hr=>hr
 | i::is,fr,σ,r,hr=>by
  simp only[qdo] at hr ⊢
  split at hr
  ·rename_i hw
   split at hr
   ·rename_i v σ' hv
    simp only[qcr h hv]
    split at hr
    ·rename_i l fr' σ'' hrest
     simp only[qdC h hrest]; exact hr
    ·cases hr
   ·cases hr
  ·split at hr
   ·rename_i l fr' σ'' hrest
    simp only[qdC h hrest]; exact hr
   ·cases hr
  ·cases hr
theorem qd3 (h:Le C C') : ∀ {is:List I} {fr:Fr} {σ : S} {r:List (Fr × S)},qbI C is fr σ = some r->qbI C' is fr σ = some r
 | [],_,_,_,hr=>hr
 | i::is,fr,σ,r,hr=>by
  simp only[qbI] at hr ⊢
  split at hr
  ·rename_i hw
   split at hr
   ·rename_i v σ' hv
    simp only[qcr h hv]
    split at hr
    ·rename_i l hrest
     simp only[qd3 h hrest]; exact hr
    ·cases hr
   ·cases hr
  ·split at hr
   ·rename_i l hrest
    simp only[qd3 h hrest]; exact hr
   ·cases hr
  ·cases hr
theorem qaU (h:Le C C') {k:Nat} : ∀ {pc:PC} {fr:Fr} {σ : S} {r:Ex × Fr × S},run C k pc fr σ = some r->run C' k pc fr σ = some r
 | .range f ps as bd,fr,σ,r,hr=>by
  simp only[run] at hr ⊢
  split at hr
  ·split at hr
   ·rename_i v σ' hx
    split at hx
    ·rename_i hl
     rw[if_pos hl]
     simp only[qbM h hx]
     exact hr
    ·cases hx
   ·cases hr
  ·cases hr
 | .skip,_,_,_,hr=>hr
 | .exit _,_,_,_,hr=>hr
 | .ret,_,_,_,hr=>hr
 | .region none ops keep _,fr,σ,r,hr=>by
  simp only[run] at hr ⊢
  split at hr
  ·rename_i fr' σ' hx; simp only[qe3 h hx]; exact hr
  ·split at hr
   ·rename_i v fr' σ' hx
    obtain⟨h1,h2⟩:=qdB h hx
    simp only[h1,h2]; exact hr
   ·cases hr
 | .region (some rs) ops keep _,fr,σ,r,hr=>by
  simp only[run] at hr ⊢
  split at hr
  ·rename_i es fr' σ' hx
   simp only[qdC h hx]
   split at hr
   ·rename_i hc; rw[if_pos hc]; exact hr
   ·rename_i hc
    rw[if_neg hc]
    split at hr
    ·rename_i ss ht; simp only[qd3 h ht]; exact hr
    ·cases hr
  ·split at hr
   ·rename_i p es v σ' hx
    obtain⟨h1,h2⟩:=qc8 h hx
    simp only[h1,h2]; exact hr
   ·cases hr
 | .seq a b,fr,σ,r,hr=>by
  simp only[run] at hr ⊢
  split at hr
  ·rename_i fr' σ' hx; simp only[qaU h hx]; exact qaU h hr
  ·rename_i hne
   have:=qaU h hr
   rw[this]
   obtain⟨e,fr',σ'⟩:=r
   cases e with
   | normal=>exact absurd hr (hne _ _)
   | exit id=>rfl
   | ret=>rfl
   | pan v=>rfl
 | .cond c a b,fr,σ,r,hr=>by
  simp only[run] at hr ⊢
  split at hr
  ·exact qaU h hr
  ·exact qaU h hr
  ·cases hr
 | .block id b,fr,σ,r,hr=>by
  simp only[run] at hr ⊢
  split at hr
  ·rename_i id' fr' σ' hx; simp only[qaU h hx]; exact hr
  ·rename_i hne
   have:=qaU h hr
   rw[this]
   obtain⟨e,fr',σ'⟩:=r
   cases e with
   | normal=>rfl
   | exit id=>exact absurd hr (hne _ _ _)
   | ret=>rfl
   | pan v=>rfl
 | .loop b,fr,σ,r,hr=>by
  simp only[run] at hr ⊢
  split at hr
  ·rename_i e fr' σ' hx; simp only[h _ _ hx]; exact hr
  ·cases hr
theorem qel (h:Le C C') {args:List V} {σ : S} {r:Res} (hr:qcx C args σ = some r):qcx C' args σ = some r:=by
 unfold qcx at hr ⊢
 split at hr
 ·split at hr
  ·split at hr
   ·rename_i hlp hc
    simp only[if_pos hc]
    split at hr
    ·rename_i fr1 σ1 hx
     simp only[qaU h hx]
     split at hr
     ·split at hr
      ·rename_i hlp1 hst
       simp only[hlp1,if_pos hst]
       split at hr
       ·cases hr
       ·rename_i e fr2 σ2 hnp hy
        simp only[qaU h hy]
        cases e with
        | pan v=>exact (hnp _ rfl).elim
        | normal=>exact hr
        | exit id=>exact hr
        | ret=>exact hr
       ·cases hr
      ·cases hr
     ·cases hr
    ·cases hr
   ·cases hr
  ·cases hr
 ·cases hr
theorem qcs (h:Le C C') : ∀ {l:List V} {σ : S} {r:S},qbw C l σ = some r->qbw C' l σ = some r
 | [],σ,r,hr=>hr
 | v::l,σ,r,hr=>by
  unfold qbw at hr ⊢
  split at hr
  ·rename_i e; cases e
  ·rename_i id a r' e
   cases e
   split at hr
   ·rename_i v' σ' hc
    simp only[qbM h hc]
    exact qcs h hr
   ·cases hr
  ·cases hr
theorem qiG (h:Le C C') {pf:PFun} {k:Nat} {fr:Fr} {σ : S} {r:Res} (hr:qfJ C pf k fr σ = some r):qfJ C' pf k fr σ = some r:=by
 unfold qfJ at hr ⊢
 split at hr
 ·rename_i σ' hx; simp only[qcs h hx]; exact hr
 ·cases hr
theorem qhB (h:Le C C') {pf:PFun} {k:Nat} {v:V} {fr:Fr} {σ : S} {r:Res} (hr:qf3 C pf k v fr σ = some r):qf3 C' pf k v fr σ = some r:=by
 unfold qf3 at hr ⊢
 split at hr
 ·exact hr
 ·split at hr
  ·cases hr
  ·rename_i hn
   rw[if_neg hn]
   split at hr
   ·rename_i v' σ' hc
    simp only[qbM h hc]
    split at hr
    ·rename_i σ'' hx; simp only[qcs h hx]; exact hr
    ·cases hr
   ·cases hr
 ·cases hr
theorem qfU (h:Le C C') {pf:PFun} {args:List V} {σ : S} {r:Res} (hr:qcy C pf args σ = some r):qcy C' pf args σ = some r:=by
 have lv : ∀ {k fr σ},(if pf.df then qfJ C pf k fr σ else qdG pf k fr σ)=some r->(if pf.df then qfJ C' pf k fr σ else qdG pf k fr σ)=some r:=fun hr=>by
  split at hr
  ·rename_i hd; rw[if_pos hd]; exact qiG h hr
  ·rename_i hd; rw[if_neg hd]; exact hr
 unfold qcy at hr ⊢
 split at hr
 ·rename_i hl
  rw[if_pos hl]
  split at hr
  ·rename_i fr σ' hx; simp only[qaU h hx]; exact lv hr
  ·rename_i fr σ' hx; simp only[qaU h hx]; exact lv hr
  ·rename_i v fr σ' hx; simp only[qaU h hx]; exact qhB h hr
  ·cases hr
 ·cases hr
theorem qfv (h:Le C C') {pf:PFun} {args:List V} {σ : S} {r:Res} (hr:qbl C pf args σ = some r):qbl C' pf args σ = some r:=by
 unfold qbl at hr ⊢
 split at hr
 ·split at hr
  ·rename_i hl
   rw[if_pos hl]
   split at hr
   ·rename_i fr σ' hx; simp only[qaU h hx]; exact hr
   ·rename_i fr σ' hx; simp only[qaU h hx]; exact hr
   ·cases hr
  ·cases hr
 ·cases hr
end
variable {prog:Nat->Option PFun}
theorem qkA : ∀ n,Le (qcz prog n) (qcz prog (n+1))
 | 0=>fun t r h=>by simp[qcz] at h
 | n+1=>fun t r h=>by
  have ih:=qkA n
  cases t with
  | call f args σ=>
   simp only[qcz] at h ⊢
   split at h
   ·split at h
    ·cases h
    ·rename_i hc; rw[if_neg hc]; exact qfU ih h
   ·cases h
  | dcall f args σ=>
   simp only[qcz] at h ⊢
   split at h
   ·exact qfv ih h
   ·cases h
  | round args σ=>
   simp only[qcz] at h ⊢
   exact qel ih h
  | loop k b fr σ=>
   simp only[qcz] at h ⊢
   split at h
   ·rename_i fr0 σ0 hg
    split at h
    ·rename_i fr' σ' hx
     rw[qaU ih hx]
     exact ih _ _ h
    ·rename_i e fr' σ' hne hx
     rw[qaU ih hx]
     cases e with
     | normal=>exact absurd rfl hne
     | exit id=>exact h
     | ret=>exact h
     | pan v=>exact h
    ·cases h
   ·cases h
theorem qa5 {m n:Nat} (h:m<=n):Le (qcz prog m) (qcz prog n):=by
 induction n with
 | zero => have:m=0:=by omega
           subst this; exact fun _ _ h=>h
 | succ n ih=>
  rcases Nat.lt_or_ge n m with h' | h'
  ·have:m=n+1:=by omega
   subst this; exact fun _ _ h=>h
  ·exact fun t r ht=>qkA n t r (ih h' t r ht)
open Classical in
noncomputable def Z (prog:Nat->Option PFun) (t:Task):Option Res:=if h : ∃ n r,qcz prog n t=some r then qcz prog (Classical.choose h) t else none
theorem Z_iff {t:Task} {r:Res}:Z prog t=some r ↔ ∃ n,qcz prog n t=some r:=by
 classical
 unfold Z
 constructor
 ·intro h
  split at h
  ·exact⟨_,h⟩
  ·cases h
 ·rintro ⟨n,hn⟩
  have hex : ∃ n r,qcz prog n t=some r:=⟨n,r,hn⟩
  rw[dif_pos hex]
  obtain⟨r',hr'⟩:=Classical.choose_spec hex
  have h1:=qa5 (prog:=prog) (Nat.le_max_left n (Classical.choose hex)) t r hn
  have h2:=qa5 (prog:=prog) (Nat.le_max_right n (Classical.choose hex)) t r' hr'
  rw[h1] at h2
  rw[hr',h2]
theorem qpZ {n:Nat} {t:Task} {r:Res} (h:qcz prog n t=some r):Z prog t=some r:=Z_iff.2 ⟨n,h⟩
theorem qc9 {f:List V->S->Task} {args:List V} {σ : S} {r:V × S} (hr:qbN (Z prog) f args σ = some r) : ∃ n,qbN (qcz prog n) f args σ = some r:=by
 unfold qbN at hr ⊢
 simp only at hr ⊢
 split at hr
 ·split at hr
  ·cases hr
  ·rename_i v s' hnp hc
   obtain⟨n,hn⟩:=Z_iff.1 hc
   exact⟨n,by simp only[hn]; exact hr⟩
  ·cases hr
 ·cases hr
theorem qe4 {f:List V->S->Task} {args:List V} {σ : S} {r:V × S} (hr:qae (Z prog) f args σ = some r) : ∃ n,qae (qcz prog n) f args σ = some r:=by
 unfold qae at hr ⊢
 simp only at hr ⊢
 split at hr
 ·split at hr
  ·rename_i v s' hc
   obtain⟨n,hn⟩:=Z_iff.1 hc
   exact⟨n,by simp only[hn]; exact hr⟩
  ·cases hr
 ·cases hr
theorem qmu {fr:Fr} {σ : S} {op:O} {r:V × S} (hr:qb8 (Z prog) fr σ op=some r) : ∃ n,qb8 (qcz prog n) fr σ op=some r:=by
 cases op with
 | call f xs=>
  simp only[qb8] at hr ⊢
  split at hr
  ·exact qe4 hr
  ·cases hr
 | callv f xs=>
  simp only[qb8] at hr ⊢
  split at hr
  ·exact qe4 hr
  ·exact qe4 hr
  ·cases hr
 | invoke tbl x xs=>
  simp only[qb8] at hr ⊢
  split at hr
  ·split at hr
   ·exact qe4 hr
   ·cases hr
  ·cases hr
 | _=>exact⟨0,hr⟩
theorem qhC {fr:Fr} {σ : S} {op:O} {r:V × S} (hr:qaI (Z prog) fr σ op=some r) : ∃ n,qaI (qcz prog n) fr σ op=some r:=by
 cases op with
 | call f xs=>
  simp only[qaI] at hr ⊢
  split at hr
  ·exact qc9 hr
  ·cases hr
 | callv f xs=>
  simp only[qaI] at hr ⊢
  split at hr
  ·exact qc9 hr
  ·exact qc9 hr
  ·exact qc9 hr
  ·cases hr
 | invoke tbl x xs=>
  simp only[qaI] at hr ⊢
  split at hr
  ·split at hr
   ·exact qc9 hr
   ·cases hr
  ·cases hr
 | _=>exact⟨0,hr⟩
theorem qjx : ∀ {is:List I} {fr:Fr} {σ : S} {r:Fr × S},qeJ (Z prog) is fr σ = some r -> ∃ n,qeJ (qcz prog n) is fr σ = some r
 | [],_,_,_,hr=>⟨0,hr⟩
 | i::is,fr,σ,r,hr=>by
  simp only[qeJ] at hr ⊢
  split at hr
  ·rename_i hw
   split at hr
   ·rename_i v σ' hv
    obtain⟨n,hn⟩:=qhC hv
    obtain⟨m,hm⟩:=qjx hr
    refine⟨max n m,?_⟩
    simp only[qcr (qa5 (Nat.le_max_left n m)) hn]
    exact qe3 (qa5 (Nat.le_max_right n m)) hm
   ·cases hr
  ·exact qjx hr
  ·cases hr
theorem qhD : ∀ {is:List I} {fr:Fr} {σ : S} {r:List Ev × Fr × S},qdo (Z prog) is fr σ = some r -> ∃ n,qdo (qcz prog n) is fr σ = some r
 | [],_,_,_,hr=>⟨0,hr⟩
 | i::is,fr,σ,r,hr=>by
  simp only[qdo] at hr ⊢
  split at hr
  ·rename_i hw
   split at hr
   ·rename_i v σ' hv
    obtain⟨n,hn⟩:=qhC hv
    split at hr
    ·rename_i l fr' σ'' hrest
     obtain⟨m,hm⟩:=qhD hrest
     refine⟨max n m,?_⟩
     simp only[qcr (qa5 (Nat.le_max_left n m)) hn,qdC (qa5 (Nat.le_max_right n m)) hm]
     exact hr
    ·cases hr
   ·cases hr
  ·split at hr
   ·rename_i l fr' σ'' hrest
    obtain⟨m,hm⟩:=qhD hrest
    exact⟨m,by simp only[hm]; exact hr⟩
   ·cases hr
  ·cases hr
theorem qjy : ∀ {is:List I} {fr:Fr} {σ : S} {r:List (Fr × S)},qbI (Z prog) is fr σ = some r -> ∃ n,qbI (qcz prog n) is fr σ = some r
 | [],_,_,_,hr=>⟨0,hr⟩
 | i::is,fr,σ,r,hr=>by
  simp only[qbI] at hr ⊢
  split at hr
  ·rename_i hw
   split at hr
   ·rename_i v σ' hv
    obtain⟨n,hn⟩:=qhC hv
    split at hr
    ·rename_i l hrest
     obtain⟨m,hm⟩:=qjy hrest
     refine⟨max n m,?_⟩
     simp only[qcr (qa5 (Nat.le_max_left n m)) hn,qd3 (qa5 (Nat.le_max_right n m)) hm]
     exact hr
    ·cases hr
   ·cases hr
  ·split at hr
   ·rename_i l hrest
    obtain⟨m,hm⟩:=qjy hrest
    exact⟨m,by simp only[hm]; exact hr⟩
   ·cases hr
  ·cases hr
theorem qhE : ∀ {is:List I} {fr:Fr} {σ : S} {r:V × Fr × S},qdb (Z prog) is fr σ = some r -> ∃ n,qdb (qcz prog n) is fr σ = some r
 | [],_,_,_,hr=>by simp[qdb] at hr
 | i::is,fr,σ,r,hr=>by
  simp only[qdb] at hr ⊢
  split at hr
  ·rename_i hw
   split at hr
   ·rename_i v σ' hv
    obtain⟨n,hn⟩:=qhC hv
    obtain⟨m,hm⟩:=qhE hr
    refine⟨max n m,?_⟩
    simp only[qcr (qa5 (Nat.le_max_left n m)) hn]
    exact (qdB (qa5 (Nat.le_max_right n m)) hm).1
   ·split at hr
    ·rename_i v σ' hv
     obtain⟨n,hn⟩:=qmu hv
     exact⟨n,by simp only[qfT (fun _ _ h=>h) hn,hn]; exact hr⟩
    ·cases hr
  ·exact qhE hr
  ·cases hr
theorem qgv : ∀ {is:List I} {q:Nat} {fr:Fr} {σ : S} {r:Nat × List Ev × V × S},qaH (Z prog) q is fr σ = some r -> ∃ n,qaH (qcz prog n) q is fr σ = some r
 | [],_,_,_,_,hr=>by simp[qaH] at hr
 | i::is,q,fr,σ,r,hr=>by
  simp only[qaH] at hr ⊢
  split at hr
  ·rename_i hw
   split at hr
   ·rename_i v σ' hv
    obtain⟨n,hn⟩:=qhC hv
    split at hr
    ·rename_i p l u σ'' hrest
     obtain⟨m,hm⟩:=qgv hrest
     refine⟨max n m,?_⟩
     simp only[qcr (qa5 (Nat.le_max_left n m)) hn,(qc8 (qa5 (Nat.le_max_right n m)) hm).1]
     exact hr
    ·cases hr
   ·split at hr
    ·rename_i v σ' hv
     obtain⟨n,hn⟩:=qmu hv
     exact⟨n,by simp only[qfT (fun _ _ h=>h) hn,hn]; exact hr⟩
    ·cases hr
  ·split at hr
   ·rename_i p l u σ'' hrest
    obtain⟨m,hm⟩:=qgv hrest
    exact⟨m,by simp only[hm]; exact hr⟩
   ·cases hr
  ·cases hr
theorem qdn {k:Nat} : ∀ {pc:PC} {fr:Fr} {σ : S} {r:Ex × Fr × S},run (Z prog) k pc fr σ = some r -> ∃ n,run (qcz prog n) k pc fr σ = some r
 | .range f ps as bd,fr,σ,r,hr=>by
  simp only[run] at hr ⊢
  split at hr
  ·split at hr
   ·rename_i v σ' hx
    split at hx
    ·rename_i hl
     obtain⟨n,hn⟩:=qc9 hx
     exact⟨n,by simp only[if_pos hl,hn]; exact hr⟩
    ·cases hx
   ·cases hr
  ·cases hr
 | .skip,_,_,_,hr=>⟨0,hr⟩
 | .exit _,_,_,_,hr=>⟨0,hr⟩
 | .ret,_,_,_,hr=>⟨0,hr⟩
 | .region none ops keep _,fr,σ,r,hr=>by
  simp only[run] at hr ⊢
  split at hr
  ·rename_i fr' σ' hx
   obtain⟨n,hn⟩:=qjx hx
   exact⟨n,by simp only[hn]; exact hr⟩
  ·split at hr
   ·rename_i v fr' σ' hx
    obtain⟨n,hn⟩:=qhE hx
    exact⟨n,by simp only[hn,(qdB (fun _ _ h=>h) hn).2]; exact hr⟩
   ·cases hr
 | .region (some rs) ops keep _,fr,σ,r,hr=>by
  simp only[run] at hr ⊢
  split at hr
  ·rename_i es fr' σ' hx
   obtain⟨n,hn⟩:=qhD hx
   split at hr
   ·rename_i hc; exact⟨n,by simp only[hn]; rw[if_pos hc]; exact hr⟩
   ·rename_i hc
    split at hr
    ·rename_i ss ht
     obtain⟨m,hm⟩:=qjy ht
     refine⟨max n m,?_⟩
     simp only[qdC (qa5 (Nat.le_max_left n m)) hn,qd3 (qa5 (Nat.le_max_right n m)) hm]
     rw[if_neg hc]; exact hr
    ·cases hr
  ·split at hr
   ·rename_i p es v σ' hx
    obtain⟨n,hn⟩:=qgv hx
    exact⟨n,by simp only[hn,(qc8 (fun _ _ h=>h) hn).2]; exact hr⟩
   ·cases hr
 | .seq a b,fr,σ,r,hr=>by
  simp only[run] at hr ⊢
  split at hr
  ·rename_i fr' σ' hx
   obtain⟨n,hn⟩:=qdn hx
   obtain⟨m,hm⟩:=qdn hr
   refine⟨max n m,?_⟩
   simp only[qaU (qa5 (Nat.le_max_left n m)) hn]
   exact qaU (qa5 (Nat.le_max_right n m)) hm
  ·rename_i hne
   obtain⟨n,hn⟩:=qdn hr
   refine⟨n,?_⟩
   rw[hn]
   obtain⟨e,fr',σ'⟩:=r
   cases e with
   | normal=>exact absurd hr (hne _ _)
   | exit id=>rfl
   | ret=>rfl
   | pan v=>rfl
 | .cond c a b,fr,σ,r,hr=>by
  simp only[run] at hr ⊢
  split at hr
  ·exact qdn hr
  ·exact qdn hr
  ·cases hr
 | .block id b,fr,σ,r,hr=>by
  simp only[run] at hr ⊢
  split at hr
  ·rename_i id' fr' σ' hx
   obtain⟨n,hn⟩:=qdn hx
   exact⟨n,by simp only[hn]; exact hr⟩
  ·rename_i hne
   obtain⟨n,hn⟩:=qdn hr
   refine⟨n,?_⟩
   rw[hn]
   obtain⟨e,fr',σ'⟩:=r
   cases e with
   | normal=>rfl
   | exit id=>exact absurd hr (hne _ _ _)
   | ret=>rfl
   | pan v=>rfl
 | .loop b,fr,σ,r,hr=>by
  simp only[run] at hr ⊢
  split at hr
  ·rename_i e fr' σ' hx
   obtain⟨n,hn⟩:=Z_iff.1 hx
   exact⟨n,by simp only[hn]; exact hr⟩
  ·cases hr
theorem qeF : ∀ {l:List V} {σ : S} {r:S},qbw (Z prog) l σ = some r -> ∃ n,qbw (qcz prog n) l σ = some r
 | [],σ,r,hr=>⟨0,hr⟩
 | v::l,σ,r,hr=>by
  unfold qbw at hr ⊢
  split at hr
  ·rename_i e; cases e
  ·rename_i id a r' e
   cases e
   split at hr
   ·rename_i v' σ' hc
    obtain⟨n,hn⟩:=qc9 hc
    obtain⟨m,hm⟩:=qeF hr
    refine⟨max n m,?_⟩
    simp only[qbM (qa5 (Nat.le_max_left n m)) hn]
    exact qcs (qa5 (Nat.le_max_right n m)) hm
   ·cases hr
  ·cases hr
theorem qmv {pf:PFun} {k:Nat} {fr:Fr} {σ : S} {r:Res} (hr:(if pf.df then qfJ (Z prog) pf k fr σ else qdG pf k fr σ)=some r) : ∃ n,(if pf.df then qfJ (qcz prog n) pf k fr σ else qdG pf k fr σ)=some r:=by
 split at hr
 ·rename_i hd
  simp only[if_pos hd]
  unfold qfJ at hr ⊢
  split at hr
  ·rename_i σ' hx
   obtain⟨n,hn⟩:=qeF hx
   exact⟨n,by simp only[hn]; exact hr⟩
  ·cases hr
 ·rename_i hd
  simp only[if_neg hd]
  exact⟨0,hr⟩
theorem qoh {pf:PFun} {k:Nat} {v:V} {fr:Fr} {σ : S} {r:Res} (hr:qf3 (Z prog) pf k v fr σ = some r) : ∃ n,qf3 (qcz prog n) pf k v fr σ = some r:=by
 unfold qf3 at hr ⊢
 split at hr
 ·exact⟨0,hr⟩
 ·split at hr
  ·cases hr
  ·rename_i hn
   simp only[if_neg hn]
   split at hr
   ·rename_i v' σ' hc
    obtain⟨n,hn⟩:=qc9 hc
    split at hr
    ·rename_i σ'' hx
     obtain⟨m,hm⟩:=qeF hx
     refine⟨max n m,?_⟩
     simp only[qbM (qa5 (Nat.le_max_left n m)) hn,qcs (qa5 (Nat.le_max_right n m)) hm]
     exact hr
    ·cases hr
   ·cases hr
 ·cases hr
theorem qlH {pf:PFun} {args:List V} {σ : S} {r:Res} (h:qcy (Z prog) pf args σ = some r) : ∃ n,qcy (qcz prog n) pf args σ = some r:=by
 have lv : ∀ {n m k fr σ},(if pf.df then qfJ (qcz prog m) pf k fr σ else qdG pf k fr σ)=some r->m<=n->(if pf.df then qfJ (qcz prog n) pf k fr σ else qdG pf k fr σ)=some r:=fun hr hle=>by
  split at hr
  ·rename_i hd; rw[if_pos hd]; exact qiG (qa5 hle) hr
  ·rename_i hd; rw[if_neg hd]; exact hr
 unfold qcy at h ⊢
 split at h
 ·rename_i hl
  simp only[if_pos hl]
  split at h
  ·rename_i fr σ' hx
   obtain⟨n,hn⟩:=qdn hx
   obtain⟨m,hm⟩:=qmv h
   refine⟨max n m,?_⟩
   simp only[qaU (qa5 (Nat.le_max_left n m)) hn]
   exact lv hm (Nat.le_max_right n m)
  ·rename_i fr σ' hx
   obtain⟨n,hn⟩:=qdn hx
   obtain⟨m,hm⟩:=qmv h
   refine⟨max n m,?_⟩
   simp only[qaU (qa5 (Nat.le_max_left n m)) hn]
   exact lv hm (Nat.le_max_right n m)
  ·rename_i v fr σ' hx
   obtain⟨n,hn⟩:=qdn hx
   obtain⟨m,hm⟩:=qoh h
   refine⟨max n m,?_⟩
   simp only[qaU (qa5 (Nat.le_max_left n m)) hn]
   exact qhB (qa5 (Nat.le_max_right n m)) hm
  ·cases h
 ·cases h
theorem Z_call {f:Nat} {pf:PFun} {args:List V} {σ : S} {r:Res} (hf:prog f=some pf) (hc:pf.catches=false) (h:qcy (Z prog) pf args σ = some r):Z prog (.call f args σ)=some r:=by
 obtain⟨n,hn⟩:=qlH h
 exact qpZ (n:=n+1) (by simp only[qcz,hf,hc,Bool.false_eq_true,if_false,hn])
theorem qlI {f:Nat} {pf:PFun} {args:List V} {σ : S} {r:Res} (hf:prog f=some pf) (h:qbl (Z prog) pf args σ = some r):Z prog (.dcall f args σ)=some r:=by
 have : ∃ n,qbl (qcz prog n) pf args σ = some r:=by
  unfold qbl at h ⊢
  split at h
  ·split at h
   ·rename_i hl
    simp only[if_pos hl]
    split at h
    ·rename_i fr σ' hx
     obtain⟨n,hn⟩:=qdn hx
     exact⟨n,by simp only[hn]; exact h⟩
    ·rename_i fr σ' hx
     obtain⟨n,hn⟩:=qdn hx
     exact⟨n,by simp only[hn]; exact h⟩
    ·cases h
   ·cases h
  ·cases h
 obtain⟨n,hn⟩:=this
 exact qpZ (n:=n+1) (by simp only[qcz,hf,hn])
theorem qlJ {k:Nat} {b:PC} {fr fr0 fr':Fr} {σ σ0 σ':S} {r:Res} (hg:gcF k fr σ = some (fr0,σ0)) (h:run (Z prog) k b fr0 σ0=some (.normal,fr',σ')) (hr:Z prog (.loop k b fr' σ')=some r):Z prog (.loop k b fr σ)=some r:=by
 obtain⟨n,hn⟩:=qdn h
 obtain⟨m,hm⟩:=Z_iff.1 hr
 refine qpZ (n:=max n m+1) ?_
 simp only[qcz,hg,qaU (qa5 (Nat.le_max_left n m)) hn]
 exact qa5 (Nat.le_max_right n m) _ _ hm
theorem qnq {k:Nat} {b:PC} {fr fr0 fr':Fr} {σ σ0 σ':S} {e:Ex} (he:e ≠ .normal) (hg:gcF k fr σ = some (fr0,σ0)) (h:run (Z prog) k b fr0 σ0=some (e,fr',σ')):Z prog (.loop k b fr σ)=some (.out e fr' σ'):=by
 obtain⟨n,hn⟩:=qdn h
 refine qpZ (n:=n+1) ?_
 simp only[qcz,hg,hn]
 all_goals (cases e with
  | normal=>exact absurd rfl he
  | exit id=>rfl
  | ret=>rfl
  | pan v=>rfl)
theorem qr9 {args:List V} {σ : S} {r:Res} (h:qcx (Z prog) args σ = some r):Z prog (.round args σ)=some r:=by
 have : ∃ n,qcx (qcz prog n) args σ = some r:=by
  unfold qcx at h ⊢
  split at h
  ·split at h
   ·split at h
    ·rename_i hlp hc
     simp only[if_pos hc]
     split at h
     ·rename_i fr1 σ1 hx
      obtain⟨n,hn⟩:=qdn hx
      split at h
      ·split at h
       ·rename_i hlp1 hst
        split at h
        ·cases h
        ·rename_i e fr2 σ2 hnp hy
         obtain⟨m,hm⟩:=qdn hy
         refine⟨max n m,?_⟩
         simp only[qaU (qa5 (Nat.le_max_left n m)) hn,hlp1,if_pos hst,qaU (qa5 (Nat.le_max_right n m)) hm]
         cases e with
         | pan v=>exact (hnp _ rfl).elim
         | normal=>exact h
         | exit id=>exact h
         | ret=>exact h
        ·cases h
       ·cases h
      ·cases h
     ·cases h
    ·cases h
   ·cases h
  ·cases h
 obtain⟨n,hn⟩:=this
 exact qpZ (n:=n+1) (by simp only[qcz,hn])
variable {P:Program} {ids:Ids} {fid:Fid}
def qoi (w:World):Nat->Nat:=fun b=>match w.heap[b]? with
 | some (.cells arr _ _)=>arr.size
 | _=>0
def start (w:World):Ctx:=⟨[],fun _=>none,qoi w,w⟩
def GlbAt (fid:Fid) (w:World):Prop := ∀ g cs,fid.gl g=some cs -> ∃ vs,RepDs (qoi w) w cs vs/\Row (qoi w) w g 0 vs
theorem qnr {w:World} (hg:GlbAt fid w):Real fid (start w):=by
 refine⟨fun l ob b h=>by simp[start] at h,fun l b h=>by simp[start] at h,fun l l' b h=>by simp[start] at h,fun b hb=>?_,hg⟩
 simp only[start,qoi] at hb ⊢
 cases h:w.heap[b]? with
 | none=>rw[h] at hb; simp at hb
 | some o=>
  rw[h] at hb
  cases o<;>simp only at hb<;>first | (exact absurd hb (Nat.lt_irrefl _)) | exact⟨_,_,_,rfl,Nat.le_refl _⟩
theorem calls_of_Z (hid:Ties P ids fid) (hcr:Codes P ids fid) (hm:P.follows .mixedOrders=true) (ht:Tied P ids fid prog) {f:Nat} {args:List V} {xs:List Value} {d:Value} {σ':S} {w:World} (h:Z prog (.call f args [])=some (.ret (.dat (.lit d)) σ')) (hg:GlbAt fid w)
  (ha:Reps fid (start w) args xs):Calls P (fid f) xs.toArray w fun e w'=>e = .returned d/\w'.os=w.os/\w'.tape=w.tape/\w'.output=w.output/\w.heap.size<=w'.heap.size /\ ∀ k,k<w.heap.size->w'.heap[k]?=w.heap[k]?:=by
 obtain⟨n,hn⟩:=Z_iff.1 h
 obtain⟨_,hs⟩:=(qiR hid hcr hm ht n).1.call _ _ _ _ _ hn
 refine (callsIn_wide.1 (hs (start w) xs rfl (qnr hg) ha)).mono ?_
 rintro e w' ⟨Γ',rfl,_,_,h3,hout⟩
 rcases hout with ⟨x,rfl,h4⟩ | ⟨u,x,hu,_⟩
 rotate_left
 ·cases hu
 refine⟨by rw[(qay h4).1],h3.ext.os,h3.ext.tape,h3.ext.output,h3.ext.size,fun k hk=>(h3.frm.same k hk fun l h=>by simp[start] at h).1⟩
end Go.Pm
namespace Go.Pm
variable {prog:Nat->Option PFun}
theorem qoj {α : Type} {a b:Option α} (h : ∀ r,a=some r->b=some r) (k : ∀ r,b=some r->a=some r):a=b:=by
 cases a with
 | some r=>exact (h r rfl).symm
 | none=>cases b with
  | none=>rfl
  | some r=>exact k r rfl
theorem qok {n:Nat}:Le (qcz prog n) (Z prog):=fun _ _ h=>qpZ h
def qad (C:Task->Option Res) (k:Nat) (b:PC):Option (Fr × S)->Option Res
 | some (fr0,σ0)=>match run C k b fr0 σ0 with
  | some (.normal,fr',σ')=>C (.loop k b fr' σ')
  | some (e,fr',σ')=>some (.out e fr' σ')
  | none=>none
 | none=>none
theorem qac (k:Nat) (b:PC) (fr:Fr) (σ : S):Z prog (.loop k b fr σ)=qad (Z prog) k b (gcF k fr σ):=by
 refine qoj (fun r h=>?_) (fun r h=>?_)
 ·obtain⟨n,hn⟩:=Z_iff.1 h
  cases n with
  | zero=>simp[qcz] at hn
  | succ n=>
   simp only[qcz] at hn
   split at hn
   ·rename_i fr0 σ0 hg
    rw[hg]
    simp only[qad]
    split at hn
    ·rename_i fr' σ' hx
     rw[qaU qok hx]
     exact qpZ hn
    ·rename_i e fr' σ' hne hx
     rw[qaU qok hx]
     cases e with
     | normal=>exact absurd rfl hne
     | exit id=>exact hn
     | ret=>exact hn
     | pan v=>exact hn
    ·cases hn
   ·cases hn
 ·unfold qad at h
  split at h
  ·rename_i fr0 σ0 hg
   split at h
   ·rename_i fr' σ' hx
    exact qlJ hg hx h
   ·rename_i e fr' σ' hne hx
    simp only[Option.some.injEq] at h
    subst h
    exact qnq (fun he=>hne he) hg hx
   ·cases h
  ·cases h
theorem qiH (args:List V) (σ : S):Z prog (.round args σ)=qcx (Z prog) args σ:=by
 refine qoj (fun r h=>?_) (fun r h=>qr9 h)
 obtain⟨n,hn⟩:=Z_iff.1 h
 cases n with
 | zero=>simp[qcz] at hn
 | succ n=>
  simp only[qcz] at hn
  exact qel qok hn
theorem qmw {prog prog':Nat->Option PFun} (hs : ∀ f pf,prog f=some pf->prog' f=some pf) : ∀ n,Le (qcz prog n) (qcz prog' n)
 | 0=>fun t r h=>by simp[qcz] at h
 | n+1=>fun t r h=>by
  have ih:=qmw hs n
  cases t with
  | call f args σ=>
   simp only[qcz] at h ⊢
   split at h
   ·rename_i pf hpf
    simp only[hs f pf hpf]
    split at h
    ·cases h
    ·rename_i hc; rw[if_neg hc]; exact qfU ih h
   ·cases h
  | dcall f args σ=>
   simp only[qcz] at h ⊢
   split at h
   ·rename_i pf hpf
    simp only[hs f pf hpf]
    exact qfv ih h
   ·cases h
  | round args σ=>
   simp only[qcz] at h ⊢
   exact qel ih h
  | loop k b fr σ=>
   simp only[qcz] at h ⊢
   split at h
   ·rename_i fr0 σ0 hg
    split at h
    ·rename_i fr' σ' hx
     rw[qaU ih hx]
     exact ih _ _ h
    ·rename_i e fr' σ' hne hx
     rw[qaU ih hx]
     cases e with
     | normal=>exact absurd rfl hne
     | exit id=>exact h
     | ret=>exact h
     | pan v=>exact h
    ·cases h
   ·cases h
theorem qfD {prog prog':Nat->Option PFun} (hs : ∀ f pf,prog f=some pf->prog' f=some pf) {t:Task} {r:Res} (h:Z prog t=some r):Z prog' t=some r:=by
 obtain⟨n,hn⟩:=Z_iff.1 h
 exact qpZ (qmw hs n _ _ hn)
end Go.Pm
end SY
section SS
namespace Go.Pm
attribute [simp] quL qnz qeE qn8 qoD qoE qiA outV qmH qp0 qd7 finishV Ob.rows quM qsu appendO appendT qqi qjN V.isStr qnx qf2 qfJ qf3 qbw Fr.defs qb8 qdb qf1 undef qcy qbE run qeJ qdo qaI qa3 X.ev evs qdD qfI Fr.get Fr.put Fr.keep qqg unV qqh qdG qrF qnw qiU V.sealT V.sealv qbH qiV reach qaS V.locs qkV inL closed qeo V.ren one
 gcL gcF qcL qlR Ob.locs Ob.ren qhM qrD idx back qaF qbN qci qbB qdp qbj qdF qdE qeK qhO qda storeV qcV qt9 Value.oneCell' qbY V.aggCells qfH qeC
@[simp] theorem qwD (v:Value):V.one (.dat (.lit v))=v.oneCell':=rfl
@[simp] theorem quw (v:Value):V.cells (.dat (.lit v))=[(.dat (.lit v))]:=rfl
@[simp] theorem qxK (cs:List D) (n:Nat) (f:Bool):V.one (.dat (.sl cs n f))=true:=rfl
@[simp] theorem qv1 (cs:List D) (n:Nat) (f:Bool):V.cells (.dat (.sl cs n f))=[(.dat (.sl cs n f))]:=rfl
@[simp] theorem qwE (cs:List D) (o:Nat):V.one (.dat (.imm cs o))=true:=rfl
@[simp] theorem qux (cs:List D) (o:Nat):V.cells (.dat (.imm cs o))=[(.dat (.imm cs o))]:=rfl
@[simp] theorem qv2 (cs:List D):V.one (.dat (.agg cs))=false:=rfl
@[simp] theorem qt4 (cs:List D):V.cells (.dat (.agg cs))=cs.map .dat:=rfl
@[simp] theorem qt5 (t:Nat) (d:D):V.one (.dat (.iface t d))=true:=rfl
@[simp] theorem qrA (t:Nat) (d:D):V.cells (.dat (.iface t d))=[(.dat (.iface t d))]:=rfl
@[simp] theorem qwF (l o:Nat):V.one (.ptr l o)=true:=rfl
@[simp] theorem quy (l o:Nat):V.cells (.ptr l o)=[(.ptr l o)]:=rfl
@[simp] theorem qwG (cs:List D) (n sz l:Nat):V.one (.gsl cs n sz l)=true:=rfl
@[simp] theorem quz (cs:List D) (n sz l:Nat):V.cells (.gsl cs n sz l)=[(.gsl cs n sz l)]:=rfl
@[simp] theorem qwH (l o n cap sz:Nat):V.one (.msl l o n cap sz)=true:=rfl
@[simp] theorem quA (l o n cap sz:Nat):V.cells (.msl l o n cap sz)=[(.msl l o n cap sz)]:=rfl
@[simp] theorem qwI (l n sz:Nat):V.one (.own l n sz)=true:=rfl
@[simp] theorem quB (l n sz:Nat):V.cells (.own l n sz)=[(.own l n sz)]:=rfl
@[simp] theorem qv3 (l n o:Nat):V.one (.eptr l n o)=true:=rfl
@[simp] theorem qt6 (l n o:Nat):V.cells (.eptr l n o)=[(.eptr l n o)]:=rfl
@[simp] theorem qxL (g:Nat) (v:V):V.one (.bm g v)=true:=rfl
@[simp] theorem qv4 (g:Nat) (v:V):V.cells (.bm g v)=[(.bm g v)]:=rfl
@[simp] theorem qwJ (cs:List V):V.one (.agg cs)=false:=rfl
@[simp] theorem quC (cs:List V):V.cells (.agg cs)=cs:=rfl
@[simp] theorem qxM (f:Nat) (a b:List V):V.one (.fn f a b)=true:=rfl
@[simp] theorem qv5 (f:Nat) (a b:List V):V.cells (.fn f a b)=[(.fn f a b)]:=rfl
@[simp] theorem qxN (l:Nat):V.one (.mp l)=true:=rfl
@[simp] theorem qv6 (l:Nat):V.cells (.mp l)=[(.mp l)]:=rfl
@[simp] theorem quD (t:Nat) (v:V):V.one (.iface t v)=true:=rfl
@[simp] theorem qsj (t:Nat) (v:V):V.cells (.iface t v)=[(.iface t v)]:=rfl
@[simp] theorem qwK (vs:List V):V.one (.tup vs)=false:=rfl
@[simp] theorem quE (vs:List V):V.cells (.tup vs)=[(.tup vs)]:=rfl
@[simp] theorem qwL (l:Nat):V.one (.yld l)=true:=rfl
@[simp] theorem quF (l:Nat):V.cells (.yld l)=[(.yld l)]:=rfl
@[simp] theorem qv7 {α : Type} (cs:List α):cutCells cs 0 0=some []:=by simp[cutCells]
@[simp] theorem qv8 {α : Type} (c : α) (cs:List α) (n:Nat):cutCells (c::cs) 0 (n+1)=(cutCells cs 0 n).map (c :: ·):=by
 simp only[cutCells,List.drop_zero,List.take_succ_cons,List.length_cons,Nat.add_right_cancel_iff]
 split<;>simp
@[simp] theorem qv9 {α : Type} (c : α) (cs:List α) (o n:Nat):cutCells (c::cs) (o+1) n=cutCells cs o n:=by
 simp only[cutCells,List.drop_succ_cons]
@[simp] theorem qwM (a b:Int):eqI a b=decide (a=b):=rfl
abbrev I64 (n:Int):Prop := -9223372036854775808<=n/\n<=9223372036854775807
theorem qag (n:Int) (h : -9223372036854775808<=n/\n<=9223372036854775807):IntKind.i64.wrap n=n:=by rw[IntKind.wrap_i64]; omega
def qcK (xs:List Int):List D:=xs.map fun x => .lit (.int .i64 x)
def qem:List Int->D
 | [] => .lit (.slice none 0 0)
 | x::xs => .sl (qcK (x::xs)) (x::xs).length false
@[simp] theorem quG (σ : S) (xs:List Int):V.len σ .sl (.dat (qem xs))=some xs.length:=by
 cases xs<;>simp[qem,V.len]
@[simp] theorem quH (xs:List Int):V.one (.dat (qem xs))=true:=by cases xs<;>rfl
@[simp] theorem qsk (xs:List Int):V.cells (.dat (qem xs))=[.dat (qem xs)]:=by cases xs<;>rfl
theorem qkP (xs:List Int) (i:Nat) (h:i<xs.length):cutCells (qcK xs) i 1=some [.lit (.int .i64 xs[i])]:=by
 unfold cutCells qcK
 rw[List.drop_eq_getElem_cons (by simpa using h)]
 simp
end Go.Pm
end SS
section SW
namespace Go.Pm
def RowV (v:D) (xs:List Int):Prop:=
 (∃ o,v = .lit (.slice o 0 0)/\xs=[])\/v = .sl (qcK xs) xs.length false
theorem RowV.one {v:D} {xs:List Int} (h:RowV v xs):V.one (.dat v)=true:=by rcases h with ⟨o,rfl,rfl⟩ | rfl<;>rfl
theorem RowV.cells {v:D} {xs:List Int} (h:RowV v xs):V.cells (.dat v)=[.dat v]:=by rcases h with ⟨o,rfl,rfl⟩ | rfl<;>rfl
theorem qlc (F:Nat->Nat) (w:World) : ∀ xs:List Int,RepDs F w (qcK xs) (xs.map (.int .i64))
 | []=>rfl
 | x::xs=>⟨_,_,rfl,⟨rfl,rfl⟩,qlc F w xs⟩
theorem row_rep (fid:Fid) {w:World} {a:Option Addr} {len cap:Nat} {zs:List Int}
  (h:(a=none/\len=0/\cap=0/\zs=[]) \/ ∃ x,a=some x/\len<=cap/\cap<=maxLen/\zs.length=cap/\(∀ i,i<zs.length->w.cell? (x.add i)=some (.int .i64 (zs.getD i 0))) /\ ∀ n∈zs,(Lit.int .i64 n).wf=true) :
  ∃ d,RowV d (zs.take len)/\(∀ x∈zs.take len,I64 x)/\Rep fid (start w) (.dat d) (.slice a len cap):=by
 rcases h with ⟨rfl,rfl,rfl,rfl⟩ | ⟨x,rfl,h1,h2,h3,h4,h5⟩
 ·exact⟨.lit (.slice none 0 0),.inl ⟨_,rfl,rfl⟩,by simp,rfl,rfl⟩
 by_cases hc:cap=0
 ·subst hc
  have:len=0:=by omega
  subst this
  exact⟨.lit (.slice (some x) 0 0),.inl ⟨_,rfl,by simp⟩,by simp,rfl,rfl⟩
 have hl:(zs.take len).length=len:=by rw[List.length_take]; omega
 have hs:x.spot=none:=World.cell?_spot (v := .int .i64 (zs.getD 0 0)) (by simpa [Addr.add] using h4 0 (by omega))
 obtain⟨b,o,sp⟩:=x
 simp only at hs
 subst hs
 have hcell : ∀ i,i<zs.length->w.cell? ⟨b,o+i,none⟩=some (.int .i64 (zs.getD i 0)):=fun i hi=>by
  have:=h4 i hi
  by_cases h0:i=0
  ·subst h0; simpa [Addr.add] using this
  ·simpa [Addr.add,h0] using this
 refine⟨.sl (qcK (zs.take len)) len false,.inr (by rw[hl]),fun n hn=>?_,b,o,cap,(zs.take len).map (.int .i64),rfl,h1,by simp,qlc _ _ _,?_,?_,?_⟩
 ·have:=h5 n (List.mem_of_mem_take hn)
  simp only[Lit.wf,Bool.and_eq_true,decide_eq_true_eq] at this
  have e1:IntKind.i64.min = -9223372036854775808:=by decide
  have e2:IntKind.i64.max=9223372036854775807:=by decide
  unfold I64
  omega
 ·intro i v hv
  rw[List.getElem?_map,List.getElem?_take] at hv
  split at hv
  ·rename_i hi
   rw[List.getElem?_eq_getElem (by omega)] at hv
   simp only[Option.map_some,Option.some.injEq] at hv
   subst hv
   rw[show (start w).w=w from rfl,hcell i (by omega)]
   simp[List.getD_eq_getElem?_getD,show i<zs.length by omega]
  ·simp at hv
 ·intro hp
  simp only[List.length_map,hl] at hp ⊢
  have:=hcell (len-1) (by omega)
  unfold World.cell? at this
  simp only[start,qoi]
  split at this
  ·rename_i c _ _ hb
   rw[hb]
   simp only[Option.isSome_none,Bool.false_eq_true,if_false] at this
   have hlt:o+(len-1)<c.size:=by
    rcases Nat.lt_or_ge (o+(len-1)) c.size with h' | h'
    ·exact h'
    ·rw[Array.getElem?_eq_none h'] at this; cases this
   simp only
   omega
  ·cases this
 ·intro v hv
  obtain⟨n,_,rfl⟩:=List.mem_map.1 hv
  rfl
theorem qxb (fid:Fid) (w:World) (n:Int):Rep fid (start w) (.int n) (.int .i64 n):=⟨rfl,rfl⟩
theorem reps_cons {fid:Fid} {Γ : Ctx} {a:V} {x:Value} {as:List V} {xs:List Value} (h:Rep fid Γ a x) (k:Reps fid Γ as xs):Reps fid Γ (a::as) (x::xs):=⟨_,_,rfl,h,k⟩
end Go.Pm
end SW
section SU
namespace Go.Pm
def fl (P:Program):Nat->TypeId->DataW Unit->Option (List Value)
 | 0,_,_=>none
 | m+1,t,d=>match P.underlying t,d with
  | some (.int k),.lit (.int k' n)=>if k=k' then some [.int k n] else none
  | some (.array n e),.agg ds=>match ds.mapM (fl P m e) with
   | some vs=>if ds.length=n/\vs.all (fun v=>v.length==P.cellsOf e)/\P.cellsOf t=n*P.cellsOf e then some vs.flatten else none
   | none=>none
  | some (.struct fs),.agg ds=>match (fs.toList.zip ds).mapM (fun x=>fl P m x.1.type x.2) with
   | some vs=>if ds.length=fs.size/\((fs.toList.zip vs).all (fun x=>x.2.length==P.cellsOf x.1.type))/\(List.range fs.size).all (fun i=>(fs[i]?.map (·.offset)).getD 0==(vs.take i).flatten.length)/\P.cellsOf t=vs.flatten.length then some vs.flatten else none
   | none=>none
  | _,_=>none
theorem parts {α : Type} : ∀ (vs:List (List α)) (cs:List α) (o:Nat),(∀ (i:Nat) (v:List α),vs[i]?=some v->(cs.drop (o+(vs.take i).flatten.length)).take v.length=v)->cs.length=o+vs.flatten.length->cs.drop o=vs.flatten
 | [],cs,o,_,hl=>by simp at hl; simp[hl]
 | v::vs,cs,o,h,hl=>by
  have h0:=h 0 v rfl
  simp only[List.take_zero,List.flatten_nil,List.length_nil,Nat.add_zero] at h0
  have ih:=parts vs cs (o+v.length) (fun i u hu=>by
   have:=h (i+1) u hu
   simpa [Nat.add_assoc] using this) (by rw[List.flatten_cons,List.length_append] at hl; omega)
  rw[List.flatten_cons,<- ih]
  have e:=List.take_append_drop v.length (cs.drop o)
  rw[h0,List.drop_drop] at e
  exact e.symm
theorem qkh {α β : Type} {f : α -> Option β} : ∀ {l:List α} {r:List β},l.mapM f=some r->r.length=l.length /\ ∀ (i:Nat) (a : α),l[i]?=some a -> ∃ b,r[i]?=some b/\f a=some b
 | [],r,h=>by simp at h; subst h; simp
 | a::l,r,h=>by
  simp only[List.mapM_cons,Option.pure_def,Option.bind_eq_bind,Option.bind_eq_some_iff,Option.some.injEq] at h
  obtain⟨b,hb,r',hr,rfl⟩:=h
  obtain⟨h1,h2⟩:=qkh hr
  refine⟨by simp[h1],fun i x hx=>?_⟩
  cases i with
  | zero=>simp at hx; subst hx; exact⟨b,rfl,hb⟩
  | succ i=>simpa using h2 i x (by simpa using hx)
theorem qeZ {α : Type} (m:Nat) : ∀ (vs:List (List α)) (i:Nat),(∀ v∈vs,v.length=m)->i<=vs.length->(vs.take i).flatten.length=i*m
 | _,0,_,_=>by simp
 | [],i+1,_,h=>by simp at h
 | v::vs,i+1,h,hi=>by
  simp only[List.take_succ_cons,List.flatten_cons,List.length_append]
  rw[qeZ m vs i (fun u hu=>h u (List.mem_cons_of_mem _ hu)) (by simpa using hi),h v List.mem_cons_self,Nat.add_mul]
  omega
section
variable {enc:TypeId × Value->Unit} {P:Program} {w:World} {base:Nat} {spare:Nat->Bool} {held:Bool}
theorem qki : ∀ (m:Nat) (t:TypeId) (d:DataW Unit) (vs:List Value) (fuel:Nat) (cs:List Value) (p:List MemPlace),fl P m t d=some vs->DataW.trod enc P w base spare held fuel t cs=some (d,p)->cs=vs
 | 0,t,d,vs,fuel,cs,p,h,_=>by simp[fl] at h
 | m+1,t,d,vs,fuel,cs,p,h,ht=>by
  unfold fl at h
  split at h
  ·rename_i k k' n hu
   split at h
   ·rename_i hk
    subst hk
    cases h
    obtain⟨n',rfl,e,_⟩:=DataW.trod_int hu ht
    simp only[Prod.mk.injEq,DataW.lit.injEq,Lit.int.injEq] at e
    rw[e.1.2]
   ·cases h
  ·rename_i n e ds hu
   split at h
   ·rename_i us hus
    split at h
    ·rename_i hc
     cases h
     obtain⟨h1,h2,h3⟩:=hc
     obtain⟨xs,q,rfl,hx,hl,hn,hel⟩:=DataW.trod_array hu ht
     simp only[Prod.mk.injEq,DataW.agg.injEq] at hx
     obtain⟨g1,g2⟩:=qkh hus
     have hlen : ∀ v∈us,v.length=P.cellsOf e:=fun v hv=>by simpa using List.all_eq_true.1 h2 v hv
     have hp:=parts us cs 0 (fun i v hv=>by
      have hi:i<us.length:=(List.getElem?_eq_some_iff.1 hv).1
      have hfl:=qeZ (P.cellsOf e) us i hlen (by omega)
      rw[Nat.zero_add,hfl,hlen v (List.mem_of_getElem? hv)]
      have:=hel i (by omega)
      obtain⟨x,hxi⟩ : ∃ x,xs[i]?=some x:=⟨xs[i]'(by omega),List.getElem?_eq_getElem (by omega)⟩
      rw[hxi] at this
      have hd:ds[i]?=some x.1:=by rw[hx.1]; simp[hxi]
      obtain⟨b,hb,hf⟩:=g2 i _ hd
      rw[hv] at hb
      cases hb
      exact qki m e x.1 v q _ x.2 hf this) (by
      have hfl:=qeZ (P.cellsOf e) us us.length hlen (by omega)
      rw[List.take_length] at hfl
      rw[hl,h3,hfl,g1,h1]; simp)
     simpa using hp
    ·cases h
   ·cases h
  ·rename_i fs ds hu
   split at h
   ·rename_i us hus
    split at h
    ·rename_i hc
     cases h
     obtain⟨h1,h2,h3,h4⟩:=hc
     obtain⟨xs,q,rfl,hx,hl,hn,hel⟩:=DataW.trod_struct hu ht
     simp only[Prod.mk.injEq,DataW.agg.injEq] at hx
     obtain⟨g1,g2⟩:=qkh hus
     have gl:us.length=fs.size:=by rw[g1]; simp[h1]
     have hp:=parts us cs 0 (fun i v hv=>by
      have hi:i<us.length:=(List.getElem?_eq_some_iff.1 hv).1
      obtain⟨f,hf⟩ : ∃ f,fs[i]?=some f:=⟨fs[i]'(by omega),Array.getElem?_eq_getElem (by omega)⟩
      have hfl:fs.toList[i]?=some f:=by simpa using hf
      have ho:=List.all_eq_true.1 h3 i (by simp; omega)
      simp only[hf,Option.map_some,Option.getD_some,beq_iff_eq] at ho
      have hz:(fs.toList.zip us)[i]?=some (f,v):=by simp[List.getElem?_zip_eq_some,hfl,hv]
      have hlv:=List.all_eq_true.1 h2 (f,v) (List.mem_of_getElem? hz)
      simp only[beq_iff_eq] at hlv
      rw[Nat.zero_add,<- ho,hlv]
      have:=hel i f hf
      obtain⟨x,hxi⟩ : ∃ x,xs[i]?=some x:=⟨xs[i]'(by omega),List.getElem?_eq_getElem (by omega)⟩
      rw[hxi] at this
      have hd:ds[i]?=some x.1:=by rw[hx.1]; simp[hxi]
      have hz2:(fs.toList.zip ds)[i]?=some (f,x.1):=by simp[List.getElem?_zip_eq_some,hfl,hd]
      obtain⟨b,hb,hf2⟩:=g2 i _ hz2
      rw[hv] at hb
      cases hb
      exact qki m f.type x.1 v q _ x.2 hf2 this) (by rw[hl,h4]; simp)
     simpa using hp
    ·cases h
   ·cases h
  ·cases h
end
theorem qgM {F:Nat->Nat} {w:World} : ∀ (vs:List Value),(vs.all fun v=>qbK v)=true->RepDs F w (vs.map .lit) vs
 | [],_=>rfl
 | v::vs,h=>by
  simp only[List.all_cons,Bool.and_eq_true] at h
  exact⟨v,vs,rfl,⟨rfl,h.1⟩,qgM vs h.2⟩
theorem qtK {P:Program} {w:World} {n:String} {d:DataW Unit} {g:Nat} {t:TypeId} {vs:List Value} {m:Nat} (hg:P.globalNamed n=some g) (ht:(P.globals[g]?).map (·.type)=some t)
  (hf:fl P m t d=some vs) (hv:(vs.all fun v=>qbK v&&v.oneCell')=true) (h:laidMet P [(n,d)] w):RepDs (qoi w) w (vs.map .lit) vs/\Row (qoi w) w g 0 vs:=by
 obtain⟨ps,⟨g0,t0,cs,fuel,p,q,hg0,ht0,hvar,hd,_,hps⟩,_,hcell⟩:=h
 obtain rfl:=Option.some.inj (hg.symm.trans hg0)
 obtain rfl:=Option.some.inj (ht.symm.trans ht0)
 have e:=qki m t d vs fuel cs.toList p hf hd
 have hc : ∀ i,w.cell? ⟨g,i,none⟩=vs[i]?:=fun i=>by rw[World.var?_cell hg hvar i,<- e]; simp
 refine⟨qgM vs (by
  rw[List.all_eq_true] at hv ⊢
  intro v hvm
  have:=hv v hvm
  simp only[Bool.and_eq_true] at this
  exact this.1),fun i v hi=>by rw[Nat.zero_add,hc,hi],fun hl=>?_,fun v hvm=>?_⟩
 ·have h0:w.cell? ⟨g,vs.length-1,none⟩=some (vs[vs.length-1]'(by omega)):=by rw[hc,List.getElem?_eq_getElem]
  unfold World.cell? at h0
  unfold qoi
  split at h0
  ·rename_i c _ _ hb
   rw[hb]
   simp only[Option.isSome_none,Bool.false_eq_true,if_false] at h0
   have hlt:vs.length-1<c.size:=by
    rcases Nat.lt_or_ge (vs.length-1) c.size with h' | h'
    ·exact h'
    ·rw[Array.getElem?_eq_none h'] at h0; cases h0
   simp only
   omega
  ·cases h0
 ·have:=List.all_eq_true.1 hv v hvm
  simp only[Bool.and_eq_true] at this
  exact this.2
end Go.Pm
end SU
section SU2
namespace Go.Pm
open Go
theorem qmG {P:Program} {w:World} {n:String} {d:DataW Unit} : ∀ (L:List (String × DataW Unit)) (ps:List MemPlace),DataW.LaidVars P w L ps->(n,d)∈L ->
  ∃ g t cs fuel p,P.globalNamed n=some g/\(P.globals[g]?).map (·.type)=some t/\w.var? P n=some cs/\DataW.trod (fun _=>()) P w 0 (fun _=>true) false fuel t cs.toList=some (d,p)
 | [],ps,_,hm=>by cases hm
 | (n',d')::r,ps,h,hm=>by
  obtain⟨g,t,cs,fuel,p,q,h1,h2,h3,h4,h5,_⟩:=h
  rcases List.mem_cons.1 hm with e | hm
  ·cases e; exact⟨g,t,cs,fuel,p,h1,h2,h3,h4⟩
  ·exact qmG r q h5 hm
theorem glb_of_laids {P:Program} {w:World} {n:String} {d:DataW Unit} {L:List (String × DataW Unit)} {g:Nat} {t:TypeId} {vs:List Value} {m:Nat} (hmem:(n,d)∈L) (hg:P.globalNamed n=some g) (ht:(P.globals[g]?).map (·.type)=some t)
  (hf:fl P m t d=some vs) (hv:(vs.all fun v=>qbK v&&v.oneCell')=true) (h:laidMet P L w):RepDs (qoi w) w (vs.map .lit) vs/\Row (qoi w) w g 0 vs:=by
 obtain⟨ps,hL,_,hcell⟩:=h
 obtain⟨g0,t0,cs,fuel,p,hg0,ht0,hvar,hd⟩:=qmG L ps hL hmem
 obtain rfl:=Option.some.inj (hg.symm.trans hg0)
 obtain rfl:=Option.some.inj (ht.symm.trans ht0)
 have e:=qki m t d vs fuel cs.toList p hf hd
 have hc : ∀ i,w.cell? ⟨g,i,none⟩=vs[i]?:=fun i=>by rw[World.var?_cell hg hvar i,<- e]; simp
 refine⟨qgM vs (by
  rw[List.all_eq_true] at hv ⊢
  intro v hvm
  have:=hv v hvm
  simp only[Bool.and_eq_true] at this
  exact this.1),fun i v hi=>by rw[Nat.zero_add,hc,hi],fun hl=>?_,fun v hvm=>?_⟩
 ·have h0:w.cell? ⟨g,vs.length-1,none⟩=some (vs[vs.length-1]'(by omega)):=by rw[hc,List.getElem?_eq_getElem]
  unfold World.cell? at h0
  unfold qoi
  split at h0
  ·rename_i c _ _ hb
   rw[hb]
   simp only[Option.isSome_none,Bool.false_eq_true,if_false] at h0
   have hlt:vs.length-1<c.size:=by
    rcases Nat.lt_or_ge (vs.length-1) c.size with h' | h'
    ·exact h'
    ·rw[Array.getElem?_eq_none h'] at h0; cases h0
   simp only
   omega
  ·cases h0
 ·have:=List.all_eq_true.1 hv v hvm
  simp only[Bool.and_eq_true] at this
  exact this.2
end Go.Pm
end SU2
section SW2
namespace Go.Pm
def qoa (xs:List Int):List V:=xs.map fun n=>V.int n
@[simp] theorem qth (xs:List Int):(qoa xs).length=xs.length:=by simp[qoa]
@[simp] theorem qrW (xs:List Int):(qcK xs).length=xs.length:=by simp[qcK]
@[simp] theorem que (xs:List Int):qaS (qoa xs)=[]:=by
 induction xs with
 | nil=>rfl
 | cons x xs ih=>simpa [qoa] using ih
@[simp] theorem qvv (r:Nat->Nat) (xs:List Int):qeo r (qoa xs)=qoa xs:=by
 induction xs with
 | nil=>rfl
 | cons x xs ih=>simpa [qoa] using ih
@[simp] theorem qti (xs:List Int):qbY (qoa xs)=some (qcK xs):=by
 induction xs with
 | nil=>rfl
 | cons x xs ih=>
  have:qbY (qoa (x::xs))=match qbY (qoa xs) with
   | some ds=>some (.lit (.int .i64 x)::ds)
   | none=>none:=rfl
  rw[this,ih]; rfl
@[simp] theorem qq3 (xs:List Int):(qcK xs).all (fun d=>V.one (.dat d))=true:=by
 simp[qcK,Value.oneCell']
@[simp] theorem qrX (xs:List Int):(qoa xs).all V.one=true:=by
 simp[qoa,Value.oneCell']
@[simp] theorem qq4 (xs:List Int):(∀ x∈qcK xs,V.one (.dat x)=true):=by
 simp[qcK,Value.oneCell']
def qxW (cs:List Int) (i v:Int):List Int:=cs.set i.toNat v
@[simp] theorem qtj (cs:List Int) (i v:Int):(qxW cs i v).length=cs.length:=by simp[qxW]
def around (n m:Int):Int:=(if n<0 then -(n+1) else n).tmod m
theorem qib {n m:Int} (h1:I64 n) (hm:1<=m):0<=around n m/\around n m<m:=by
 unfold around
 split
 ·exact⟨Int.tmod_nonneg _ (by omega),Int.tmod_lt_of_pos _ (by omega)⟩
 ·exact⟨Int.tmod_nonneg _ (by omega),Int.tmod_lt_of_pos _ (by omega)⟩
theorem qhv {n m:Int} (h0:0<=n) (hm:1<=m):0<=n.tmod m/\n.tmod m<m:=⟨Int.tmod_nonneg _ h0,Int.tmod_lt_of_pos _ (by omega)⟩
structure IsRow (d:D) (xs:List Int):Prop where
 len : ∀ σ,V.len σ .sl (.dat d)=some xs.length
 at_ : ∀ i:Int,0<=i->i<xs.length->qaf 1 (.dat d) i=some (.dat (.imm (qcK xs) i.toNat))
 one:V.one (.dat d)=true
 cells:V.cells (.dat d)=[.dat d]
theorem qq5 (xs:List Int) (f:Bool):IsRow (.sl (qcK xs) xs.length f) xs where
 len:=fun _=>rfl
 at_:=fun i h0 h1=>by simp[qaf,h0,h1]
 one:=rfl
 cells:=rfl
theorem qph (o:Option Addr):IsRow (.lit (.slice o 0 0)) [] where
 len:=fun _=>rfl
 at_:=fun i h0 h1=>by simp at h1; omega
 one:=rfl
 cells:=rfl
theorem qcg {prog:Nat->Option PFun} {k:Nat} {b:PC} {fr fr':Fr} {σ σ':S} (h:gcF k fr σ = gcF k fr' σ'):Z prog (.loop k b fr σ)=Z prog (.loop k b fr' σ'):=by
 rw[qac,qac,h]
theorem qdW (cs:List D) (n:Nat) (f:Bool) (i:Int) (h0:0<=i) (h1:i<n):qaf 1 (.dat (.sl cs n f)) i=some (.dat (.imm cs i.toNat)):=by
 simp[qaf,h0,h1]
theorem qic (σ : S):V.len σ .sl (.dat (.lit (.slice none 0 0)))=some 0:=rfl
theorem qgl (σ : S) (cs:List D) (n:Nat) (f:Bool):V.len σ .sl (.dat (.sl cs n f))=some n:=rfl
@[simp] theorem qxm:Fr.noD []=[]:=rfl
@[simp] theorem qwe (k:Nat) (v:V) (r:Fr):Fr.noD ((k,v)::r)=if k=1000000 then Fr.noD r else (k,v)::Fr.noD r:=by
 simp only[Fr.noD,List.filter_cons,dkey]
 by_cases h:k=1000000<;>simp[h]
end Go.Pm
end SW2
section SX1
namespace Go.Pm
theorem qud {d:D} {xs:List Int} (h:RowV d xs):IsRow d xs:=by
 rcases h with ⟨o,rfl,rfl⟩ | rfl
 ·exact qph o
 ·exact qq5 xs false
theorem qxV {n:Int} (h:(Lit.int .i64 n).wf=true):I64 n:=by
 simp only[Lit.wf,Bool.and_eq_true,decide_eq_true_eq] at h
 have e1:IntKind.i64.min = -9223372036854775808:=by decide
 have e2:IntKind.i64.max=9223372036854775807:=by decide
 unfold I64
 omega
end Go.Pm
end SX1
section SX3
namespace Go.Pm
open Go
theorem qxH (fid:Fid) (w:World) (s:ByteArray):Rep fid (start w) (.str s) (.string s):=⟨rfl,rfl⟩
theorem qwu (fid:Fid) (w:World) (n:Int):Rep fid (start w) (.dat (.lit (.int .u8 n))) (.int .u8 n):=⟨rfl,rfl⟩
theorem qyu {n:Int} (h:(Lit.int .u8 n).wf=true) : ∃ c:Nat,c<256/\n=c:=by
 have:0<=n/\n<256:=by
  simp only[Lit.wf,Bool.and_eq_true,decide_eq_true_eq] at h
  have e1:IntKind.u8.min=0:=by decide
  have e2:IntKind.u8.max=255:=by decide
  omega
 exact⟨n.toNat,by omega,by omega⟩
end Go.Pm
end SX3
