/- The abstract program's meaning without fuel: equations to reckon with. Reckoning with the abstract machine: what simp may unfold; rows of numbers. What a law is given, as abstract values; what it may leave behind. What a package variable holds, read off the datum that it is laid with. What a package variable holds, out of a list of several that are laid. Rows of numbers, places, wraps: what the walks of all chapters use. A law's arguments, as the abstract machine's values. A string, a byte, as arguments of a law. -/
import Derived.Test.YtjdbkncfebebnaaDoorPmR
import Derived.IntWalk
import Derived.DataReads
import Derived.Below
import Derived.OpenShut
import Derived.FnData
import Derived.LaidMore
set_option linter.unusedSimpArgs false
set_option linter.unusedVariables false
section SY
namespace Go.Pm
def Le (C C':Task->Option Res):Prop := ∀ t r,C t=some r->C' t=some r
section
variable {C C':Task->Option Res}
theorem qbK (h:Le C C') {f:List V->S->Task} {args:List V} {σ : S} {r:V × S} (hr:qbN C f args σ = some r):qbN C' f args σ = some r:=by
 unfold qbN at hr ⊢
 simp only at hr ⊢
 split at hr
 ·rename_i a s hres
  split at hr
  ·cases hr
  ·rename_i v s' hnp hc
   simp only[h _ _ hc]
   exact hr
  ·cases hr
 ·cases hr
theorem qdU (h:Le C C') {f:List V->S->Task} {args:List V} {σ : S} {r:V × S} (hr:qag C f args σ = some r):qag C' f args σ = some r:=by
 unfold qag at hr ⊢
 simp only at hr ⊢
 split at hr
 ·rename_i a s hres
  split at hr
  ·rename_i v s' hc
   simp only[h _ _ hc]
   exact hr
  ·cases hr
 ·cases hr
theorem qiG (h:Le C C') {fr:Fr} {σ : S} {op:O} {r:V × S} (hr:qb6 C fr σ op=some r):qb6 C' fr σ op=some r:=by
 cases op with
 | call f xs=>
  simp only[qb6] at hr ⊢
  split at hr
  ·exact qdU h hr
  ·cases hr
 | callv f xs=>
  simp only[qb6] at hr ⊢
  split at hr
  ·exact qdU h hr
  ·exact qdU h hr
  ·cases hr
 | invoke tbl x xs=>
  simp only[qb6] at hr ⊢
  split at hr
  ·split at hr
   ·exact qdU h hr
   ·cases hr
  ·cases hr
 | _=>exact hr
theorem qct (h:Le C C') {fr:Fr} {σ : S} {op:O} {r:V × S} (hr:qaF C fr σ op=some r):qaF C' fr σ op=some r:=by
 cases op with
 | call f xs=>
  simp only[qaF] at hr ⊢
  split at hr
  ·exact qbK h hr
  ·cases hr
 | callv f xs=>
  simp only[qaF] at hr ⊢
  split at hr
  ·exact qbK h hr
  ·exact qbK h hr
  ·exact qbK h hr
  ·cases hr
 | invoke tbl x xs=>
  simp only[qaF] at hr ⊢
  split at hr
  ·split at hr
   ·exact qbK h hr
   ·cases hr
  ·cases hr
 | _=>exact hr
theorem qe9 (h:Le C C') : ∀ {is:List I} {fr:Fr} {σ : S} {r:Fr × S},qeQ C is fr σ = some r->qeQ C' is fr σ = some r
 | [],_,_,_,hr=>hr
 | i::is,fr,σ,r,hr=>by
  simp only[qeQ] at hr ⊢
  split at hr
  ·rename_i hw
   split at hr
   ·rename_i v σ' hv
    simp only[qct h hv]
    exact qe9 h hr
   ·cases hr
  ·exact qe9 h hr
  ·cases hr
theorem qep (h:Le C C') {f:List V->S->Task} {args:List V} {σ : S} {r:V × S} (hr:qag C f args σ = some r):qbN C' f args σ = none:=by
 unfold qag at hr
 unfold qbN
 simp only at hr ⊢
 split at hr
 ·rename_i a s hres
  split at hr
  ·rename_i v s' hc
   simp only[h _ _ hc]
  ·cases hr
 ·cases hr
theorem qfY (h:Le C C') {fr:Fr} {σ : S} {op:O} {r:V × S} (hr:qb6 C fr σ op=some r):qaF C' fr σ op=none:=by
 cases op with
 | call f xs=>
  simp only[qb6] at hr
  simp only[qaF]
  split at hr
  ·exact qep h hr
  ·cases hr
 | callv f xs=>
  simp only[qb6] at hr
  simp only[qaF]
  split at hr
  ·rename_i h1 h2; simp only[h1,h2]; exact qep h hr
  ·rename_i h1 h2; simp only[h1,h2]; exact qep h hr
  ·cases hr
 | invoke tbl x xs=>
  simp only[qb6] at hr
  simp only[qaF]
  split at hr
  ·split at hr
   ·exact qep h hr
   ·cases hr
  ·cases hr
 | panic x=>rfl
 | _=>cases hr
theorem qdI (h:Le C C') : ∀ {is:List I} {fr:Fr} {σ : S} {r:V × Fr × S},qdi C is fr σ = some r->qdi C' is fr σ = some r/\qeQ C' is fr σ = none
 | [],_,_,_,hr=>by simp[qdi] at hr
 | i::is,fr,σ,r,hr=>by
  simp only[qdi,qeQ] at hr ⊢
  split at hr
  ·rename_i hw
   split at hr
   ·rename_i v σ' hv
    simp only[qct h hv]
    exact qdI h hr
   ·split at hr
    ·rename_i v σ' hv
     simp only[qfY h hv,qiG h hv]
     exact⟨hr,trivial⟩
    ·cases hr
  ·exact qdI h hr
  ·cases hr
theorem qdf (h:Le C C') : ∀ {is:List I} {q:Nat} {fr:Fr} {σ : S} {r:Nat × List Ev × V × S},qaE C q is fr σ = some r->qaE C' q is fr σ = some r/\qdv C' is fr σ = none
 | [],_,_,_,_,hr=>by simp[qaE] at hr
 | i::is,q,fr,σ,r,hr=>by
  simp only[qaE,qdv] at hr ⊢
  split at hr
  ·rename_i hw
   split at hr
   ·rename_i v σ' hv
    simp only[qct h hv]
    split at hr
    ·rename_i p l u σ'' hrest
     obtain⟨h1,h2⟩:=qdf h hrest
     simp only[h1,h2]
     exact⟨hr,trivial⟩
    ·cases hr
   ·split at hr
    ·rename_i v σ' hv
     simp only[qfY h hv,qiG h hv]
     exact⟨hr,trivial⟩
    ·cases hr
  ·split at hr
   ·rename_i p l u σ'' hrest
    obtain⟨h1,h2⟩:=qdf h hrest
    simp only[h1,h2]
    exact⟨hr,trivial⟩
   ·cases hr
  ·cases hr
theorem qdJ (h:Le C C') : ∀ {is:List I} {fr:Fr} {σ : S} {r:List Ev × Fr × S},qdv C is fr σ = some r->qdv C' is fr σ = some r
 | [],_,_,_,hr=>hr
 | i::is,fr,σ,r,hr=>by
  simp only[qdv] at hr ⊢
  split at hr
  ·rename_i hw
   split at hr
   ·rename_i v σ' hv
    simp only[qct h hv]
    split at hr
    ·rename_i l fr' σ'' hrest
     simp only[qdJ h hrest]; exact hr
    ·cases hr
   ·cases hr
  ·split at hr
   ·rename_i l fr' σ'' hrest
    simp only[qdJ h hrest]; exact hr
   ·cases hr
  ·cases hr
theorem qea (h:Le C C') : ∀ {is:List I} {fr:Fr} {σ : S} {r:List (Fr × S)},qbG C is fr σ = some r->qbG C' is fr σ = some r
 | [],_,_,_,hr=>hr
 | i::is,fr,σ,r,hr=>by
  simp only[qbG] at hr ⊢
  split at hr
  ·rename_i hw
   split at hr
   ·rename_i v σ' hv
    simp only[qct h hv]
    split at hr
    ·rename_i l hrest
     simp only[qea h hrest]; exact hr
    ·cases hr
   ·cases hr
  ·split at hr
   ·rename_i l hrest
    simp only[qea h hrest]; exact hr
   ·cases hr
  ·cases hr
theorem qaS (h:Le C C') {k:Nat} : ∀ {pc:PC} {fr:Fr} {σ : S} {r:Ex × Fr × S},run C k pc fr σ = some r->run C' k pc fr σ = some r
 | .range f ps as bd,fr,σ,r,hr=>by
  simp only[run] at hr ⊢
  split at hr
  ·split at hr
   ·rename_i v σ' hx
    split at hx
    ·rename_i hl
     rw[if_pos hl]
     simp only[qbK h hx]
     exact hr
    ·cases hx
   ·cases hr
  ·cases hr
 | .skip,_,_,_,hr=>hr
 | .exit _,_,_,_,hr=>hr
 | .ret,_,_,_,hr=>hr
 | .region none ops keep _,fr,σ,r,hr=>by
  simp only[run] at hr ⊢
  split at hr
  ·rename_i fr' σ' hx; simp only[qe9 h hx]; exact hr
  ·split at hr
   ·rename_i v fr' σ' hx
    obtain⟨h1,h2⟩:=qdI h hx
    simp only[h1,h2]; exact hr
   ·cases hr
 | .region (some rs) ops keep _,fr,σ,r,hr=>by
  simp only[run] at hr ⊢
  split at hr
  ·rename_i es fr' σ' hx
   simp only[qdJ h hx]
   split at hr
   ·rename_i hc; rw[if_pos hc]; exact hr
   ·rename_i hc
    rw[if_neg hc]
    split at hr
    ·rename_i ss ht; simp only[qea h ht]; exact hr
    ·cases hr
  ·split at hr
   ·rename_i p es v σ' hx
    obtain⟨h1,h2⟩:=qdf h hx
    simp only[h1,h2]; exact hr
   ·cases hr
 | .seq a b,fr,σ,r,hr=>by
  simp only[run] at hr ⊢
  split at hr
  ·rename_i fr' σ' hx; simp only[qaS h hx]; exact qaS h hr
  ·rename_i hne
   have:=qaS h hr
   rw[this]
   obtain⟨e,fr',σ'⟩:=r
   cases e with
   | normal=>exact absurd hr (hne _ _)
   | exit id=>rfl
   | ret=>rfl
   | pan v=>rfl
 | .cond c a b,fr,σ,r,hr=>by
  simp only[run] at hr ⊢
  split at hr
  ·exact qaS h hr
  ·exact qaS h hr
  ·cases hr
 | .block id b,fr,σ,r,hr=>by
  simp only[run] at hr ⊢
  split at hr
  ·rename_i id' fr' σ' hx; simp only[qaS h hx]; exact hr
  ·rename_i hne
   have:=qaS h hr
   rw[this]
   obtain⟨e,fr',σ'⟩:=r
   cases e with
   | normal=>rfl
   | exit id=>exact absurd hr (hne _ _ _)
   | ret=>rfl
   | pan v=>rfl
 | .loop b,fr,σ,r,hr=>by
  simp only[run] at hr ⊢
  split at hr
  ·rename_i e fr' σ' hx; simp only[h _ _ hx]; exact hr
  ·cases hr
theorem qeq (h:Le C C') {args:List V} {σ : S} {r:Res} (hr:qcB C args σ = some r):qcB C' args σ = some r:=by
 unfold qcB at hr ⊢
 split at hr
 ·split at hr
  ·split at hr
   ·rename_i hlp hc
    simp only[if_pos hc]
    split at hr
    ·rename_i fr1 σ1 hx
     simp only[qaS h hx]
     split at hr
     ·split at hr
      ·rename_i hlp1 hst
       simp only[hlp1,if_pos hst]
       split at hr
       ·cases hr
       ·rename_i e fr2 σ2 hnp hy
        simp only[qaS h hy]
        cases e with
        | pan v=>exact (hnp _ rfl).elim
        | normal=>exact hr
        | exit id=>exact hr
        | ret=>exact hr
       ·cases hr
      ·cases hr
     ·cases hr
    ·cases hr
   ·cases hr
  ·cases hr
 ·cases hr
theorem qcu (h:Le C C') : ∀ {l:List V} {σ : S} {r:S},qbv C l σ = some r->qbv C' l σ = some r
 | [],σ,r,hr=>hr
 | v::l,σ,r,hr=>by
  unfold qbv at hr ⊢
  split at hr
  ·rename_i e; cases e
  ·rename_i id a r' e
   cases e
   split at hr
   ·rename_i v' σ' hc
    simp only[qbK h hc]
    exact qcu h hr
   ·cases hr
  ·cases hr
theorem qiH (h:Le C C') {pf:PFun} {k:Nat} {fr:Fr} {σ : S} {r:Res} (hr:qfM C pf k fr σ = some r):qfM C' pf k fr σ = some r:=by
 unfold qfM at hr ⊢
 split at hr
 ·rename_i σ' hx; simp only[qcu h hx]; exact hr
 ·cases hr
theorem qhA (h:Le C C') {pf:PFun} {k:Nat} {v:V} {fr:Fr} {σ : S} {r:Res} (hr:qf9 C pf k v fr σ = some r):qf9 C' pf k v fr σ = some r:=by
 unfold qf9 at hr ⊢
 split at hr
 ·exact hr
 ·split at hr
  ·cases hr
  ·rename_i hn
   rw[if_neg hn]
   split at hr
   ·rename_i v' σ' hc
    simp only[qbK h hc]
    split at hr
    ·rename_i σ'' hx; simp only[qcu h hx]; exact hr
    ·cases hr
   ·cases hr
 ·cases hr
theorem qfZ (h:Le C C') {pf:PFun} {args:List V} {σ : S} {r:Res} (hr:qcC C pf args σ = some r):qcC C' pf args σ = some r:=by
 have lv : ∀ {k fr σ},(if pf.df then qfM C pf k fr σ else qdN pf k fr σ)=some r->(if pf.df then qfM C' pf k fr σ else qdN pf k fr σ)=some r:=fun hr=>by
  split at hr
  ·rename_i hd; rw[if_pos hd]; exact qiH h hr
  ·rename_i hd; rw[if_neg hd]; exact hr
 unfold qcC at hr ⊢
 split at hr
 ·rename_i hl
  rw[if_pos hl]
  split at hr
  ·rename_i fr σ' hx; simp only[qaS h hx]; exact lv hr
  ·rename_i fr σ' hx; simp only[qaS h hx]; exact lv hr
  ·rename_i v fr σ' hx; simp only[qaS h hx]; exact qhA h hr
  ·cases hr
 ·cases hr
theorem qfz (h:Le C C') {pf:PFun} {args:List V} {σ : S} {r:Res} (hr:qbk C pf args σ = some r):qbk C' pf args σ = some r:=by
 unfold qbk at hr ⊢
 split at hr
 ·split at hr
  ·rename_i hl
   rw[if_pos hl]
   split at hr
   ·rename_i fr σ' hx; simp only[qaS h hx]; exact hr
   ·rename_i fr σ' hx; simp only[qaS h hx]; exact hr
   ·cases hr
  ·cases hr
 ·cases hr
end
variable {prog:Nat->Option PFun}
theorem qkx : ∀ n,Le (qcD prog n) (qcD prog (n+1))
 | 0=>fun t r h=>by simp[qcD] at h
 | n+1=>fun t r h=>by
  have ih:=qkx n
  cases t with
  | call f args σ=>
   simp only[qcD] at h ⊢
   split at h
   ·split at h
    ·cases h
    ·rename_i hc; rw[if_neg hc]; exact qfZ ih h
   ·cases h
  | dcall f args σ=>
   simp only[qcD] at h ⊢
   split at h
   ·exact qfz ih h
   ·cases h
  | round args σ=>
   simp only[qcD] at h ⊢
   exact qeq ih h
  | loop k b fr σ=>
   simp only[qcD] at h ⊢
   split at h
   ·rename_i fr0 σ0 hg
    split at h
    ·rename_i fr' σ' hx
     rw[qaS ih hx]
     exact ih _ _ h
    ·rename_i e fr' σ' hne hx
     rw[qaS ih hx]
     cases e with
     | normal=>exact absurd rfl hne
     | exit id=>exact h
     | ret=>exact h
     | pan v=>exact h
    ·cases h
   ·cases h
theorem qa6 {m n:Nat} (h:m<=n):Le (qcD prog m) (qcD prog n):=by
 induction n with
 | zero => have:m=0:=by omega
           subst this; exact fun _ _ h=>h
 | succ n ih=>
  rcases Nat.lt_or_ge n m with h' | h'
  ·have:m=n+1:=by omega
   subst this; exact fun _ _ h=>h
  ·exact fun t r ht=>qkx n t r (ih h' t r ht)
open Classical in
noncomputable def Z (prog:Nat->Option PFun) (t:Task):Option Res:=if h : ∃ n r,qcD prog n t=some r then qcD prog (Classical.choose h) t else none
theorem Z_iff {t:Task} {r:Res}:Z prog t=some r ↔ ∃ n,qcD prog n t=some r:=by
 classical
 unfold Z
 constructor
 ·intro h
  split at h
  ·exact⟨_,h⟩
  ·cases h
 ·rintro ⟨n,hn⟩
  have hex : ∃ n r,qcD prog n t=some r:=⟨n,r,hn⟩
  rw[dif_pos hex]
  obtain⟨r',hr'⟩:=Classical.choose_spec hex
  have h1:=qa6 (prog:=prog) (Nat.le_max_left n (Classical.choose hex)) t r hn
  have h2:=qa6 (prog:=prog) (Nat.le_max_right n (Classical.choose hex)) t r' hr'
  rw[h1] at h2
  rw[hr',h2]
theorem qpD {n:Nat} {t:Task} {r:Res} (h:qcD prog n t=some r):Z prog t=some r:=Z_iff.2 ⟨n,h⟩
theorem qdg {f:List V->S->Task} {args:List V} {σ : S} {r:V × S} (hr:qbN (Z prog) f args σ = some r) : ∃ n,qbN (qcD prog n) f args σ = some r:=by
 unfold qbN at hr ⊢
 simp only at hr ⊢
 split at hr
 ·split at hr
  ·cases hr
  ·rename_i v s' hnp hc
   obtain⟨n,hn⟩:=Z_iff.1 hc
   exact⟨n,by simp only[hn]; exact hr⟩
  ·cases hr
 ·cases hr
theorem qfa {f:List V->S->Task} {args:List V} {σ : S} {r:V × S} (hr:qag (Z prog) f args σ = some r) : ∃ n,qag (qcD prog n) f args σ = some r:=by
 unfold qag at hr ⊢
 simp only at hr ⊢
 split at hr
 ·split at hr
  ·rename_i v s' hc
   obtain⟨n,hn⟩:=Z_iff.1 hc
   exact⟨n,by simp only[hn]; exact hr⟩
  ·cases hr
 ·cases hr
theorem qmf {fr:Fr} {σ : S} {op:O} {r:V × S} (hr:qb6 (Z prog) fr σ op=some r) : ∃ n,qb6 (qcD prog n) fr σ op=some r:=by
 cases op with
 | call f xs=>
  simp only[qb6] at hr ⊢
  split at hr
  ·exact qfa hr
  ·cases hr
 | callv f xs=>
  simp only[qb6] at hr ⊢
  split at hr
  ·exact qfa hr
  ·exact qfa hr
  ·cases hr
 | invoke tbl x xs=>
  simp only[qb6] at hr ⊢
  split at hr
  ·split at hr
   ·exact qfa hr
   ·cases hr
  ·cases hr
 | _=>exact⟨0,hr⟩
theorem qhB {fr:Fr} {σ : S} {op:O} {r:V × S} (hr:qaF (Z prog) fr σ op=some r) : ∃ n,qaF (qcD prog n) fr σ op=some r:=by
 cases op with
 | call f xs=>
  simp only[qaF] at hr ⊢
  split at hr
  ·exact qdg hr
  ·cases hr
 | callv f xs=>
  simp only[qaF] at hr ⊢
  split at hr
  ·exact qdg hr
  ·exact qdg hr
  ·exact qdg hr
  ·cases hr
 | invoke tbl x xs=>
  simp only[qaF] at hr ⊢
  split at hr
  ·split at hr
   ·exact qdg hr
   ·cases hr
  ·cases hr
 | _=>exact⟨0,hr⟩
theorem qjw : ∀ {is:List I} {fr:Fr} {σ : S} {r:Fr × S},qeQ (Z prog) is fr σ = some r -> ∃ n,qeQ (qcD prog n) is fr σ = some r
 | [],_,_,_,hr=>⟨0,hr⟩
 | i::is,fr,σ,r,hr=>by
  simp only[qeQ] at hr ⊢
  split at hr
  ·rename_i hw
   split at hr
   ·rename_i v σ' hv
    obtain⟨n,hn⟩:=qhB hv
    obtain⟨m,hm⟩:=qjw hr
    refine⟨max n m,?_⟩
    simp only[qct (qa6 (Nat.le_max_left n m)) hn]
    exact qe9 (qa6 (Nat.le_max_right n m)) hm
   ·cases hr
  ·exact qjw hr
  ·cases hr
theorem qhC : ∀ {is:List I} {fr:Fr} {σ : S} {r:List Ev × Fr × S},qdv (Z prog) is fr σ = some r -> ∃ n,qdv (qcD prog n) is fr σ = some r
 | [],_,_,_,hr=>⟨0,hr⟩
 | i::is,fr,σ,r,hr=>by
  simp only[qdv] at hr ⊢
  split at hr
  ·rename_i hw
   split at hr
   ·rename_i v σ' hv
    obtain⟨n,hn⟩:=qhB hv
    split at hr
    ·rename_i l fr' σ'' hrest
     obtain⟨m,hm⟩:=qhC hrest
     refine⟨max n m,?_⟩
     simp only[qct (qa6 (Nat.le_max_left n m)) hn,qdJ (qa6 (Nat.le_max_right n m)) hm]
     exact hr
    ·cases hr
   ·cases hr
  ·split at hr
   ·rename_i l fr' σ'' hrest
    obtain⟨m,hm⟩:=qhC hrest
    exact⟨m,by simp only[hm]; exact hr⟩
   ·cases hr
  ·cases hr
theorem qjx : ∀ {is:List I} {fr:Fr} {σ : S} {r:List (Fr × S)},qbG (Z prog) is fr σ = some r -> ∃ n,qbG (qcD prog n) is fr σ = some r
 | [],_,_,_,hr=>⟨0,hr⟩
 | i::is,fr,σ,r,hr=>by
  simp only[qbG] at hr ⊢
  split at hr
  ·rename_i hw
   split at hr
   ·rename_i v σ' hv
    obtain⟨n,hn⟩:=qhB hv
    split at hr
    ·rename_i l hrest
     obtain⟨m,hm⟩:=qjx hrest
     refine⟨max n m,?_⟩
     simp only[qct (qa6 (Nat.le_max_left n m)) hn,qea (qa6 (Nat.le_max_right n m)) hm]
     exact hr
    ·cases hr
   ·cases hr
  ·split at hr
   ·rename_i l hrest
    obtain⟨m,hm⟩:=qjx hrest
    exact⟨m,by simp only[hm]; exact hr⟩
   ·cases hr
  ·cases hr
theorem qhD : ∀ {is:List I} {fr:Fr} {σ : S} {r:V × Fr × S},qdi (Z prog) is fr σ = some r -> ∃ n,qdi (qcD prog n) is fr σ = some r
 | [],_,_,_,hr=>by simp[qdi] at hr
 | i::is,fr,σ,r,hr=>by
  simp only[qdi] at hr ⊢
  split at hr
  ·rename_i hw
   split at hr
   ·rename_i v σ' hv
    obtain⟨n,hn⟩:=qhB hv
    obtain⟨m,hm⟩:=qhD hr
    refine⟨max n m,?_⟩
    simp only[qct (qa6 (Nat.le_max_left n m)) hn]
    exact (qdI (qa6 (Nat.le_max_right n m)) hm).1
   ·split at hr
    ·rename_i v σ' hv
     obtain⟨n,hn⟩:=qmf hv
     exact⟨n,by simp only[qfY (fun _ _ h=>h) hn,hn]; exact hr⟩
    ·cases hr
  ·exact qhD hr
  ·cases hr
theorem qgx : ∀ {is:List I} {q:Nat} {fr:Fr} {σ : S} {r:Nat × List Ev × V × S},qaE (Z prog) q is fr σ = some r -> ∃ n,qaE (qcD prog n) q is fr σ = some r
 | [],_,_,_,_,hr=>by simp[qaE] at hr
 | i::is,q,fr,σ,r,hr=>by
  simp only[qaE] at hr ⊢
  split at hr
  ·rename_i hw
   split at hr
   ·rename_i v σ' hv
    obtain⟨n,hn⟩:=qhB hv
    split at hr
    ·rename_i p l u σ'' hrest
     obtain⟨m,hm⟩:=qgx hrest
     refine⟨max n m,?_⟩
     simp only[qct (qa6 (Nat.le_max_left n m)) hn,(qdf (qa6 (Nat.le_max_right n m)) hm).1]
     exact hr
    ·cases hr
   ·split at hr
    ·rename_i v σ' hv
     obtain⟨n,hn⟩:=qmf hv
     exact⟨n,by simp only[qfY (fun _ _ h=>h) hn,hn]; exact hr⟩
    ·cases hr
  ·split at hr
   ·rename_i p l u σ'' hrest
    obtain⟨m,hm⟩:=qgx hrest
    exact⟨m,by simp only[hm]; exact hr⟩
   ·cases hr
  ·cases hr
theorem qdu {k:Nat} : ∀ {pc:PC} {fr:Fr} {σ : S} {r:Ex × Fr × S},run (Z prog) k pc fr σ = some r -> ∃ n,run (qcD prog n) k pc fr σ = some r
 | .range f ps as bd,fr,σ,r,hr=>by
  simp only[run] at hr ⊢
  split at hr
  ·split at hr
   ·rename_i v σ' hx
    split at hx
    ·rename_i hl
     obtain⟨n,hn⟩:=qdg hx
     exact⟨n,by simp only[if_pos hl,hn]; exact hr⟩
    ·cases hx
   ·cases hr
  ·cases hr
 | .skip,_,_,_,hr=>⟨0,hr⟩
 | .exit _,_,_,_,hr=>⟨0,hr⟩
 | .ret,_,_,_,hr=>⟨0,hr⟩
 | .region none ops keep _,fr,σ,r,hr=>by
  simp only[run] at hr ⊢
  split at hr
  ·rename_i fr' σ' hx
   obtain⟨n,hn⟩:=qjw hx
   exact⟨n,by simp only[hn]; exact hr⟩
  ·split at hr
   ·rename_i v fr' σ' hx
    obtain⟨n,hn⟩:=qhD hx
    exact⟨n,by simp only[hn,(qdI (fun _ _ h=>h) hn).2]; exact hr⟩
   ·cases hr
 | .region (some rs) ops keep _,fr,σ,r,hr=>by
  simp only[run] at hr ⊢
  split at hr
  ·rename_i es fr' σ' hx
   obtain⟨n,hn⟩:=qhC hx
   split at hr
   ·rename_i hc; exact⟨n,by simp only[hn]; rw[if_pos hc]; exact hr⟩
   ·rename_i hc
    split at hr
    ·rename_i ss ht
     obtain⟨m,hm⟩:=qjx ht
     refine⟨max n m,?_⟩
     simp only[qdJ (qa6 (Nat.le_max_left n m)) hn,qea (qa6 (Nat.le_max_right n m)) hm]
     rw[if_neg hc]; exact hr
    ·cases hr
  ·split at hr
   ·rename_i p es v σ' hx
    obtain⟨n,hn⟩:=qgx hx
    exact⟨n,by simp only[hn,(qdf (fun _ _ h=>h) hn).2]; exact hr⟩
   ·cases hr
 | .seq a b,fr,σ,r,hr=>by
  simp only[run] at hr ⊢
  split at hr
  ·rename_i fr' σ' hx
   obtain⟨n,hn⟩:=qdu hx
   obtain⟨m,hm⟩:=qdu hr
   refine⟨max n m,?_⟩
   simp only[qaS (qa6 (Nat.le_max_left n m)) hn]
   exact qaS (qa6 (Nat.le_max_right n m)) hm
  ·rename_i hne
   obtain⟨n,hn⟩:=qdu hr
   refine⟨n,?_⟩
   rw[hn]
   obtain⟨e,fr',σ'⟩:=r
   cases e with
   | normal=>exact absurd hr (hne _ _)
   | exit id=>rfl
   | ret=>rfl
   | pan v=>rfl
 | .cond c a b,fr,σ,r,hr=>by
  simp only[run] at hr ⊢
  split at hr
  ·exact qdu hr
  ·exact qdu hr
  ·cases hr
 | .block id b,fr,σ,r,hr=>by
  simp only[run] at hr ⊢
  split at hr
  ·rename_i id' fr' σ' hx
   obtain⟨n,hn⟩:=qdu hx
   exact⟨n,by simp only[hn]; exact hr⟩
  ·rename_i hne
   obtain⟨n,hn⟩:=qdu hr
   refine⟨n,?_⟩
   rw[hn]
   obtain⟨e,fr',σ'⟩:=r
   cases e with
   | normal=>rfl
   | exit id=>exact absurd hr (hne _ _ _)
   | ret=>rfl
   | pan v=>rfl
 | .loop b,fr,σ,r,hr=>by
  simp only[run] at hr ⊢
  split at hr
  ·rename_i e fr' σ' hx
   obtain⟨n,hn⟩:=Z_iff.1 hx
   exact⟨n,by simp only[hn]; exact hr⟩
  ·cases hr
theorem qeL : ∀ {l:List V} {σ : S} {r:S},qbv (Z prog) l σ = some r -> ∃ n,qbv (qcD prog n) l σ = some r
 | [],σ,r,hr=>⟨0,hr⟩
 | v::l,σ,r,hr=>by
  unfold qbv at hr ⊢
  split at hr
  ·rename_i e; cases e
  ·rename_i id a r' e
   cases e
   split at hr
   ·rename_i v' σ' hc
    obtain⟨n,hn⟩:=qdg hc
    obtain⟨m,hm⟩:=qeL hr
    refine⟨max n m,?_⟩
    simp only[qbK (qa6 (Nat.le_max_left n m)) hn]
    exact qcu (qa6 (Nat.le_max_right n m)) hm
   ·cases hr
  ·cases hr
theorem qmg {pf:PFun} {k:Nat} {fr:Fr} {σ : S} {r:Res} (hr:(if pf.df then qfM (Z prog) pf k fr σ else qdN pf k fr σ)=some r) : ∃ n,(if pf.df then qfM (qcD prog n) pf k fr σ else qdN pf k fr σ)=some r:=by
 split at hr
 ·rename_i hd
  simp only[if_pos hd]
  unfold qfM at hr ⊢
  split at hr
  ·rename_i σ' hx
   obtain⟨n,hn⟩:=qeL hx
   exact⟨n,by simp only[hn]; exact hr⟩
  ·cases hr
 ·rename_i hd
  simp only[if_neg hd]
  exact⟨0,hr⟩
theorem qnO {pf:PFun} {k:Nat} {v:V} {fr:Fr} {σ : S} {r:Res} (hr:qf9 (Z prog) pf k v fr σ = some r) : ∃ n,qf9 (qcD prog n) pf k v fr σ = some r:=by
 unfold qf9 at hr ⊢
 split at hr
 ·exact⟨0,hr⟩
 ·split at hr
  ·cases hr
  ·rename_i hn
   simp only[if_neg hn]
   split at hr
   ·rename_i v' σ' hc
    obtain⟨n,hn⟩:=qdg hc
    split at hr
    ·rename_i σ'' hx
     obtain⟨m,hm⟩:=qeL hx
     refine⟨max n m,?_⟩
     simp only[qbK (qa6 (Nat.le_max_left n m)) hn,qcu (qa6 (Nat.le_max_right n m)) hm]
     exact hr
    ·cases hr
   ·cases hr
 ·cases hr
theorem qlz {pf:PFun} {args:List V} {σ : S} {r:Res} (h:qcC (Z prog) pf args σ = some r) : ∃ n,qcC (qcD prog n) pf args σ = some r:=by
 have lv : ∀ {n m k fr σ},(if pf.df then qfM (qcD prog m) pf k fr σ else qdN pf k fr σ)=some r->m<=n->(if pf.df then qfM (qcD prog n) pf k fr σ else qdN pf k fr σ)=some r:=fun hr hle=>by
  split at hr
  ·rename_i hd; rw[if_pos hd]; exact qiH (qa6 hle) hr
  ·rename_i hd; rw[if_neg hd]; exact hr
 unfold qcC at h ⊢
 split at h
 ·rename_i hl
  simp only[if_pos hl]
  split at h
  ·rename_i fr σ' hx
   obtain⟨n,hn⟩:=qdu hx
   obtain⟨m,hm⟩:=qmg h
   refine⟨max n m,?_⟩
   simp only[qaS (qa6 (Nat.le_max_left n m)) hn]
   exact lv hm (Nat.le_max_right n m)
  ·rename_i fr σ' hx
   obtain⟨n,hn⟩:=qdu hx
   obtain⟨m,hm⟩:=qmg h
   refine⟨max n m,?_⟩
   simp only[qaS (qa6 (Nat.le_max_left n m)) hn]
   exact lv hm (Nat.le_max_right n m)
  ·rename_i v fr σ' hx
   obtain⟨n,hn⟩:=qdu hx
   obtain⟨m,hm⟩:=qnO h
   refine⟨max n m,?_⟩
   simp only[qaS (qa6 (Nat.le_max_left n m)) hn]
   exact qhA (qa6 (Nat.le_max_right n m)) hm
  ·cases h
 ·cases h
theorem Z_call {f:Nat} {pf:PFun} {args:List V} {σ : S} {r:Res} (hf:prog f=some pf) (hc:pf.catches=false) (h:qcC (Z prog) pf args σ = some r):Z prog (.call f args σ)=some r:=by
 obtain⟨n,hn⟩:=qlz h
 exact qpD (n:=n+1) (by simp only[qcD,hf,hc,Bool.false_eq_true,if_false,hn])
theorem qlA {f:Nat} {pf:PFun} {args:List V} {σ : S} {r:Res} (hf:prog f=some pf) (h:qbk (Z prog) pf args σ = some r):Z prog (.dcall f args σ)=some r:=by
 have : ∃ n,qbk (qcD prog n) pf args σ = some r:=by
  unfold qbk at h ⊢
  split at h
  ·split at h
   ·rename_i hl
    simp only[if_pos hl]
    split at h
    ·rename_i fr σ' hx
     obtain⟨n,hn⟩:=qdu hx
     exact⟨n,by simp only[hn]; exact h⟩
    ·rename_i fr σ' hx
     obtain⟨n,hn⟩:=qdu hx
     exact⟨n,by simp only[hn]; exact h⟩
    ·cases h
   ·cases h
  ·cases h
 obtain⟨n,hn⟩:=this
 exact qpD (n:=n+1) (by simp only[qcD,hf,hn])
theorem qlB {k:Nat} {b:PC} {fr fr0 fr':Fr} {σ σ0 σ':S} {r:Res} (hg:gcF k fr σ = some (fr0,σ0)) (h:run (Z prog) k b fr0 σ0=some (.normal,fr',σ')) (hr:Z prog (.loop k b fr' σ')=some r):Z prog (.loop k b fr σ)=some r:=by
 obtain⟨n,hn⟩:=qdu h
 obtain⟨m,hm⟩:=Z_iff.1 hr
 refine qpD (n:=max n m+1) ?_
 simp only[qcD,hg,qaS (qa6 (Nat.le_max_left n m)) hn]
 exact qa6 (Nat.le_max_right n m) _ _ hm
theorem qm3 {k:Nat} {b:PC} {fr fr0 fr':Fr} {σ σ0 σ':S} {e:Ex} (he:e ≠ .normal) (hg:gcF k fr σ = some (fr0,σ0)) (h:run (Z prog) k b fr0 σ0=some (e,fr',σ')):Z prog (.loop k b fr σ)=some (.out e fr' σ'):=by
 obtain⟨n,hn⟩:=qdu h
 refine qpD (n:=n+1) ?_
 simp only[qcD,hg,hn]
 all_goals (cases e with
  | normal=>exact absurd rfl he
  | exit id=>rfl
  | ret=>rfl
  | pan v=>rfl)
theorem qrW {args:List V} {σ : S} {r:Res} (h:qcB (Z prog) args σ = some r):Z prog (.round args σ)=some r:=by
 have : ∃ n,qcB (qcD prog n) args σ = some r:=by
  unfold qcB at h ⊢
  split at h
  ·split at h
   ·split at h
    ·rename_i hlp hc
     simp only[if_pos hc]
     split at h
     ·rename_i fr1 σ1 hx
      obtain⟨n,hn⟩:=qdu hx
      split at h
      ·split at h
       ·rename_i hlp1 hst
        split at h
        ·cases h
        ·rename_i e fr2 σ2 hnp hy
         obtain⟨m,hm⟩:=qdu hy
         refine⟨max n m,?_⟩
         simp only[qaS (qa6 (Nat.le_max_left n m)) hn,hlp1,if_pos hst,qaS (qa6 (Nat.le_max_right n m)) hm]
         cases e with
         | pan v=>exact (hnp _ rfl).elim
         | normal=>exact h
         | exit id=>exact h
         | ret=>exact h
        ·cases h
       ·cases h
      ·cases h
     ·cases h
    ·cases h
   ·cases h
  ·cases h
 obtain⟨n,hn⟩:=this
 exact qpD (n:=n+1) (by simp only[qcD,hn])
variable {P:Program} {ids:Ids} {fid:Fid}
def qnP (w:World):Nat->Nat:=fun b=>match w.heap[b]? with
 | some (.cells arr _ _)=>arr.size
 | _=>0
def start (w:World):Ctx:=⟨[],fun _=>none,qnP w,w⟩
def GlbAt (fid:Fid) (w:World):Prop := ∀ g cs,fid.gl g=some cs -> ∃ vs,RepDs (qnP w) w cs vs/\Row (qnP w) w g 0 vs
theorem qm4 {w:World} (hg:GlbAt fid w):Real fid (start w):=by
 refine⟨fun l ob b h=>by simp[start] at h,fun l b h=>by simp[start] at h,fun l l' b h=>by simp[start] at h,fun b hb=>?_,hg⟩
 simp only[start,qnP] at hb ⊢
 cases h:w.heap[b]? with
 | none=>rw[h] at hb; simp at hb
 | some o=>
  rw[h] at hb
  cases o<;>simp only at hb<;>first | (exact absurd hb (Nat.lt_irrefl _)) | exact⟨_,_,_,rfl,Nat.le_refl _⟩
theorem calls_of_Z (hid:Ties P ids fid) (hcr:Codes P ids fid) (hm:P.follows .mixedOrders=true) (ht:Tied P ids fid prog) {f:Nat} {args:List V} {xs:List Value} {d:Value} {σ':S} {w:World} (h:Z prog (.call f args [])=some (.ret (.dat (.lit d)) σ')) (hg:GlbAt fid w)
  (ha:Reps fid (start w) args xs):Calls P (fid f) xs.toArray w fun e w'=>e = .returned d/\w'.os=w.os/\w'.tape=w.tape/\w'.output=w.output/\w.heap.size<=w'.heap.size /\ ∀ k,k<w.heap.size->w'.heap[k]?=w.heap[k]?:=by
 obtain⟨n,hn⟩:=Z_iff.1 h
 obtain⟨_,hs⟩:=(qiS hid hcr hm ht n).1.call _ _ _ _ _ hn
 refine (callsIn_wide.1 (hs (start w) xs rfl (qm4 hg) ha)).mono ?_
 rintro e w' ⟨Γ',rfl,_,_,h3,hout⟩
 rcases hout with ⟨x,rfl,h4⟩ | ⟨u,x,hu,_⟩
 rotate_left
 ·cases hu
 refine⟨by rw[(qaw h4).1],h3.ext.os,h3.ext.tape,h3.ext.output,h3.ext.size,fun k hk=>(h3.frm.same k hk fun l h=>by simp[start] at h).1⟩
end Go.Pm
namespace Go.Pm
variable {prog:Nat->Option PFun}
theorem qnQ {α : Type} {a b:Option α} (h : ∀ r,a=some r->b=some r) (k : ∀ r,b=some r->a=some r):a=b:=by
 cases a with
 | some r=>exact (h r rfl).symm
 | none=>cases b with
  | none=>rfl
  | some r=>exact k r rfl
theorem qnR {n:Nat}:Le (qcD prog n) (Z prog):=fun _ _ h=>qpD h
def qad (C:Task->Option Res) (k:Nat) (b:PC):Option (Fr × S)->Option Res
 | some (fr0,σ0)=>match run C k b fr0 σ0 with
  | some (.normal,fr',σ')=>C (.loop k b fr' σ')
  | some (e,fr',σ')=>some (.out e fr' σ')
  | none=>none
 | none=>none
theorem qab (k:Nat) (b:PC) (fr:Fr) (σ : S):Z prog (.loop k b fr σ)=qad (Z prog) k b (gcF k fr σ):=by
 refine qnQ (fun r h=>?_) (fun r h=>?_)
 ·obtain⟨n,hn⟩:=Z_iff.1 h
  cases n with
  | zero=>simp[qcD] at hn
  | succ n=>
   simp only[qcD] at hn
   split at hn
   ·rename_i fr0 σ0 hg
    rw[hg]
    simp only[qad]
    split at hn
    ·rename_i fr' σ' hx
     rw[qaS qnR hx]
     exact qpD hn
    ·rename_i e fr' σ' hne hx
     rw[qaS qnR hx]
     cases e with
     | normal=>exact absurd rfl hne
     | exit id=>exact hn
     | ret=>exact hn
     | pan v=>exact hn
    ·cases hn
   ·cases hn
 ·unfold qad at h
  split at h
  ·rename_i fr0 σ0 hg
   split at h
   ·rename_i fr' σ' hx
    exact qlB hg hx h
   ·rename_i e fr' σ' hne hx
    simp only[Option.some.injEq] at h
    subst h
    exact qm3 (fun he=>hne he) hg hx
   ·cases h
  ·cases h
theorem qiI (args:List V) (σ : S):Z prog (.round args σ)=qcB (Z prog) args σ:=by
 refine qnQ (fun r h=>?_) (fun r h=>qrW h)
 obtain⟨n,hn⟩:=Z_iff.1 h
 cases n with
 | zero=>simp[qcD] at hn
 | succ n=>
  simp only[qcD] at hn
  exact qeq qnR hn
theorem qmh {prog prog':Nat->Option PFun} (hs : ∀ f pf,prog f=some pf->prog' f=some pf) : ∀ n,Le (qcD prog n) (qcD prog' n)
 | 0=>fun t r h=>by simp[qcD] at h
 | n+1=>fun t r h=>by
  have ih:=qmh hs n
  cases t with
  | call f args σ=>
   simp only[qcD] at h ⊢
   split at h
   ·rename_i pf hpf
    simp only[hs f pf hpf]
    split at h
    ·cases h
    ·rename_i hc; rw[if_neg hc]; exact qfZ ih h
   ·cases h
  | dcall f args σ=>
   simp only[qcD] at h ⊢
   split at h
   ·rename_i pf hpf
    simp only[hs f pf hpf]
    exact qfz ih h
   ·cases h
  | round args σ=>
   simp only[qcD] at h ⊢
   exact qeq ih h
  | loop k b fr σ=>
   simp only[qcD] at h ⊢
   split at h
   ·rename_i fr0 σ0 hg
    split at h
    ·rename_i fr' σ' hx
     rw[qaS ih hx]
     exact ih _ _ h
    ·rename_i e fr' σ' hne hx
     rw[qaS ih hx]
     cases e with
     | normal=>exact absurd rfl hne
     | exit id=>exact h
     | ret=>exact h
     | pan v=>exact h
    ·cases h
   ·cases h
theorem qky {prog prog':Nat->Option PFun} (hs : ∀ f pf,prog f=some pf->prog' f=some pf) {t:Task} {r:Res} (h:Z prog t=some r):Z prog' t=some r:=by
 obtain⟨n,hn⟩:=Z_iff.1 h
 exact qpD (qmh hs n _ _ hn)
end Go.Pm
end SY
section SS
namespace Go.Pm
attribute [simp] quI qnc qeK qnF qn9 qoa qiB outV qms qpz qee finishV Ob.rows quJ qsh appendO appendT qpU qjL V.isStr qna qf8 qfM qf9 qbv Fr.defs qb6 qdi qf7 undef qcC qbD run qeQ qdv qaF qa3 X.ev evs qdK qfL Fr.get Fr.put Fr.keep qpS unV qpT qdN qrv qm9 qiV V.sealT V.sealv qbF qiW reach qaP V.locs qkT inL closed qes V.ren one
 gcL gcF qcQ qlK Ob.locs Ob.ren qhK qrt idx back qaD qbN qck qbz qdw qbi qdM qdL qeR qhM qdh storeV qcZ qt4 Value.oneCell' qbZ V.aggCells qfK qeI
@[simp] theorem qwz (v:Value):V.one (.dat (.lit v))=v.oneCell':=rfl
@[simp] theorem qus (v:Value):V.cells (.dat (.lit v))=[(.dat (.lit v))]:=rfl
@[simp] theorem qxC (cs:List D) (n:Nat) (f:Bool):V.one (.dat (.sl cs n f))=true:=rfl
@[simp] theorem qvY (cs:List D) (n:Nat) (f:Bool):V.cells (.dat (.sl cs n f))=[(.dat (.sl cs n f))]:=rfl
@[simp] theorem qwA (cs:List D) (o:Nat):V.one (.dat (.imm cs o))=true:=rfl
@[simp] theorem qut (cs:List D) (o:Nat):V.cells (.dat (.imm cs o))=[(.dat (.imm cs o))]:=rfl
@[simp] theorem qvZ (cs:List D):V.one (.dat (.agg cs))=false:=rfl
@[simp] theorem qt0 (cs:List D):V.cells (.dat (.agg cs))=cs.map .dat:=rfl
@[simp] theorem qt1 (t:Nat) (d:D):V.one (.dat (.iface t d))=true:=rfl
@[simp] theorem qrr (t:Nat) (d:D):V.cells (.dat (.iface t d))=[(.dat (.iface t d))]:=rfl
@[simp] theorem qwB (l o:Nat):V.one (.ptr l o)=true:=rfl
@[simp] theorem quu (l o:Nat):V.cells (.ptr l o)=[(.ptr l o)]:=rfl
@[simp] theorem qwC (cs:List D) (n sz l:Nat):V.one (.gsl cs n sz l)=true:=rfl
@[simp] theorem quv (cs:List D) (n sz l:Nat):V.cells (.gsl cs n sz l)=[(.gsl cs n sz l)]:=rfl
@[simp] theorem qwD (l o n cap sz:Nat):V.one (.msl l o n cap sz)=true:=rfl
@[simp] theorem quw (l o n cap sz:Nat):V.cells (.msl l o n cap sz)=[(.msl l o n cap sz)]:=rfl
@[simp] theorem qwE (l n sz:Nat):V.one (.own l n sz)=true:=rfl
@[simp] theorem qux (l n sz:Nat):V.cells (.own l n sz)=[(.own l n sz)]:=rfl
@[simp] theorem qv0 (l n o:Nat):V.one (.eptr l n o)=true:=rfl
@[simp] theorem qt2 (l n o:Nat):V.cells (.eptr l n o)=[(.eptr l n o)]:=rfl
@[simp] theorem qxD (g:Nat) (v:V):V.one (.bm g v)=true:=rfl
@[simp] theorem qv1 (g:Nat) (v:V):V.cells (.bm g v)=[(.bm g v)]:=rfl
@[simp] theorem qwF (cs:List V):V.one (.agg cs)=false:=rfl
@[simp] theorem quy (cs:List V):V.cells (.agg cs)=cs:=rfl
@[simp] theorem qxE (f:Nat) (a b:List V):V.one (.fn f a b)=true:=rfl
@[simp] theorem qv2 (f:Nat) (a b:List V):V.cells (.fn f a b)=[(.fn f a b)]:=rfl
@[simp] theorem qxF (l:Nat):V.one (.mp l)=true:=rfl
@[simp] theorem qv3 (l:Nat):V.cells (.mp l)=[(.mp l)]:=rfl
@[simp] theorem quz (t:Nat) (v:V):V.one (.iface t v)=true:=rfl
@[simp] theorem qr6 (t:Nat) (v:V):V.cells (.iface t v)=[(.iface t v)]:=rfl
@[simp] theorem qwG (vs:List V):V.one (.tup vs)=false:=rfl
@[simp] theorem quA (vs:List V):V.cells (.tup vs)=[(.tup vs)]:=rfl
@[simp] theorem qwH (l:Nat):V.one (.yld l)=true:=rfl
@[simp] theorem quB (l:Nat):V.cells (.yld l)=[(.yld l)]:=rfl
@[simp] theorem qv4 {α : Type} (cs:List α):cutCells cs 0 0=some []:=by simp[cutCells]
@[simp] theorem qv5 {α : Type} (c : α) (cs:List α) (n:Nat):cutCells (c::cs) 0 (n+1)=(cutCells cs 0 n).map (c :: ·):=by
 simp only[cutCells,List.drop_zero,List.take_succ_cons,List.length_cons,Nat.add_right_cancel_iff]
 split<;>simp
@[simp] theorem qv6 {α : Type} (c : α) (cs:List α) (o n:Nat):cutCells (c::cs) (o+1) n=cutCells cs o n:=by
 simp only[cutCells,List.drop_succ_cons]
@[simp] theorem qwI (a b:Int):eqI a b=decide (a=b):=rfl
abbrev I64 (n:Int):Prop := -9223372036854775808<=n/\n<=9223372036854775807
theorem qai (n:Int) (h : -9223372036854775808<=n/\n<=9223372036854775807):IntKind.i64.wrap n=n:=by rw[IntKind.wrap_i64]; omega
def qcP (xs:List Int):List D:=xs.map fun x => .lit (.int .i64 x)
def qeP:List Int->D
 | [] => .lit (.slice none 0 0)
 | x::xs => .sl (qcP (x::xs)) (x::xs).length false
@[simp] theorem quC (σ : S) (xs:List Int):V.len σ .sl (.dat (qeP xs))=some xs.length:=by
 cases xs<;>simp[qeP,V.len]
@[simp] theorem quD (xs:List Int):V.one (.dat (qeP xs))=true:=by cases xs<;>rfl
@[simp] theorem qr7 (xs:List Int):V.cells (.dat (qeP xs))=[.dat (qeP xs)]:=by cases xs<;>rfl
theorem qpJ (xs:List Int) (i:Int) (h0:0<=i) (h1:i<xs.length):qaf 1 (.dat (qeP xs)) i=some (.dat (.imm (qcP xs) i.toNat)):=by
 cases xs with
 | nil=>simp at h1; omega
 | cons x xs=>simp only[List.length_cons] at h1; simp[qeP,qaf,h0]; omega
theorem qkN (xs:List Int) (i:Nat) (h:i<xs.length):cutCells (qcP xs) i 1=some [.lit (.int .i64 xs[i])]:=by
 unfold cutCells qcP
 rw[List.drop_eq_getElem_cons (by simpa using h)]
 simp
end Go.Pm
end SS
section SW
namespace Go.Pm
def RowV (v:D) (xs:List Int):Prop:=
 (∃ o,v = .lit (.slice o 0 0)/\xs=[])\/v = .sl (qcP xs) xs.length false
theorem RowV.one {v:D} {xs:List Int} (h:RowV v xs):V.one (.dat v)=true:=by rcases h with ⟨o,rfl,rfl⟩ | rfl<;>rfl
theorem RowV.cells {v:D} {xs:List Int} (h:RowV v xs):V.cells (.dat v)=[.dat v]:=by rcases h with ⟨o,rfl,rfl⟩ | rfl<;>rfl
theorem qk8 (F:Nat->Nat) (w:World) : ∀ xs:List Int,RepDs F w (qcP xs) (xs.map (.int .i64))
 | []=>rfl
 | x::xs=>⟨_,_,rfl,⟨rfl,rfl⟩,qk8 F w xs⟩
theorem row_rep (fid:Fid) {w:World} {a:Option Addr} {len cap:Nat} {zs:List Int}
  (h:(a=none/\len=0/\cap=0/\zs=[]) \/ ∃ x,a=some x/\len<=cap/\cap<=maxLen/\zs.length=cap/\(∀ i,i<zs.length->w.cell? (x.add i)=some (.int .i64 (zs.getD i 0))) /\ ∀ n∈zs,(Lit.int .i64 n).wf=true) :
  ∃ d,RowV d (zs.take len)/\(∀ x∈zs.take len,I64 x)/\Rep fid (start w) (.dat d) (.slice a len cap):=by
 rcases h with ⟨rfl,rfl,rfl,rfl⟩ | ⟨x,rfl,h1,h2,h3,h4,h5⟩
 ·exact⟨.lit (.slice none 0 0),.inl ⟨_,rfl,rfl⟩,by simp,rfl,rfl⟩
 by_cases hc:cap=0
 ·subst hc
  have:len=0:=by omega
  subst this
  exact⟨.lit (.slice (some x) 0 0),.inl ⟨_,rfl,by simp⟩,by simp,rfl,rfl⟩
 have hl:(zs.take len).length=len:=by rw[List.length_take]; omega
 have hs:x.spot=none:=World.cell?_spot (v := .int .i64 (zs.getD 0 0)) (by simpa [Addr.add] using h4 0 (by omega))
 obtain⟨b,o,sp⟩:=x
 simp only at hs
 subst hs
 have hcell : ∀ i,i<zs.length->w.cell? ⟨b,o+i,none⟩=some (.int .i64 (zs.getD i 0)):=fun i hi=>by
  have:=h4 i hi
  by_cases h0:i=0
  ·subst h0; simpa [Addr.add] using this
  ·simpa [Addr.add,h0] using this
 refine⟨.sl (qcP (zs.take len)) len false,.inr (by rw[hl]),fun n hn=>?_,b,o,cap,(zs.take len).map (.int .i64),rfl,h1,by simp,qk8 _ _ _,?_,?_,?_⟩
 ·have:=h5 n (List.mem_of_mem_take hn)
  simp only[Lit.wf,Bool.and_eq_true,decide_eq_true_eq] at this
  have e1:IntKind.i64.min = -9223372036854775808:=by decide
  have e2:IntKind.i64.max=9223372036854775807:=by decide
  unfold I64
  omega
 ·intro i v hv
  rw[List.getElem?_map,List.getElem?_take] at hv
  split at hv
  ·rename_i hi
   rw[List.getElem?_eq_getElem (by omega)] at hv
   simp only[Option.map_some,Option.some.injEq] at hv
   subst hv
   rw[show (start w).w=w from rfl,hcell i (by omega)]
   simp[List.getD_eq_getElem?_getD,show i<zs.length by omega]
  ·simp at hv
 ·intro hp
  simp only[List.length_map,hl] at hp ⊢
  have:=hcell (len-1) (by omega)
  unfold World.cell? at this
  simp only[start,qnP]
  split at this
  ·rename_i c _ _ hb
   rw[hb]
   simp only[Option.isSome_none,Bool.false_eq_true,if_false] at this
   have hlt:o+(len-1)<c.size:=by
    rcases Nat.lt_or_ge (o+(len-1)) c.size with h' | h'
    ·exact h'
    ·rw[Array.getElem?_eq_none h'] at this; cases this
   simp only
   omega
  ·cases this
 ·intro v hv
  obtain⟨n,_,rfl⟩:=List.mem_map.1 hv
  rfl
theorem int_rep (fid:Fid) (w:World) (n:Int):Rep fid (start w) (.int n) (.int .i64 n):=⟨rfl,rfl⟩
theorem reps_cons {fid:Fid} {Γ : Ctx} {a:V} {x:Value} {as:List V} {xs:List Value} (h:Rep fid Γ a x) (k:Reps fid Γ as xs):Reps fid Γ (a::as) (x::xs):=⟨_,_,rfl,h,k⟩
end Go.Pm
end SW
section SU
namespace Go.Pm
def fl (P:Program):Nat->TypeId->DataW Unit->Option (List Value)
 | 0,_,_=>none
 | m+1,t,d=>match P.underlying t,d with
  | some (.int k),.lit (.int k' n)=>if k=k' then some [.int k n] else none
  | some (.array n e),.agg ds=>match ds.mapM (fl P m e) with
   | some vs=>if ds.length=n/\vs.all (fun v=>v.length==P.cellsOf e)/\P.cellsOf t=n*P.cellsOf e then some vs.flatten else none
   | none=>none
  | some (.struct fs),.agg ds=>match (fs.toList.zip ds).mapM (fun x=>fl P m x.1.type x.2) with
   | some vs=>if ds.length=fs.size/\((fs.toList.zip vs).all (fun x=>x.2.length==P.cellsOf x.1.type))/\(List.range fs.size).all (fun i=>(fs[i]?.map (·.offset)).getD 0==(vs.take i).flatten.length)/\P.cellsOf t=vs.flatten.length then some vs.flatten else none
   | none=>none
  | _,_=>none
theorem parts {α : Type} : ∀ (vs:List (List α)) (cs:List α) (o:Nat),(∀ (i:Nat) (v:List α),vs[i]?=some v->(cs.drop (o+(vs.take i).flatten.length)).take v.length=v)->cs.length=o+vs.flatten.length->cs.drop o=vs.flatten
 | [],cs,o,_,hl=>by simp at hl; simp[hl]
 | v::vs,cs,o,h,hl=>by
  have h0:=h 0 v rfl
  simp only[List.take_zero,List.flatten_nil,List.length_nil,Nat.add_zero] at h0
  have ih:=parts vs cs (o+v.length) (fun i u hu=>by
   have:=h (i+1) u hu
   simpa [Nat.add_assoc] using this) (by rw[List.flatten_cons,List.length_append] at hl; omega)
  rw[List.flatten_cons,<- ih]
  have e:=List.take_append_drop v.length (cs.drop o)
  rw[h0,List.drop_drop] at e
  exact e.symm
theorem qkf {α β : Type} {f : α -> Option β} : ∀ {l:List α} {r:List β},l.mapM f=some r->r.length=l.length /\ ∀ (i:Nat) (a : α),l[i]?=some a -> ∃ b,r[i]?=some b/\f a=some b
 | [],r,h=>by simp at h; subst h; simp
 | a::l,r,h=>by
  simp only[List.mapM_cons,Option.pure_def,Option.bind_eq_bind,Option.bind_eq_some_iff,Option.some.injEq] at h
  obtain⟨b,hb,r',hr,rfl⟩:=h
  obtain⟨h1,h2⟩:=qkf hr
  refine⟨by simp[h1],fun i x hx=>?_⟩
  cases i with
  | zero=>simp at hx; subst hx; exact⟨b,rfl,hb⟩
  | succ i=>simpa using h2 i x (by simpa using hx)
theorem qe6 {α : Type} (m:Nat) : ∀ (vs:List (List α)) (i:Nat),(∀ v∈vs,v.length=m)->i<=vs.length->(vs.take i).flatten.length=i*m
 | _,0,_,_=>by simp
 | [],i+1,_,h=>by simp at h
 | v::vs,i+1,h,hi=>by
  simp only[List.take_succ_cons,List.flatten_cons,List.length_append]
  rw[qe6 m vs i (fun u hu=>h u (List.mem_cons_of_mem _ hu)) (by simpa using hi),h v List.mem_cons_self,Nat.add_mul]
  omega
section
variable {enc:TypeId × Value->Unit} {P:Program} {w:World} {base:Nat} {spare:Nat->Bool} {held:Bool}
theorem qkg : ∀ (m:Nat) (t:TypeId) (d:DataW Unit) (vs:List Value) (fuel:Nat) (cs:List Value) (p:List MemPlace),fl P m t d=some vs->DataW.trod enc P w base spare held fuel t cs=some (d,p)->cs=vs
 | 0,t,d,vs,fuel,cs,p,h,_=>by simp[fl] at h
 | m+1,t,d,vs,fuel,cs,p,h,ht=>by
  unfold fl at h
  split at h
  ·rename_i k k' n hu
   split at h
   ·rename_i hk
    subst hk
    cases h
    obtain⟨n',rfl,e,_⟩:=DataW.trod_int hu ht
    simp only[Prod.mk.injEq,DataW.lit.injEq,Lit.int.injEq] at e
    rw[e.1.2]
   ·cases h
  ·rename_i n e ds hu
   split at h
   ·rename_i us hus
    split at h
    ·rename_i hc
     cases h
     obtain⟨h1,h2,h3⟩:=hc
     obtain⟨xs,q,rfl,hx,hl,hn,hel⟩:=DataW.trod_array hu ht
     simp only[Prod.mk.injEq,DataW.agg.injEq] at hx
     obtain⟨g1,g2⟩:=qkf hus
     have hlen : ∀ v∈us,v.length=P.cellsOf e:=fun v hv=>by simpa using List.all_eq_true.1 h2 v hv
     have hp:=parts us cs 0 (fun i v hv=>by
      have hi:i<us.length:=(List.getElem?_eq_some_iff.1 hv).1
      have hfl:=qe6 (P.cellsOf e) us i hlen (by omega)
      rw[Nat.zero_add,hfl,hlen v (List.mem_of_getElem? hv)]
      have:=hel i (by omega)
      obtain⟨x,hxi⟩ : ∃ x,xs[i]?=some x:=⟨xs[i]'(by omega),List.getElem?_eq_getElem (by omega)⟩
      rw[hxi] at this
      have hd:ds[i]?=some x.1:=by rw[hx.1]; simp[hxi]
      obtain⟨b,hb,hf⟩:=g2 i _ hd
      rw[hv] at hb
      cases hb
      exact qkg m e x.1 v q _ x.2 hf this) (by
      have hfl:=qe6 (P.cellsOf e) us us.length hlen (by omega)
      rw[List.take_length] at hfl
      rw[hl,h3,hfl,g1,h1]; simp)
     simpa using hp
    ·cases h
   ·cases h
  ·rename_i fs ds hu
   split at h
   ·rename_i us hus
    split at h
    ·rename_i hc
     cases h
     obtain⟨h1,h2,h3,h4⟩:=hc
     obtain⟨xs,q,rfl,hx,hl,hn,hel⟩:=DataW.trod_struct hu ht
     simp only[Prod.mk.injEq,DataW.agg.injEq] at hx
     obtain⟨g1,g2⟩:=qkf hus
     have gl:us.length=fs.size:=by rw[g1]; simp[h1]
     have hp:=parts us cs 0 (fun i v hv=>by
      have hi:i<us.length:=(List.getElem?_eq_some_iff.1 hv).1
      obtain⟨f,hf⟩ : ∃ f,fs[i]?=some f:=⟨fs[i]'(by omega),Array.getElem?_eq_getElem (by omega)⟩
      have hfl:fs.toList[i]?=some f:=by simpa using hf
      have ho:=List.all_eq_true.1 h3 i (by simp; omega)
      simp only[hf,Option.map_some,Option.getD_some,beq_iff_eq] at ho
      have hz:(fs.toList.zip us)[i]?=some (f,v):=by simp[List.getElem?_zip_eq_some,hfl,hv]
      have hlv:=List.all_eq_true.1 h2 (f,v) (List.mem_of_getElem? hz)
      simp only[beq_iff_eq] at hlv
      rw[Nat.zero_add,<- ho,hlv]
      have:=hel i f hf
      obtain⟨x,hxi⟩ : ∃ x,xs[i]?=some x:=⟨xs[i]'(by omega),List.getElem?_eq_getElem (by omega)⟩
      rw[hxi] at this
      have hd:ds[i]?=some x.1:=by rw[hx.1]; simp[hxi]
      have hz2:(fs.toList.zip ds)[i]?=some (f,x.1):=by simp[List.getElem?_zip_eq_some,hfl,hd]
      obtain⟨b,hb,hf2⟩:=g2 i _ hz2
      rw[hv] at hb
      cases hb
      exact qkg m f.type x.1 v q _ x.2 hf2 this) (by rw[hl,h4]; simp)
     simpa using hp
    ·cases h
   ·cases h
  ·cases h
end
theorem qgO {F:Nat->Nat} {w:World} : ∀ (vs:List Value),(vs.all fun v=>qbI v)=true->RepDs F w (vs.map .lit) vs
 | [],_=>rfl
 | v::vs,h=>by
  simp only[List.all_cons,Bool.and_eq_true] at h
  exact⟨v,vs,rfl,⟨rfl,h.1⟩,qgO vs h.2⟩
theorem qtH {P:Program} {w:World} {n:String} {d:DataW Unit} {g:Nat} {t:TypeId} {vs:List Value} {m:Nat} (hg:P.globalNamed n=some g) (ht:(P.globals[g]?).map (·.type)=some t)
  (hf:fl P m t d=some vs) (hv:(vs.all fun v=>qbI v&&v.oneCell')=true) (h:laidMet P [(n,d)] w):RepDs (qnP w) w (vs.map .lit) vs/\Row (qnP w) w g 0 vs:=by
 obtain⟨ps,⟨g0,t0,cs,fuel,p,q,hg0,ht0,hvar,hd,_,hps⟩,_,hcell⟩:=h
 obtain rfl:=Option.some.inj (hg.symm.trans hg0)
 obtain rfl:=Option.some.inj (ht.symm.trans ht0)
 have e:=qkg m t d vs fuel cs.toList p hf hd
 have hc : ∀ i,w.cell? ⟨g,i,none⟩=vs[i]?:=fun i=>by rw[World.var?_cell hg hvar i,<- e]; simp
 refine⟨qgO vs (by
  rw[List.all_eq_true] at hv ⊢
  intro v hvm
  have:=hv v hvm
  simp only[Bool.and_eq_true] at this
  exact this.1),fun i v hi=>by rw[Nat.zero_add,hc,hi],fun hl=>?_,fun v hvm=>?_⟩
 ·have h0:w.cell? ⟨g,vs.length-1,none⟩=some (vs[vs.length-1]'(by omega)):=by rw[hc,List.getElem?_eq_getElem]
  unfold World.cell? at h0
  unfold qnP
  split at h0
  ·rename_i c _ _ hb
   rw[hb]
   simp only[Option.isSome_none,Bool.false_eq_true,if_false] at h0
   have hlt:vs.length-1<c.size:=by
    rcases Nat.lt_or_ge (vs.length-1) c.size with h' | h'
    ·exact h'
    ·rw[Array.getElem?_eq_none h'] at h0; cases h0
   simp only
   omega
  ·cases h0
 ·have:=List.all_eq_true.1 hv v hvm
  simp only[Bool.and_eq_true] at this
  exact this.2
end Go.Pm
end SU
section SU2
namespace Go.Pm
open Go
theorem qmr {P:Program} {w:World} {n:String} {d:DataW Unit} : ∀ (L:List (String × DataW Unit)) (ps:List MemPlace),DataW.LaidVars P w L ps->(n,d)∈L ->
  ∃ g t cs fuel p,P.globalNamed n=some g/\(P.globals[g]?).map (·.type)=some t/\w.var? P n=some cs/\DataW.trod (fun _=>()) P w 0 (fun _=>true) false fuel t cs.toList=some (d,p)
 | [],ps,_,hm=>by cases hm
 | (n',d')::r,ps,h,hm=>by
  obtain⟨g,t,cs,fuel,p,q,h1,h2,h3,h4,h5,_⟩:=h
  rcases List.mem_cons.1 hm with e | hm
  ·cases e; exact⟨g,t,cs,fuel,p,h1,h2,h3,h4⟩
  ·exact qmr r q h5 hm
theorem glb_of_laids {P:Program} {w:World} {n:String} {d:DataW Unit} {L:List (String × DataW Unit)} {g:Nat} {t:TypeId} {vs:List Value} {m:Nat} (hmem:(n,d)∈L) (hg:P.globalNamed n=some g) (ht:(P.globals[g]?).map (·.type)=some t)
  (hf:fl P m t d=some vs) (hv:(vs.all fun v=>qbI v&&v.oneCell')=true) (h:laidMet P L w):RepDs (qnP w) w (vs.map .lit) vs/\Row (qnP w) w g 0 vs:=by
 obtain⟨ps,hL,_,hcell⟩:=h
 obtain⟨g0,t0,cs,fuel,p,hg0,ht0,hvar,hd⟩:=qmr L ps hL hmem
 obtain rfl:=Option.some.inj (hg.symm.trans hg0)
 obtain rfl:=Option.some.inj (ht.symm.trans ht0)
 have e:=qkg m t d vs fuel cs.toList p hf hd
 have hc : ∀ i,w.cell? ⟨g,i,none⟩=vs[i]?:=fun i=>by rw[World.var?_cell hg hvar i,<- e]; simp
 refine⟨qgO vs (by
  rw[List.all_eq_true] at hv ⊢
  intro v hvm
  have:=hv v hvm
  simp only[Bool.and_eq_true] at this
  exact this.1),fun i v hi=>by rw[Nat.zero_add,hc,hi],fun hl=>?_,fun v hvm=>?_⟩
 ·have h0:w.cell? ⟨g,vs.length-1,none⟩=some (vs[vs.length-1]'(by omega)):=by rw[hc,List.getElem?_eq_getElem]
  unfold World.cell? at h0
  unfold qnP
  split at h0
  ·rename_i c _ _ hb
   rw[hb]
   simp only[Option.isSome_none,Bool.false_eq_true,if_false] at h0
   have hlt:vs.length-1<c.size:=by
    rcases Nat.lt_or_ge (vs.length-1) c.size with h' | h'
    ·exact h'
    ·rw[Array.getElem?_eq_none h'] at h0; cases h0
   simp only
   omega
  ·cases h0
 ·have:=List.all_eq_true.1 hv v hvm
  simp only[Bool.and_eq_true] at this
  exact this.2
end Go.Pm
end SU2
section SW2
namespace Go.Pm
def qnH (xs:List Int):List V:=xs.map fun n=>V.int n
@[simp] theorem qte (xs:List Int):(qnH xs).length=xs.length:=by simp[qnH]
@[simp] theorem qrJ (xs:List Int):(qcP xs).length=xs.length:=by simp[qcP]
@[simp] theorem qt9 (xs:List Int):qaP (qnH xs)=[]:=by
 induction xs with
 | nil=>rfl
 | cons x xs ih=>simpa [qnH] using ih
@[simp] theorem qvs (r:Nat->Nat) (xs:List Int):qes r (qnH xs)=qnH xs:=by
 induction xs with
 | nil=>rfl
 | cons x xs ih=>simpa [qnH] using ih
@[simp] theorem qtf (xs:List Int):qbZ (qnH xs)=some (qcP xs):=by
 induction xs with
 | nil=>rfl
 | cons x xs ih=>
  have:qbZ (qnH (x::xs))=match qbZ (qnH xs) with
   | some ds=>some (.lit (.int .i64 x)::ds)
   | none=>none:=rfl
  rw[this,ih]; rfl
@[simp] theorem qqW (xs:List Int):(qcP xs).all (fun d=>V.one (.dat d))=true:=by
 simp[qcP,Value.oneCell']
@[simp] theorem qrK (xs:List Int):(qnH xs).all V.one=true:=by
 simp[qnH,Value.oneCell']
@[simp] theorem qqX (xs:List Int):(∀ x∈qcP xs,V.one (.dat x)=true):=by
 simp[qcP,Value.oneCell']
def qxN (cs:List Int) (i v:Int):List Int:=cs.set i.toNat v
@[simp] theorem qtg (cs:List Int) (i v:Int):(qxN cs i v).length=cs.length:=by simp[qxN]
def qfD (n m:Int):Int:=(if n<0 then -(n+1) else n).tmod m
theorem qh9 {n m:Int} (h1:I64 n) (hm:1<=m):0<=qfD n m/\qfD n m<m:=by
 unfold qfD
 split
 ·exact⟨Int.tmod_nonneg _ (by omega),Int.tmod_lt_of_pos _ (by omega)⟩
 ·exact⟨Int.tmod_nonneg _ (by omega),Int.tmod_lt_of_pos _ (by omega)⟩
theorem qhu {n m:Int} (h0:0<=n) (hm:1<=m):0<=n.tmod m/\n.tmod m<m:=⟨Int.tmod_nonneg _ h0,Int.tmod_lt_of_pos _ (by omega)⟩
structure IsRow (d:D) (xs:List Int):Prop where
 len : ∀ σ,V.len σ .sl (.dat d)=some xs.length
 at_ : ∀ i:Int,0<=i->i<xs.length->qaf 1 (.dat d) i=some (.dat (.imm (qcP xs) i.toNat))
 one:V.one (.dat d)=true
 cells:V.cells (.dat d)=[.dat d]
theorem qqY (xs:List Int) (f:Bool):IsRow (.sl (qcP xs) xs.length f) xs where
 len:=fun _=>rfl
 at_:=fun i h0 h1=>by simp[qaf,h0,h1]
 one:=rfl
 cells:=rfl
theorem qoO (o:Option Addr):IsRow (.lit (.slice o 0 0)) [] where
 len:=fun _=>rfl
 at_:=fun i h0 h1=>by simp at h1; omega
 one:=rfl
 cells:=rfl
theorem qci {prog:Nat->Option PFun} {k:Nat} {b:PC} {fr fr':Fr} {σ σ':S} (h:gcF k fr σ = gcF k fr' σ'):Z prog (.loop k b fr σ)=Z prog (.loop k b fr' σ'):=by
 rw[qab,qab,h]
theorem qeA (cs:List D) (n:Nat) (f:Bool) (i:Int) (h0:0<=i) (h1:i<n):qaf 1 (.dat (.sl cs n f)) i=some (.dat (.imm cs i.toNat)):=by
 simp[qaf,h0,h1]
theorem qia (σ : S):V.len σ .sl (.dat (.lit (.slice none 0 0)))=some 0:=rfl
theorem qgn (σ : S) (cs:List D) (n:Nat) (f:Bool):V.len σ .sl (.dat (.sl cs n f))=some n:=rfl
@[simp] theorem qxf:Fr.noD []=[]:=rfl
@[simp] theorem qwb (k:Nat) (v:V) (r:Fr):Fr.noD ((k,v)::r)=if k=1000000 then Fr.noD r else (k,v)::Fr.noD r:=by
 simp only[Fr.noD,List.filter_cons,dkey]
 by_cases h:k=1000000<;>simp[h]
end Go.Pm
end SW2
section SX1
namespace Go.Pm
theorem qt8 {d:D} {xs:List Int} (h:RowV d xs):IsRow d xs:=by
 rcases h with ⟨o,rfl,rfl⟩ | rfl
 ·exact qoO o
 ·exact qqY xs false
theorem wf_i64 {n:Int} (h:(Lit.int .i64 n).wf=true):I64 n:=by
 simp only[Lit.wf,Bool.and_eq_true,decide_eq_true_eq] at h
 have e1:IntKind.i64.min = -9223372036854775808:=by decide
 have e2:IntKind.i64.max=9223372036854775807:=by decide
 unfold I64
 omega
end Go.Pm
end SX1
section SX3
namespace Go.Pm
open Go
theorem str_rep (fid:Fid) (w:World) (s:ByteArray):Rep fid (start w) (.str s) (.string s):=⟨rfl,rfl⟩
theorem byte_rep (fid:Fid) (w:World) (n:Int):Rep fid (start w) (.dat (.lit (.int .u8 n))) (.int .u8 n):=⟨rfl,rfl⟩
theorem wf_u8 {n:Int} (h:(Lit.int .u8 n).wf=true) : ∃ c:Nat,c<256/\n=c:=by
 have:0<=n/\n<256:=by
  simp only[Lit.wf,Bool.and_eq_true,decide_eq_true_eq] at h
  have e1:IntKind.u8.min=0:=by decide
  have e2:IntKind.u8.max=255:=by decide
  omega
 exact⟨n.toNat,by omega,by omega⟩
end Go.Pm
end SX3
