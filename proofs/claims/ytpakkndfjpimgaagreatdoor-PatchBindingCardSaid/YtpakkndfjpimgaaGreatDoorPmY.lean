/- The abstract program's meaning without fuel: equations to reckon with. Reckoning with the abstract machine: what simp may unfold; rows of numbers. What a law is given, as abstract values; what it may leave behind. What a package variable holds, read off the datum that it is laid with. What a package variable holds, out of a list of several that are laid. Rows of numbers, places, wraps: what the walks of all chapters use. A law's arguments, as the abstract machine's values. A string, a byte, as arguments of a law. The abstract machine's program: short forms of its operations. The abstract machine's program, printed by a program of our own: group 01. -/
import Derived.Test.YtpakkndfjpimgaaGreatDoorPmR
import Derived.IntWalk
import Derived.DataReads
import Derived.Below
import Derived.OpenShut
import Derived.FnData
import Derived.LaidMore
import Derived.Test.YtpakkndfjpimgaaGreatDoorPmA
set_option linter.unusedSimpArgs false
set_option linter.unusedVariables false
section SY
namespace Go.Pm
def Le (C C':Task->Option Res):Prop := ∀ t r,C t=some r->C' t=some r
section
variable {C C':Task->Option Res}
theorem qaL (h:Le C C') {f:List V->S->Task} {args:List V} {σ : S} {r:V × S} (hr:qaM C f args σ = some r):qaM C' f args σ = some r:=by grind [qaM,Le]
theorem qbO (h:Le C C') {f:List V->S->Task} {args:List V} {σ : S} {r:V × S} (hr:qba C f args σ = some r):qba C' f args σ = some r:=by grind [qba,Le]
theorem qeD (h:Le C C') {fr:Fr} {σ : S} {op:O} {r:V × S} (hr:qaP C fr σ op=some r):qaP C' fr σ op=some r:=by
 cases op with
 | call f xs=>
  simp only[qaP] at hr ⊢
  split at hr
  ·exact qbO h hr
  ·cases hr
 | callv f xs=>
  simp only[qaP] at hr ⊢
  split at hr
  ·exact qbO h hr
  ·exact qbO h hr
  ·cases hr
 | invoke tbl x xs=>
  simp only[qaP] at hr ⊢
  split at hr
  ·grind [Le,qaP,qbO]
  ·cases hr
 | _=>exact hr
theorem qa6 (h:Le C C') {fr:Fr} {σ : S} {op:O} {r:V × S} (hr:qaj C fr σ op=some r):qaj C' fr σ op=some r:=by
 cases op with
 | call f xs=>
  simp only[qaj] at hr ⊢
  split at hr
  ·exact qaL h hr
  ·cases hr
 | callv f xs=>
  simp only[qaj] at hr ⊢
  split at hr
  ·exact qaL h hr
  ·exact qaL h hr
  ·exact qaL h hr
  ·cases hr
 | invoke tbl x xs=>
  simp only[qaj] at hr ⊢
  split at hr
  ·grind [Le,qaj,qaL]
  ·cases hr
 | _=>exact hr
theorem qcC (h:Le C C') : ∀ {is:List I} {fr:Fr} {σ : S} {r:Fr × S},qcj C is fr σ = some r->qcj C' is fr σ = some r
 | [],_,_,_,hr=>hr
 | i::is,fr,σ,r,hr=>by
  simp only[qcj] at hr ⊢
  split at hr
  ·rename_i hw
   split at hr
   ·rename_i v σ' hv
    simp only[qa6 h hv]
    exact qcC h hr
   ·cases hr
  ·exact qcC h hr
  ·cases hr
theorem qb7 (h:Le C C') {f:List V->S->Task} {args:List V} {σ : S} {r:V × S} (hr:qba C f args σ = some r):qaM C' f args σ = none:=by grind [qba,qaM,Le]
theorem qc6 (h:Le C C') {fr:Fr} {σ : S} {op:O} {r:V × S} (hr:qaP C fr σ op=some r):qaj C' fr σ op=none:=by
 cases op with
 | call f xs=>
  simp only[qaP] at hr
  simp only[qaj]
  split at hr
  ·exact qb7 h hr
  ·cases hr
 | callv f xs=>
  simp only[qaP] at hr
  simp only[qaj]
  split at hr
  ·grind [Le,qaP,qaj,qb7]
  ·grind [Le,qaP,qaj,qb7]
  ·cases hr
 | invoke tbl x xs=>
  simp only[qaP] at hr
  simp only[qaj]
  split at hr
  ·grind [Le,qaP,qaj,qb7]
  ·cases hr
 | panic x=>rfl
 | _=>cases hr
theorem qbF (h:Le C C') : ∀ {is:List I} {fr:Fr} {σ : S} {r:V × Fr × S},qbg C is fr σ = some r->qbg C' is fr σ = some r/\qcj C' is fr σ = none
 | [],_,_,_,hr=>by simp[qbg] at hr
 | i::is,fr,σ,r,hr=>by
  simp only[qbg,qcj] at hr ⊢
  split at hr
  ·rename_i hw
   split at hr
   ·rename_i v σ' hv
    simp only[qa6 h hv]
    exact qbF h hr
   ·grind [Le,qbg,qcj,qc6,qeD]
  ·exact qbF h hr
  ·cases hr
theorem qbn (h:Le C C') : ∀ {is:List I} {q:Nat} {fr:Fr} {σ : S} {r:Nat × List Ev × V × S},qa4 C q is fr σ = some r->qa4 C' q is fr σ = some r/\qbq C' is fr σ = none
 | [],_,_,_,_,hr=>by simp[qa4] at hr
 | i::is,q,fr,σ,r,hr=>by
  simp only[qa4,qbq] at hr ⊢
  split at hr
  ·rename_i hw
   split at hr
   ·rename_i v σ' hv
    simp only[qa6 h hv]
    split at hr
    ·rename_i p l u σ'' hrest
     obtain⟨h1,h2⟩:=qbn h hrest
     simp only[h1,h2]
     exact⟨hr,trivial⟩
    ·cases hr
   ·grind [Le,qa4,qbq,qc6,qeD]
  ·split at hr
   ·rename_i p l u σ'' hrest
    obtain⟨h1,h2⟩:=qbn h hrest
    simp only[h1,h2]
    exact⟨hr,trivial⟩
   ·cases hr
  ·cases hr
theorem qbG (h:Le C C') : ∀ {is:List I} {fr:Fr} {σ : S} {r:List Ev × Fr × S},qbq C is fr σ = some r->qbq C' is fr σ = some r
 | [],_,_,_,hr=>hr
 | i::is,fr,σ,r,hr=>by
  simp only[qbq] at hr ⊢
  split at hr
  ·rename_i hw
   split at hr
   ·rename_i v σ' hv
    simp only[qa6 h hv]
    split at hr
    ·rename_i l fr' σ'' hrest
     simp only[qbG h hrest]; exact hr
    ·cases hr
   ·cases hr
  ·split at hr
   ·rename_i l fr' σ'' hrest
    simp only[qbG h hrest]; exact hr
   ·cases hr
  ·cases hr
theorem qbW (h:Le C C') : ∀ {is:List I} {fr:Fr} {σ : S} {r:List (Fr × S)},qcX C is fr σ = some r->qcX C' is fr σ = some r
 | [],_,_,_,hr=>hr
 | i::is,fr,σ,r,hr=>by
  simp only[qcX] at hr ⊢
  split at hr
  ·rename_i hw
   split at hr
   ·rename_i v σ' hv
    simp only[qa6 h hv]
    split at hr
    ·rename_i l hrest
     simp only[qbW h hrest]; exact hr
    ·cases hr
   ·cases hr
  ·split at hr
   ·rename_i l hrest
    simp only[qbW h hrest]; exact hr
   ·cases hr
  ·cases hr
theorem qax (h:Le C C') {k:Nat} : ∀ {pc:PC} {fr:Fr} {σ : S} {r:Ex × Fr × S},run C k pc fr σ = some r->run C' k pc fr σ = some r
 | .range f ps as bd,fr,σ,r,hr=>by grind [run,Le,qaL]
 | .skip,_,_,_,hr=>hr
 | .exit _,_,_,_,hr=>hr
 | .ret,_,_,_,hr=>hr
 | .region none ops keep _,fr,σ,r,hr=>by grind [run,Le,qcC,qbF]
 | .region (some rs) ops keep _,fr,σ,r,hr=>by grind [run,Le,qbG,qbW,qbn]
 | .seq a b,fr,σ,r,hr=>by
  simp only[run] at hr ⊢
  split at hr
  ·rename_i fr' σ' hx; simp only[qax h hx]; exact qax h hr
  ·rename_i hne
   have:=qax h hr
   rw[this]
   obtain⟨e,fr',σ'⟩:=r
   cases e with
   | normal=>exact absurd hr (hne _ _)
   | exit id=>rfl
   | ret=>rfl
   | pan v=>rfl
 | .cond c a b,fr,σ,r,hr=>by
  simp only[run] at hr ⊢
  split at hr
  ·exact qax h hr
  ·exact qax h hr
  ·cases hr
 | .block id b,fr,σ,r,hr=>by
  simp only[run] at hr ⊢
  split at hr
  ·rename_i id' fr' σ' hx; simp only[qax h hx]; exact hr
  ·rename_i hne
   have:=qax h hr
   rw[this]
   obtain⟨e,fr',σ'⟩:=r
   cases e with
   | normal=>rfl
   | exit id=>exact absurd hr (hne _ _ _)
   | ret=>rfl
   | pan v=>rfl
 | .loop b,fr,σ,r,hr=>by grind [run,Le]
theorem qc7 (h:Le C C') {args:List V} {σ : S} {r:Res} (hr:qca C args σ = some r):qca C' args σ = some r:=by
 unfold qca at hr ⊢
 split at hr
 ·split at hr
  ·split at hr
   ·rename_i hlp hc
    simp only[if_pos hc]
    split at hr
    ·rename_i fr1 σ1 hx
     simp only[qax h hx]
     split at hr
     ·split at hr
      ·rename_i hlp1 hst
       simp only[hlp1,if_pos hst]
       split at hr
       ·cases hr
       ·rename_i e fr2 σ2 hnp hy
        simp only[qax h hy]
        cases e with
        | pan v=>exact (hnp _ rfl).elim
        | normal=>exact hr
        | exit id=>exact hr
        | ret=>exact hr
       ·cases hr
      ·cases hr
     ·cases hr
    ·cases hr
   ·cases hr
  ·cases hr
 ·cases hr
theorem qa7 (h:Le C C') : ∀ {l:List V} {σ : S} {r:S},qaD C l σ = some r->qaD C' l σ = some r
 | [],σ,r,hr=>hr
 | v::l,σ,r,hr=>by
  unfold qaD at hr ⊢
  split at hr
  ·rename_i e; cases e
  ·rename_i id a r' e
   cases e
   split at hr
   ·rename_i v' σ' hc
    simp only[qaL h hc]
    exact qa7 h hr
   ·cases hr
  ·cases hr
theorem qeE (h:Le C C') {pf:PFun} {k:Nat} {fr:Fr} {σ : S} {r:Res} (hr:qdg C pf k fr σ = some r):qdg C' pf k fr σ = some r:=by grind [qdg,Le,qa7]
theorem qd5 (h:Le C C') {pf:PFun} {k:Nat} {v:V} {fr:Fr} {σ : S} {r:Res} (hr:qcQ C pf k v fr σ = some r):qcQ C' pf k v fr σ = some r:=by
 unfold qcQ at hr ⊢
 split at hr
 ·exact hr
 ·grind [Le,qcQ,qaL,qa7]
 ·cases hr
theorem qc8 (h:Le C C') {pf:PFun} {args:List V} {σ : S} {r:Res} (hr:qa3 C pf args σ = some r):qa3 C' pf args σ = some r:=by grind [qdg,qby,qa3,Le,qeE,qax,qd5]
theorem qcN (h:Le C C') {pf:PFun} {args:List V} {σ : S} {r:Res} (hr:qaO C pf args σ = some r):qaO C' pf args σ = some r:=by
 unfold qaO at hr ⊢
 split at hr
 ·grind [Le,qaO,qax]
 ·cases hr
end
variable {prog:Nat->Option PFun}
theorem qfD : ∀ n,Le (qa5 prog n) (qa5 prog (n+1))
 | 0=>fun t r h=>by simp[qa5] at h
 | n+1=>fun t r h=>by
  have ih:=qfD n
  cases t with
  | call f args σ=>
   simp only[qa5] at h ⊢
   split at h
   ·grind [Le,qa5,qc8]
   ·cases h
  | dcall f args σ=>
   simp only[qa5] at h ⊢
   split at h
   ·exact qcN ih h
   ·cases h
  | round args σ=>
   simp only[qa5] at h ⊢
   exact qc7 ih h
  | loop k b fr σ=>
   simp only[qa5] at h ⊢
   split at h
   ·grind [Le,qa5,qax]
   ·cases h
theorem qat {m n:Nat} (h:m<=n):Le (qa5 prog m) (qa5 prog n):=by
 induction n with
 | zero => have:m=0:=by omega
           subst this; exact fun _ _ h=>h
 | succ n ih=>
  rcases Nat.lt_or_ge n m with h' | h'
  ·grind [Le,qa5]
  ·exact fun t r ht=>qfD n t r (ih h' t r ht)
open Classical in
noncomputable def Z (prog:Nat->Option PFun) (t:Task):Option Res:=if h : ∃ n r,qa5 prog n t=some r then qa5 prog (Classical.choose h) t else none
theorem Z_iff {t:Task} {r:Res}:Z prog t=some r ↔ ∃ n,qa5 prog n t=some r:=by
 classical
 unfold Z
 constructor
 ·intro h
  split at h
  ·exact⟨_,h⟩
  ·cases h
 ·rintro ⟨n,hn⟩
  have hex : ∃ n r,qa5 prog n t=some r:=⟨n,r,hn⟩
  rw[dif_pos hex]
  obtain⟨r',hr'⟩:=Classical.choose_spec hex
  have h1:=qat (prog:=prog) (Nat.le_max_left n (Classical.choose hex)) t r hn
  have h2:=qat (prog:=prog) (Nat.le_max_right n (Classical.choose hex)) t r' hr'
  rw[h1] at h2
  rw[hr',h2]
theorem qaR {n:Nat} {t:Task} {r:Res} (h:qa5 prog n t=some r):Z prog t=some r:=Z_iff.2 ⟨n,h⟩
theorem qbo {f:List V->S->Task} {args:List V} {σ : S} {r:V × S} (hr:qaM (Z prog) f args σ = some r) : ∃ n,qaM (qa5 prog n) f args σ = some r:=by
 unfold qaM at hr ⊢
 simp only at hr ⊢
 split at hr
 ·split at hr
  ·cases hr
  ·rename_i v s' hnp hc
   obtain⟨n,hn⟩:=Z_iff.1 hc
   exact⟨n,by simp only[hn]; exact hr⟩
  ·cases hr
 ·cases hr
theorem qcD {f:List V->S->Task} {args:List V} {σ : S} {r:V × S} (hr:qba (Z prog) f args σ = some r) : ∃ n,qba (qa5 prog n) f args σ = some r:=by
 unfold qba at hr ⊢
 simp only at hr ⊢
 split at hr
 ·split at hr
  ·rename_i v s' hc
   obtain⟨n,hn⟩:=Z_iff.1 hc
   exact⟨n,by simp only[hn]; exact hr⟩
  ·cases hr
 ·cases hr
theorem qgE {fr:Fr} {σ : S} {op:O} {r:V × S} (hr:qaP (Z prog) fr σ op=some r) : ∃ n,qaP (qa5 prog n) fr σ op=some r:=by
 cases op with
 | call f xs=>
  simp only[qaP] at hr ⊢
  split at hr
  ·exact qcD hr
  ·cases hr
 | callv f xs=>
  simp only[qaP] at hr ⊢
  split at hr
  ·exact qcD hr
  ·exact qcD hr
  ·cases hr
 | invoke tbl x xs=>
  simp only[qaP] at hr ⊢
  split at hr
  ·split at hr
   ·exact qcD hr
   ·cases hr
  ·cases hr
 | _=>exact⟨0,hr⟩
theorem qd6 {fr:Fr} {σ : S} {op:O} {r:V × S} (hr:qaj (Z prog) fr σ op=some r) : ∃ n,qaj (qa5 prog n) fr σ op=some r:=by
 cases op with
 | call f xs=>
  simp only[qaj] at hr ⊢
  split at hr
  ·exact qbo hr
  ·cases hr
 | callv f xs=>
  simp only[qaj] at hr ⊢
  split at hr
  ·exact qbo hr
  ·exact qbo hr
  ·exact qbo hr
  ·cases hr
 | invoke tbl x xs=>
  simp only[qaj] at hr ⊢
  split at hr
  ·split at hr
   ·exact qbo hr
   ·cases hr
  ·cases hr
 | _=>exact⟨0,hr⟩
theorem qe6 : ∀ {is:List I} {fr:Fr} {σ : S} {r:Fr × S},qcj (Z prog) is fr σ = some r -> ∃ n,qcj (qa5 prog n) is fr σ = some r
 | [],_,_,_,hr=>⟨0,hr⟩
 | i::is,fr,σ,r,hr=>by
  simp only[qcj] at hr ⊢
  split at hr
  ·rename_i hw
   split at hr
   ·rename_i v σ' hv
    obtain⟨n,hn⟩:=qd6 hv
    obtain⟨m,hm⟩:=qe6 hr
    refine⟨max n m,?_⟩
    simp only[qa6 (qat (Nat.le_max_left n m)) hn]
    exact qcC (qat (Nat.le_max_right n m)) hm
   ·cases hr
  ·exact qe6 hr
  ·cases hr
theorem qd7 : ∀ {is:List I} {fr:Fr} {σ : S} {r:List Ev × Fr × S},qbq (Z prog) is fr σ = some r -> ∃ n,qbq (qa5 prog n) is fr σ = some r
 | [],_,_,_,hr=>⟨0,hr⟩
 | i::is,fr,σ,r,hr=>by
  simp only[qbq] at hr ⊢
  split at hr
  ·rename_i hw
   split at hr
   ·rename_i v σ' hv
    obtain⟨n,hn⟩:=qd6 hv
    split at hr
    ·rename_i l fr' σ'' hrest
     obtain⟨m,hm⟩:=qd7 hrest
     refine⟨max n m,?_⟩
     simp only[qa6 (qat (Nat.le_max_left n m)) hn,qbG (qat (Nat.le_max_right n m)) hm]
     exact hr
    ·cases hr
   ·cases hr
  ·split at hr
   ·rename_i l fr' σ'' hrest
    obtain⟨m,hm⟩:=qd7 hrest
    exact⟨m,by simp only[hm]; exact hr⟩
   ·cases hr
  ·cases hr
theorem qe7 : ∀ {is:List I} {fr:Fr} {σ : S} {r:List (Fr × S)},qcX (Z prog) is fr σ = some r -> ∃ n,qcX (qa5 prog n) is fr σ = some r
 | [],_,_,_,hr=>⟨0,hr⟩
 | i::is,fr,σ,r,hr=>by
  simp only[qcX] at hr ⊢
  split at hr
  ·rename_i hw
   split at hr
   ·rename_i v σ' hv
    obtain⟨n,hn⟩:=qd6 hv
    split at hr
    ·rename_i l hrest
     obtain⟨m,hm⟩:=qe7 hrest
     refine⟨max n m,?_⟩
     simp only[qa6 (qat (Nat.le_max_left n m)) hn,qbW (qat (Nat.le_max_right n m)) hm]
     exact hr
    ·cases hr
   ·cases hr
  ·split at hr
   ·rename_i l hrest
    obtain⟨m,hm⟩:=qe7 hrest
    exact⟨m,by simp only[hm]; exact hr⟩
   ·cases hr
  ·cases hr
theorem qd8 : ∀ {is:List I} {fr:Fr} {σ : S} {r:V × Fr × S},qbg (Z prog) is fr σ = some r -> ∃ n,qbg (qa5 prog n) is fr σ = some r
 | [],_,_,_,hr=>by simp[qbg] at hr
 | i::is,fr,σ,r,hr=>by
  simp only[qbg] at hr ⊢
  split at hr
  ·rename_i hw
   split at hr
   ·rename_i v σ' hv
    obtain⟨n,hn⟩:=qd6 hv
    obtain⟨m,hm⟩:=qd8 hr
    refine⟨max n m,?_⟩
    simp only[qa6 (qat (Nat.le_max_left n m)) hn]
    exact (qbF (qat (Nat.le_max_right n m)) hm).1
   ·split at hr
    ·rename_i v σ' hv
     obtain⟨n,hn⟩:=qgE hv
     exact⟨n,by simp only[qc6 (fun _ _ h=>h) hn,hn]; exact hr⟩
    ·cases hr
  ·exact qd8 hr
  ·cases hr
theorem qdt : ∀ {is:List I} {q:Nat} {fr:Fr} {σ : S} {r:Nat × List Ev × V × S},qa4 (Z prog) q is fr σ = some r -> ∃ n,qa4 (qa5 prog n) q is fr σ = some r
 | [],_,_,_,_,hr=>by simp[qa4] at hr
 | i::is,q,fr,σ,r,hr=>by
  simp only[qa4] at hr ⊢
  split at hr
  ·rename_i hw
   split at hr
   ·rename_i v σ' hv
    obtain⟨n,hn⟩:=qd6 hv
    split at hr
    ·rename_i p l u σ'' hrest
     obtain⟨m,hm⟩:=qdt hrest
     refine⟨max n m,?_⟩
     simp only[qa6 (qat (Nat.le_max_left n m)) hn,(qbn (qat (Nat.le_max_right n m)) hm).1]
     exact hr
    ·cases hr
   ·split at hr
    ·rename_i v σ' hv
     obtain⟨n,hn⟩:=qgE hv
     exact⟨n,by simp only[qc6 (fun _ _ h=>h) hn,hn]; exact hr⟩
    ·cases hr
  ·split at hr
   ·rename_i p l u σ'' hrest
    obtain⟨m,hm⟩:=qdt hrest
    exact⟨m,by simp only[hm]; exact hr⟩
   ·cases hr
  ·cases hr
theorem qch {k:Nat} : ∀ {pc:PC} {fr:Fr} {σ : S} {r:Ex × Fr × S},run (Z prog) k pc fr σ = some r -> ∃ n,run (qa5 prog n) k pc fr σ = some r
 | .range f ps as bd,fr,σ,r,hr=>by grind [run,Z,qa5,qbo]
 | .skip,_,_,_,hr=>⟨0,hr⟩
 | .exit _,_,_,_,hr=>⟨0,hr⟩
 | .ret,_,_,_,hr=>⟨0,hr⟩
 | .region none ops keep _,fr,σ,r,hr=>by
  simp only[run] at hr ⊢
  split at hr
  ·grind [run,Z,qa5,qe6]
  ·split at hr
   ·rename_i v fr' σ' hx
    obtain⟨n,hn⟩:=qd8 hx
    exact⟨n,by simp only[hn,(qbF (fun _ _ h=>h) hn).2]; exact hr⟩
   ·cases hr
 | .region (some rs) ops keep _,fr,σ,r,hr=>by
  simp only[run] at hr ⊢
  split at hr
  ·rename_i es fr' σ' hx
   obtain⟨n,hn⟩:=qd7 hx
   split at hr
   ·grind
   ·rename_i hc
    split at hr
    ·rename_i ss ht
     obtain⟨m,hm⟩:=qe7 ht
     refine⟨max n m,?_⟩
     simp only[qbG (qat (Nat.le_max_left n m)) hn,qbW (qat (Nat.le_max_right n m)) hm]
     rw[if_neg hc]; exact hr
    ·cases hr
  ·split at hr
   ·rename_i p es v σ' hx
    obtain⟨n,hn⟩:=qdt hx
    exact⟨n,by simp only[hn,(qbn (fun _ _ h=>h) hn).2]; exact hr⟩
   ·cases hr
 | .seq a b,fr,σ,r,hr=>by
  simp only[run] at hr ⊢
  split at hr
  ·rename_i fr' σ' hx
   obtain⟨n,hn⟩:=qch hx
   obtain⟨m,hm⟩:=qch hr
   refine⟨max n m,?_⟩
   simp only[qax (qat (Nat.le_max_left n m)) hn]
   exact qax (qat (Nat.le_max_right n m)) hm
  ·rename_i hne
   obtain⟨n,hn⟩:=qch hr
   refine⟨n,?_⟩
   rw[hn]
   obtain⟨e,fr',σ'⟩:=r
   cases e with
   | normal=>exact absurd hr (hne _ _)
   | exit id=>rfl
   | ret=>rfl
   | pan v=>rfl
 | .cond c a b,fr,σ,r,hr=>by
  simp only[run] at hr ⊢
  split at hr
  ·exact qch hr
  ·exact qch hr
  ·cases hr
 | .block id b,fr,σ,r,hr=>by
  simp only[run] at hr ⊢
  split at hr
  ·rename_i id' fr' σ' hx
   obtain⟨n,hn⟩:=qch hx
   exact⟨n,by simp only[hn]; exact hr⟩
  ·rename_i hne
   obtain⟨n,hn⟩:=qch hr
   refine⟨n,?_⟩
   rw[hn]
   obtain⟨e,fr',σ'⟩:=r
   cases e with
   | normal=>rfl
   | exit id=>exact absurd hr (hne _ _ _)
   | ret=>rfl
   | pan v=>rfl
 | .loop b,fr,σ,r,hr=>by
  simp only[run] at hr ⊢
  split at hr
  ·rename_i e fr' σ' hx
   obtain⟨n,hn⟩:=Z_iff.1 hx
   exact⟨n,by simp only[hn]; exact hr⟩
  ·cases hr
theorem qcm : ∀ {l:List V} {σ : S} {r:S},qaD (Z prog) l σ = some r -> ∃ n,qaD (qa5 prog n) l σ = some r
 | [],σ,r,hr=>⟨0,hr⟩
 | v::l,σ,r,hr=>by
  unfold qaD at hr ⊢
  split at hr
  ·rename_i e; cases e
  ·rename_i id a r' e
   cases e
   split at hr
   ·rename_i v' σ' hc
    obtain⟨n,hn⟩:=qbo hc
    obtain⟨m,hm⟩:=qcm hr
    refine⟨max n m,?_⟩
    simp only[qaL (qat (Nat.le_max_left n m)) hn]
    exact qa7 (qat (Nat.le_max_right n m)) hm
   ·cases hr
  ·cases hr
theorem qgF {pf:PFun} {k:Nat} {fr:Fr} {σ : S} {r:Res} (hr:(if pf.df then qdg (Z prog) pf k fr σ else qby pf k fr σ)=some r) : ∃ n,(if pf.df then qdg (qa5 prog n) pf k fr σ else qby pf k fr σ)=some r:=by
 split at hr
 ·grind [qdg,Z,qby,qa5,qcm]
 ·rename_i hd
  simp only[if_neg hd]
  exact⟨0,hr⟩
theorem qhB {pf:PFun} {k:Nat} {v:V} {fr:Fr} {σ : S} {r:Res} (hr:qcQ (Z prog) pf k v fr σ = some r) : ∃ n,qcQ (qa5 prog n) pf k v fr σ = some r:=by
 unfold qcQ at hr ⊢
 split at hr
 ·exact⟨0,hr⟩
 ·split at hr
  ·cases hr
  ·rename_i hn
   simp only[if_neg hn]
   split at hr
   ·rename_i v' σ' hc
    obtain⟨n,hn⟩:=qbo hc
    split at hr
    ·rename_i σ'' hx
     obtain⟨m,hm⟩:=qcm hx
     refine⟨max n m,?_⟩
     simp only[qaL (qat (Nat.le_max_left n m)) hn,qa7 (qat (Nat.le_max_right n m)) hm]
     exact hr
    ·cases hr
   ·cases hr
 ·cases hr
theorem qga {pf:PFun} {args:List V} {σ : S} {r:Res} (h:qa3 (Z prog) pf args σ = some r) : ∃ n,qa3 (qa5 prog n) pf args σ = some r:=by
 have lv : ∀ {n m k fr σ},(if pf.df then qdg (qa5 prog m) pf k fr σ else qby pf k fr σ)=some r->m<=n->(if pf.df then qdg (qa5 prog n) pf k fr σ else qby pf k fr σ)=some r:=fun hr hle=>by
  split at hr
  ·rename_i hd; rw[if_pos hd]; exact qeE (qat hle) hr
  ·rename_i hd; rw[if_neg hd]; exact hr
 unfold qa3 at h ⊢
 split at h
 ·rename_i hl
  simp only[if_pos hl]
  split at h
  ·rename_i fr σ' hx
   obtain⟨n,hn⟩:=qch hx
   obtain⟨m,hm⟩:=qgF h
   refine⟨max n m,?_⟩
   simp only[qax (qat (Nat.le_max_left n m)) hn]
   exact lv hm (Nat.le_max_right n m)
  ·rename_i fr σ' hx
   obtain⟨n,hn⟩:=qch hx
   obtain⟨m,hm⟩:=qgF h
   refine⟨max n m,?_⟩
   simp only[qax (qat (Nat.le_max_left n m)) hn]
   exact lv hm (Nat.le_max_right n m)
  ·rename_i v fr σ' hx
   obtain⟨n,hn⟩:=qch hx
   obtain⟨m,hm⟩:=qhB h
   refine⟨max n m,?_⟩
   simp only[qax (qat (Nat.le_max_left n m)) hn]
   exact qd5 (qat (Nat.le_max_right n m)) hm
  ·cases h
 ·cases h
theorem qbf {f:Nat} {pf:PFun} {args:List V} {σ : S} {r:Res} (hf:prog f=some pf) (hc:pf.catches=false) (h:qa3 (Z prog) pf args σ = some r):Z prog (.call f args σ)=some r:=by
 obtain⟨n,hn⟩:=qga h
 exact qaR (n:=n+1) (by simp only[qa5,hf,hc,Bool.false_eq_true,if_false,hn])
theorem qgb {k:Nat} {b:PC} {fr fr0 fr':Fr} {σ σ0 σ':S} {r:Res} (hg:gcF k fr σ = some (fr0,σ0)) (h:run (Z prog) k b fr0 σ0=some (.normal,fr',σ')) (hr:Z prog (.loop k b fr' σ')=some r):Z prog (.loop k b fr σ)=some r:=by
 obtain⟨n,hn⟩:=qch h
 obtain⟨m,hm⟩:=Z_iff.1 hr
 refine qaR (n:=max n m+1) ?_
 simp only[qa5,hg,qax (qat (Nat.le_max_left n m)) hn]
 exact qat (Nat.le_max_right n m) _ _ hm
theorem qg7 {k:Nat} {b:PC} {fr fr0 fr':Fr} {σ σ0 σ':S} {e:Ex} (he:e ≠ .normal) (hg:gcF k fr σ = some (fr0,σ0)) (h:run (Z prog) k b fr0 σ0=some (e,fr',σ')):Z prog (.loop k b fr σ)=some (.out e fr' σ'):=by
 obtain⟨n,hn⟩:=qch h
 refine qaR (n:=n+1) ?_
 simp only[qa5,hg,hn]
 all_goals (cases e with
  | normal=>exact absurd rfl he
  | exit id=>rfl
  | ret=>rfl
  | pan v=>rfl)
variable {P:Program} {ids:Ids} {fid:Fid}
def qhC (w:World):Nat->Nat:=fun b=>match w.heap[b]? with
 | some (.cells arr _ _)=>arr.size
 | _=>0
def qcT (w:World):Ctx:=⟨[],fun _=>none,qhC w,w⟩
def GlbAt (fid:Fid) (w:World):Prop := ∀ g cs,fid.gl g=some cs -> ∃ vs,RepDs (qhC w) w cs vs/\Row (qhC w) w g 0 vs
theorem qg8 {w:World} (hg:GlbAt fid w):Real fid (qcT w):=by
 refine⟨fun l ob b h=>by simp[qcT] at h,fun l b h=>by simp[qcT] at h,fun l l' b h=>by simp[qcT] at h,fun b hb=>?_,hg⟩
 simp only[qcT,qhC] at hb ⊢
 cases h:w.heap[b]? with
 | none=>rw[h] at hb; simp at hb
 | some o=>
  rw[h] at hb
  cases o<;>simp only at hb<;>first | (exact absurd hb (Nat.lt_irrefl _)) | exact⟨_,_,_,rfl,Nat.le_refl _⟩
theorem calls_of_Z (hid:Ties P ids fid) (hcr:Codes P ids fid) (hm:P.follows .mixedOrders=true) (ht:Tied P ids fid prog) {f:Nat} {args:List V} {xs:List Value} {d:Value} {σ':S} {w:World} (h:Z prog (.call f args [])=some (.ret (.dat (.lit d)) σ')) (hg:GlbAt fid w)
  (ha:Reps fid (qcT w) args xs):Calls P (fid f) xs.toArray w fun e w'=>e = .returned d/\w'.os=w.os/\w'.tape=w.tape/\w'.output=w.output/\w.heap.size<=w'.heap.size /\ ∀ k,k<w.heap.size->w'.heap[k]?=w.heap[k]?:=by
 obtain⟨n,hn⟩:=Z_iff.1 h
 obtain⟨_,hs⟩:=(qeI hid hcr hm ht n).1.call _ _ _ _ _ hn
 refine (callsIn_wide.1 (hs (qcT w) xs rfl (qg8 hg) ha)).mono ?_
 rintro e w' ⟨Γ',rfl,_,_,h3,hout⟩
 rcases hout with ⟨x,rfl,h4⟩ | ⟨u,x,hu,_⟩
 rotate_left
 ·cases hu
 refine⟨by rw[(qaf h4).1],h3.ext.os,h3.ext.tape,h3.ext.output,h3.ext.size,fun k hk=>(h3.frm.same k hk fun l h=>by simp[qcT] at h).1⟩
end Go.Pm
namespace Go.Pm
variable {prog:Nat->Option PFun}
theorem qjx {α : Type} {a b:Option α} (h : ∀ r,a=some r->b=some r) (k : ∀ r,b=some r->a=some r):a=b:=by
 cases a with
 | some r=>exact (h r rfl).symm
 | none=>cases b with
  | none=>rfl
  | some r=>exact k r rfl
theorem qku {n:Nat}:Le (qa5 prog n) (Z prog):=fun _ _ h=>qaR h
def qap (C:Task->Option Res) (k:Nat) (b:PC):Option (Fr × S)->Option Res
 | some (fr0,σ0)=>match run C k b fr0 σ0 with
  | some (.normal,fr',σ')=>C (.loop k b fr' σ')
  | some (e,fr',σ')=>some (.out e fr' σ')
  | none=>none
 | none=>none
theorem qao (k:Nat) (b:PC) (fr:Fr) (σ : S):Z prog (.loop k b fr σ)=qap (Z prog) k b (gcF k fr σ):=by
 refine qjx (fun r h=>?_) (fun r h=>?_)
 ·obtain⟨n,hn⟩:=Z_iff.1 h
  cases n with
  | zero=>simp[qa5] at hn
  | succ n=>
   simp only[qa5] at hn
   split at hn
   ·grind [qap,Z,gcF,qax,qku,qaR]
   ·cases hn
 ·grind [qap,Z,gcF,qgb,qg7]
theorem qgG {prog prog':Nat->Option PFun} (hs : ∀ f pf,prog f=some pf->prog' f=some pf) : ∀ n,Le (qa5 prog n) (qa5 prog' n)
 | 0=>fun t r h=>by simp[qa5] at h
 | n+1=>fun t r h=>by
  have ih:=qgG hs n
  cases t with
  | call f args σ=>
   simp only[qa5] at h ⊢
   split at h
   ·grind [Le,qa5,qc8]
   ·cases h
  | dcall f args σ=>
   simp only[qa5] at h ⊢
   split at h
   ·grind [Le,qa5,qcN]
   ·cases h
  | round args σ=>
   simp only[qa5] at h ⊢
   exact qc7 ih h
  | loop k b fr σ=>
   simp only[qa5] at h ⊢
   split at h
   ·grind [Le,qa5,qax]
   ·cases h
theorem qe8 {prog prog':Nat->Option PFun} (hs : ∀ f pf,prog f=some pf->prog' f=some pf) {t:Task} {r:Res} (h:Z prog t=some r):Z prog' t=some r:=by
 obtain⟨n,hn⟩:=Z_iff.1 h
 exact qaR (qgG hs n _ _ hn)
end Go.Pm
end SY
section SS
namespace Go.Pm
attribute [simp] qkV qlD qhd qcl qht qhK qhL qex outV qgM qiv qbX finishV Ob.rows qkW qjF appendO appendT qiE qff V.isStr qhb qde qdg qcQ qaD Fr.defs qaP qbg qdd undef qa3 qaG run qcj qbq qaj qaq X.ev evs qbI qcW Fr.get Fr.put Fr.keep qfP unV qiC qby qjh qha qeJ V.sealT V.sealv qaH qeK reach qai V.locs qfM inL qfN qbH V.ren one
 gcL gcF qbe qgh Ob.locs Ob.ren qfe qkk idx back qal qaM qa2 qaF qiF qfg qbD qbJ qcq qec qbp storeV qbh qkl Value.oneCell' qaN V.aggCells qbR qci
@[simp] theorem qlL (v:Value):V.one (.dat (.lit v))=v.oneCell':=rfl
@[simp] theorem qkI (v:Value):V.cells (.dat (.lit v))=[(.dat (.lit v))]:=rfl
@[simp] theorem qmI (cs:List D) (n:Nat) (f:Bool):V.one (.dat (.sl cs n f))=true:=rfl
@[simp] theorem qlt (cs:List D) (n:Nat) (f:Bool):V.cells (.dat (.sl cs n f))=[(.dat (.sl cs n f))]:=rfl
@[simp] theorem qlM (cs:List D) (o:Nat):V.one (.dat (.imm cs o))=true:=rfl
@[simp] theorem qkJ (cs:List D) (o:Nat):V.cells (.dat (.imm cs o))=[(.dat (.imm cs o))]:=rfl
@[simp] theorem qlu (cs:List D):V.one (.dat (.agg cs))=false:=rfl
@[simp] theorem qkh (cs:List D):V.cells (.dat (.agg cs))=cs.map .dat:=rfl
@[simp] theorem qki (t:Nat) (d:D):V.one (.dat (.iface t d))=true:=rfl
@[simp] theorem qje (t:Nat) (d:D):V.cells (.dat (.iface t d))=[(.dat (.iface t d))]:=rfl
@[simp] theorem qlN (l o:Nat):V.one (.ptr l o)=true:=rfl
@[simp] theorem qkK (l o:Nat):V.cells (.ptr l o)=[(.ptr l o)]:=rfl
@[simp] theorem qlO (cs:List D) (n sz l:Nat):V.one (.gsl cs n sz l)=true:=rfl
@[simp] theorem qkL (cs:List D) (n sz l:Nat):V.cells (.gsl cs n sz l)=[(.gsl cs n sz l)]:=rfl
@[simp] theorem qlP (l o n cap sz:Nat):V.one (.msl l o n cap sz)=true:=rfl
@[simp] theorem qkM (l o n cap sz:Nat):V.cells (.msl l o n cap sz)=[(.msl l o n cap sz)]:=rfl
@[simp] theorem qlQ (l n sz:Nat):V.one (.own l n sz)=true:=rfl
@[simp] theorem qkN (l n sz:Nat):V.cells (.own l n sz)=[(.own l n sz)]:=rfl
@[simp] theorem qlv (l n o:Nat):V.one (.eptr l n o)=true:=rfl
@[simp] theorem qkj (l n o:Nat):V.cells (.eptr l n o)=[(.eptr l n o)]:=rfl
@[simp] theorem qmJ (g:Nat) (v:V):V.one (.bm g v)=true:=rfl
@[simp] theorem qlw (g:Nat) (v:V):V.cells (.bm g v)=[(.bm g v)]:=rfl
@[simp] theorem qlR (cs:List V):V.one (.agg cs)=false:=rfl
@[simp] theorem qkO (cs:List V):V.cells (.agg cs)=cs:=rfl
@[simp] theorem qmK (f:Nat) (a b:List V):V.one (.fn f a b)=true:=rfl
@[simp] theorem qlx (f:Nat) (a b:List V):V.cells (.fn f a b)=[(.fn f a b)]:=rfl
@[simp] theorem qmL (l:Nat):V.one (.mp l)=true:=rfl
@[simp] theorem qly (l:Nat):V.cells (.mp l)=[(.mp l)]:=rfl
@[simp] theorem qkP (t:Nat) (v:V):V.one (.iface t v)=true:=rfl
@[simp] theorem qjB (t:Nat) (v:V):V.cells (.iface t v)=[(.iface t v)]:=rfl
@[simp] theorem qlS (vs:List V):V.one (.tup vs)=false:=rfl
@[simp] theorem qkQ (vs:List V):V.cells (.tup vs)=[(.tup vs)]:=rfl
@[simp] theorem qlT (l:Nat):V.one (.yld l)=true:=rfl
@[simp] theorem qkR (l:Nat):V.cells (.yld l)=[(.yld l)]:=rfl
@[simp] theorem qlz {α : Type} (cs:List α):qae cs 0 0=some []:=by simp[qae]
@[simp] theorem qlA {α : Type} (c : α) (cs:List α) (n:Nat):qae (c::cs) 0 (n+1)=(qae cs 0 n).map (c :: ·):=by grind [qae]
@[simp] theorem qlB {α : Type} (c : α) (cs:List α) (o n:Nat):qae (c::cs) (o+1) n=qae cs o n:=by
 simp only[qae,List.drop_succ_cons]
@[simp] theorem qlU (a b:Int):eqI a b=decide (a=b):=rfl
abbrev I64 (n:Int):Prop := -9223372036854775808<=n/\n<=9223372036854775807
theorem qaB (n:Int) (h : -9223372036854775808<=n/\n<=9223372036854775807):IntKind.i64.wrap n=n:=by rw[IntKind.wrap_i64]; omega
def intsC (xs:List Int):List D:=xs.map fun x => .lit (.int .i64 x)
def qhG:List Int->D
 | [] => .lit (.slice none 0 0)
 | x::xs => .sl (intsC (x::xs)) (x::xs).length false
@[simp] theorem qkS (σ : S) (xs:List Int):V.len σ .sl (.dat (qhG xs))=some xs.length:=by
 cases xs<;>simp[qhG,V.len]
@[simp] theorem qkT (xs:List Int):V.one (.dat (qhG xs))=true:=by cases xs<;>rfl
@[simp] theorem qjC (xs:List Int):V.cells (.dat (qhG xs))=[.dat (qhG xs)]:=by cases xs<;>rfl
end Go.Pm
end SS
section SW
namespace Go.Pm
def RowV (v:D) (xs:List Int):Prop:=
 (∃ o,v = .lit (.slice o 0 0)/\xs=[])\/v = .sl (intsC xs) xs.length false
theorem RowV.one {v:D} {xs:List Int} (h:RowV v xs):V.one (.dat v)=true:=by rcases h with ⟨o,rfl,rfl⟩ | rfl<;>rfl
theorem RowV.cells {v:D} {xs:List Int} (h:RowV v xs):V.cells (.dat v)=[.dat v]:=by rcases h with ⟨o,rfl,rfl⟩ | rfl<;>rfl
theorem qfV (F:Nat->Nat) (w:World) : ∀ xs:List Int,RepDs F w (intsC xs) (xs.map (.int .i64))
 | []=>rfl
 | x::xs=>⟨_,_,rfl,⟨rfl,rfl⟩,qfV F w xs⟩
theorem row_rep (fid:Fid) {w:World} {a:Option Addr} {len cap:Nat} {zs:List Int}
  (h:(a=none/\len=0/\cap=0/\zs=[]) \/ ∃ x,a=some x/\len<=cap/\cap<=maxLen/\zs.length=cap/\(∀ i,i<zs.length->w.cell? (x.add i)=some (.int .i64 (zs.getD i 0))) /\ ∀ n∈zs,(Lit.int .i64 n).wf=true) :
  ∃ d,RowV d (zs.take len)/\(∀ x∈zs.take len,I64 x)/\Rep fid (qcT w) (.dat d) (.slice a len cap):=by
 rcases h with ⟨rfl,rfl,rfl,rfl⟩ | ⟨x,rfl,h1,h2,h3,h4,h5⟩
 ·exact⟨.lit (.slice none 0 0),.inl ⟨_,rfl,rfl⟩,by simp,rfl,rfl⟩
 by_cases hc:cap=0
 ·subst hc
  have:len=0:=by omega
  subst this
  exact⟨.lit (.slice (some x) 0 0),.inl ⟨_,rfl,by simp⟩,by simp,rfl,rfl⟩
 have hl:(zs.take len).length=len:=by rw[List.length_take]; omega
 have hs:x.spot=none:=World.cell?_spot (v := .int .i64 (zs.getD 0 0)) (by simpa [Addr.add] using h4 0 (by omega))
 obtain⟨b,o,sp⟩:=x
 simp only at hs
 subst hs
 have hcell : ∀ i,i<zs.length->w.cell? ⟨b,o+i,none⟩=some (.int .i64 (zs.getD i 0)):=fun i hi=>by
  have:=h4 i hi
  by_cases h0:i=0
  ·subst h0; simpa [Addr.add] using this
  ·simpa [Addr.add,h0] using this
 refine⟨.sl (intsC (zs.take len)) len false,.inr (by rw[hl]),fun n hn=>?_,b,o,cap,(zs.take len).map (.int .i64),rfl,h1,by simp,qfV _ _ _,?_,?_,?_⟩
 ·have:=h5 n (List.mem_of_mem_take hn)
  simp only[Lit.wf,Bool.and_eq_true,decide_eq_true_eq] at this
  have e1:IntKind.i64.min = -9223372036854775808:=by decide
  have e2:IntKind.i64.max=9223372036854775807:=by decide
  unfold I64
  omega
 ·intro i v hv
  rw[List.getElem?_map,List.getElem?_take] at hv
  split at hv
  ·rename_i hi
   rw[List.getElem?_eq_getElem (by omega)] at hv
   simp only[Option.map_some,Option.some.injEq] at hv
   subst hv
   rw[show (qcT w).w=w from rfl,hcell i (by omega)]
   simp[List.getD_eq_getElem?_getD,show i<zs.length by omega]
  ·simp at hv
 ·intro hp
  simp only[List.length_map,hl] at hp ⊢
  have:=hcell (len-1) (by omega)
  unfold World.cell? at this
  simp only[qcT,qhC]
  split at this
  ·rename_i c _ _ hb
   rw[hb]
   simp only[Option.isSome_none,Bool.false_eq_true,if_false] at this
   have hlt:o+(len-1)<c.size:=by
    rcases Nat.lt_or_ge (o+(len-1)) c.size with h' | h'
    ·exact h'
    ·rw[Array.getElem?_eq_none h'] at this; cases this
   simp only
   omega
  ·cases this
 ·intro v hv
  obtain⟨n,_,rfl⟩:=List.mem_map.1 hv
  rfl
theorem int_rep (fid:Fid) (w:World) (n:Int):Rep fid (qcT w) (.int n) (.int .i64 n):=⟨rfl,rfl⟩
theorem reps_cons {fid:Fid} {Γ : Ctx} {a:V} {x:Value} {as:List V} {xs:List Value} (h:Rep fid Γ a x) (k:Reps fid Γ as xs):Reps fid Γ (a::as) (x::xs):=⟨_,_,rfl,h,k⟩
end Go.Pm
end SW
section SU
namespace Go.Pm
def fl (P:Program):Nat->TypeId->DataW Unit->Option (List Value)
 | 0,_,_=>none
 | m+1,t,d=>match P.underlying t,d with
  | some (.int k),.lit (.int k' n)=>if k=k' then some [.int k n] else none
  | some (.array n e),.agg ds=>match ds.mapM (fl P m e) with
   | some vs=>if ds.length=n/\vs.all (fun v=>v.length==P.cellsOf e)/\P.cellsOf t=n*P.cellsOf e then some vs.flatten else none
   | none=>none
  | some (.struct fs),.agg ds=>match (fs.toList.zip ds).mapM (fun x=>fl P m x.1.type x.2) with
   | some vs=>if ds.length=fs.size/\((fs.toList.zip vs).all (fun x=>x.2.length==P.cellsOf x.1.type))/\(List.range fs.size).all (fun i=>(fs[i]?.map (·.offset)).getD 0==(vs.take i).flatten.length)/\P.cellsOf t=vs.flatten.length then some vs.flatten else none
   | none=>none
  | _,_=>none
theorem parts {α : Type} : ∀ (vs:List (List α)) (cs:List α) (o:Nat),(∀ (i:Nat) (v:List α),vs[i]?=some v->(cs.drop (o+(vs.take i).flatten.length)).take v.length=v)->cs.length=o+vs.flatten.length->cs.drop o=vs.flatten
 | [],cs,o,_,hl=>by simp at hl; simp[hl]
 | v::vs,cs,o,h,hl=>by
  have h0:=h 0 v rfl
  simp only[List.take_zero,List.flatten_nil,List.length_nil,Nat.add_zero] at h0
  have ih:=parts vs cs (o+v.length) (fun i u hu=>by
   have:=h (i+1) u hu
   simpa [Nat.add_assoc] using this) (by rw[List.flatten_cons,List.length_append] at hl; omega)
  rw[List.flatten_cons,<- ih]
  have e:=List.take_append_drop v.length (cs.drop o)
  rw[h0,List.drop_drop] at e
  exact e.symm
theorem qfw {α β : Type} {f : α -> Option β} : ∀ {l:List α} {r:List β},l.mapM f=some r->r.length=l.length /\ ∀ (i:Nat) (a : α),l[i]?=some a -> ∃ b,r[i]?=some b/\f a=some b
 | [],r,h=>by simp at h; subst h; simp
 | a::l,r,h=>by
  simp only[List.mapM_cons,Option.pure_def,Option.bind_eq_bind,Option.bind_eq_some_iff,Option.some.injEq] at h
  obtain⟨b,hb,r',hr,rfl⟩:=h
  obtain⟨h1,h2⟩:=qfw hr
  refine⟨by simp[h1],fun i x hx=>?_⟩
  cases i with
  | zero=>simp at hx; subst hx; exact⟨b,rfl,hb⟩
  | succ i=>simpa using h2 i x (by simpa using hx)
theorem qcA {α : Type} (m:Nat) : ∀ (vs:List (List α)) (i:Nat),(∀ v∈vs,v.length=m)->i<=vs.length->(vs.take i).flatten.length=i*m
 | _,0,_,_=>by simp
 | [],i+1,_,h=>by simp at h
 | v::vs,i+1,h,hi=>by
  simp only[List.take_succ_cons,List.flatten_cons,List.length_append]
  rw[qcA m vs i (fun u hu=>h u (List.mem_cons_of_mem _ hu)) (by simpa using hi),h v List.mem_cons_self,Nat.add_mul]
  omega
section
variable {enc:TypeId × Value->Unit} {P:Program} {w:World} {base:Nat} {spare:Nat->Bool} {held:Bool}
theorem qfx : ∀ (m:Nat) (t:TypeId) (d:DataW Unit) (vs:List Value) (fuel:Nat) (cs:List Value) (p:List MemPlace),fl P m t d=some vs->DataW.trod enc P w base spare held fuel t cs=some (d,p)->cs=vs
 | 0,t,d,vs,fuel,cs,p,h,_=>by simp[fl] at h
 | m+1,t,d,vs,fuel,cs,p,h,ht=>by
  unfold fl at h
  split at h
  ·rename_i k k' n hu
   split at h
   ·rename_i hk
    subst hk
    cases h
    obtain⟨n',rfl,e,_⟩:=DataW.trod_int hu ht
    simp only[Prod.mk.injEq,DataW.lit.injEq,Lit.int.injEq] at e
    rw[e.1.2]
   ·cases h
  ·rename_i n e ds hu
   split at h
   ·rename_i us hus
    split at h
    ·rename_i hc
     cases h
     obtain⟨h1,h2,h3⟩:=hc
     obtain⟨xs,q,rfl,hx,hl,hn,hel⟩:=DataW.trod_array hu ht
     simp only[Prod.mk.injEq,DataW.agg.injEq] at hx
     obtain⟨g1,g2⟩:=qfw hus
     have hlen : ∀ v∈us,v.length=P.cellsOf e:=fun v hv=>by simpa using List.all_eq_true.1 h2 v hv
     have hp:=parts us cs 0 (fun i v hv=>by
      have hi:i<us.length:=(List.getElem?_eq_some_iff.1 hv).1
      have hfl:=qcA (P.cellsOf e) us i hlen (by omega)
      rw[Nat.zero_add,hfl,hlen v (List.mem_of_getElem? hv)]
      have:=hel i (by omega)
      obtain⟨x,hxi⟩ : ∃ x,xs[i]?=some x:=⟨xs[i]'(by omega),List.getElem?_eq_getElem (by omega)⟩
      rw[hxi] at this
      have hd:ds[i]?=some x.1:=by rw[hx.1]; simp[hxi]
      obtain⟨b,hb,hf⟩:=g2 i _ hd
      rw[hv] at hb
      cases hb
      exact qfx m e x.1 v q _ x.2 hf this) (by
      have hfl:=qcA (P.cellsOf e) us us.length hlen (by omega)
      rw[List.take_length] at hfl
      rw[hl,h3,hfl,g1,h1]; simp)
     simpa using hp
    ·cases h
   ·cases h
  ·rename_i fs ds hu
   split at h
   ·rename_i us hus
    split at h
    ·rename_i hc
     cases h
     obtain⟨h1,h2,h3,h4⟩:=hc
     obtain⟨xs,q,rfl,hx,hl,hn,hel⟩:=DataW.trod_struct hu ht
     simp only[Prod.mk.injEq,DataW.agg.injEq] at hx
     obtain⟨g1,g2⟩:=qfw hus
     have gl:us.length=fs.size:=by rw[g1]; simp[h1]
     have hp:=parts us cs 0 (fun i v hv=>by
      have hi:i<us.length:=(List.getElem?_eq_some_iff.1 hv).1
      obtain⟨f,hf⟩ : ∃ f,fs[i]?=some f:=⟨fs[i]'(by omega),Array.getElem?_eq_getElem (by omega)⟩
      have hfl:fs.toList[i]?=some f:=by simpa using hf
      have ho:=List.all_eq_true.1 h3 i (by simp; omega)
      simp only[hf,Option.map_some,Option.getD_some,beq_iff_eq] at ho
      have hz:(fs.toList.zip us)[i]?=some (f,v):=by simp[List.getElem?_zip_eq_some,hfl,hv]
      have hlv:=List.all_eq_true.1 h2 (f,v) (List.mem_of_getElem? hz)
      simp only[beq_iff_eq] at hlv
      rw[Nat.zero_add,<- ho,hlv]
      have:=hel i f hf
      obtain⟨x,hxi⟩ : ∃ x,xs[i]?=some x:=⟨xs[i]'(by omega),List.getElem?_eq_getElem (by omega)⟩
      rw[hxi] at this
      have hd:ds[i]?=some x.1:=by rw[hx.1]; simp[hxi]
      have hz2:(fs.toList.zip ds)[i]?=some (f,x.1):=by simp[List.getElem?_zip_eq_some,hfl,hd]
      obtain⟨b,hb,hf2⟩:=g2 i _ hz2
      rw[hv] at hb
      cases hb
      exact qfx m f.type x.1 v q _ x.2 hf2 this) (by rw[hl,h4]; simp)
     simpa using hp
    ·cases h
   ·cases h
  ·cases h
end
theorem qdB {F:Nat->Nat} {w:World} : ∀ (vs:List Value),(vs.all fun v=>qaJ v)=true->RepDs F w (vs.map .lit) vs
 | [],_=>rfl
 | v::vs,h=>by
  simp only[List.all_cons,Bool.and_eq_true] at h
  exact⟨v,vs,rfl,⟨rfl,h.1⟩,qdB vs h.2⟩
theorem qj9 {P:Program} {w:World} {n:String} {d:DataW Unit} {g:Nat} {t:TypeId} {vs:List Value} {m:Nat} (hg:P.globalNamed n=some g) (ht:(P.globals[g]?).map (·.type)=some t)
  (hf:fl P m t d=some vs) (hv:(vs.all fun v=>qaJ v&&v.oneCell')=true) (h:laidMet P [(n,d)] w):RepDs (qhC w) w (vs.map .lit) vs/\Row (qhC w) w g 0 vs:=by
 obtain⟨ps,⟨g0,t0,cs,fuel,p,q,hg0,ht0,hvar,hd,_,hps⟩,_,hcell⟩:=h
 obtain rfl:=Option.some.inj (hg.symm.trans hg0)
 obtain rfl:=Option.some.inj (ht.symm.trans ht0)
 have e:=qfx m t d vs fuel cs.toList p hf hd
 have hc : ∀ i,w.cell? ⟨g,i,none⟩=vs[i]?:=fun i=>by rw[World.var?_cell hg hvar i,<- e]; simp
 refine⟨qdB vs (by
  rw[List.all_eq_true] at hv ⊢
  intro v hvm
  have:=hv v hvm
  simp only[Bool.and_eq_true] at this
  exact this.1),fun i v hi=>by rw[Nat.zero_add,hc,hi],fun hl=>?_,fun v hvm=>?_⟩
 ·have h0:w.cell? ⟨g,vs.length-1,none⟩=some (vs[vs.length-1]'(by omega)):=by rw[hc,List.getElem?_eq_getElem]
  unfold World.cell? at h0
  unfold qhC
  split at h0
  ·rename_i c _ _ hb
   rw[hb]
   simp only[Option.isSome_none,Bool.false_eq_true,if_false] at h0
   have hlt:vs.length-1<c.size:=by
    rcases Nat.lt_or_ge (vs.length-1) c.size with h' | h'
    ·exact h'
    ·rw[Array.getElem?_eq_none h'] at h0; cases h0
   simp only
   omega
  ·cases h0
 ·have:=List.all_eq_true.1 hv v hvm
  simp only[Bool.and_eq_true] at this
  exact this.2
end Go.Pm
end SU
section SU2
namespace Go.Pm
open Go
theorem qgL {P:Program} {w:World} {n:String} {d:DataW Unit} : ∀ (L:List (String × DataW Unit)) (ps:List MemPlace),DataW.LaidVars P w L ps->(n,d)∈L ->
  ∃ g t cs fuel p,P.globalNamed n=some g/\(P.globals[g]?).map (·.type)=some t/\w.var? P n=some cs/\DataW.trod (fun _=>()) P w 0 (fun _=>true) false fuel t cs.toList=some (d,p)
 | [],ps,_,hm=>by cases hm
 | (n',d')::r,ps,h,hm=>by
  obtain⟨g,t,cs,fuel,p,q,h1,h2,h3,h4,h5,_⟩:=h
  rcases List.mem_cons.1 hm with e | hm
  ·cases e; exact⟨g,t,cs,fuel,p,h1,h2,h3,h4⟩
  ·exact qgL r q h5 hm
theorem glb_of_laids {P:Program} {w:World} {n:String} {d:DataW Unit} {L:List (String × DataW Unit)} {g:Nat} {t:TypeId} {vs:List Value} {m:Nat} (hmem:(n,d)∈L) (hg:P.globalNamed n=some g) (ht:(P.globals[g]?).map (·.type)=some t)
  (hf:fl P m t d=some vs) (hv:(vs.all fun v=>qaJ v&&v.oneCell')=true) (h:laidMet P L w):RepDs (qhC w) w (vs.map .lit) vs/\Row (qhC w) w g 0 vs:=by
 obtain⟨ps,hL,_,hcell⟩:=h
 obtain⟨g0,t0,cs,fuel,p,hg0,ht0,hvar,hd⟩:=qgL L ps hL hmem
 obtain rfl:=Option.some.inj (hg.symm.trans hg0)
 obtain rfl:=Option.some.inj (ht.symm.trans ht0)
 have e:=qfx m t d vs fuel cs.toList p hf hd
 have hc : ∀ i,w.cell? ⟨g,i,none⟩=vs[i]?:=fun i=>by rw[World.var?_cell hg hvar i,<- e]; simp
 refine⟨qdB vs (by
  rw[List.all_eq_true] at hv ⊢
  intro v hvm
  have:=hv v hvm
  simp only[Bool.and_eq_true] at this
  exact this.1),fun i v hi=>by rw[Nat.zero_add,hc,hi],fun hl=>?_,fun v hvm=>?_⟩
 ·have h0:w.cell? ⟨g,vs.length-1,none⟩=some (vs[vs.length-1]'(by omega)):=by rw[hc,List.getElem?_eq_getElem]
  unfold World.cell? at h0
  unfold qhC
  split at h0
  ·rename_i c _ _ hb
   rw[hb]
   simp only[Option.isSome_none,Bool.false_eq_true,if_false] at h0
   have hlt:vs.length-1<c.size:=by
    rcases Nat.lt_or_ge (vs.length-1) c.size with h' | h'
    ·exact h'
    ·rw[Array.getElem?_eq_none h'] at h0; cases h0
   simp only
   omega
  ·cases h0
 ·have:=List.all_eq_true.1 hv v hvm
  simp only[Bool.and_eq_true] at this
  exact this.2
end Go.Pm
end SU2
section SW2
namespace Go.Pm
def qhu (xs:List Int):List V:=xs.map fun n=>V.int n
@[simp] theorem qjX (xs:List Int):(qhu xs).length=xs.length:=by simp[qhu]
@[simp] theorem qjn (xs:List Int):(intsC xs).length=xs.length:=by simp[intsC]
@[simp] theorem qks (xs:List Int):qai (qhu xs)=[]:=by
 induction xs with
 | nil=>rfl
 | cons x xs ih=>simpa [qhu] using ih
@[simp] theorem qlg (r:Nat->Nat) (xs:List Int):qbH r (qhu xs)=qhu xs:=by
 induction xs with
 | nil=>rfl
 | cons x xs ih=>simpa [qhu] using ih
@[simp] theorem qjY (xs:List Int):qaN (qhu xs)=some (intsC xs):=by
 induction xs with
 | nil=>rfl
 | cons x xs ih=>
  have:qaN (qhu (x::xs))=match qaN (qhu xs) with
   | some ds=>some (.lit (.int .i64 x)::ds)
   | none=>none:=rfl
  rw[this,ih]; rfl
@[simp] theorem qiT (xs:List Int):(intsC xs).all (fun d=>V.one (.dat d))=true:=by
 simp[intsC,Value.oneCell']
@[simp] theorem qjo (xs:List Int):(qhu xs).all V.one=true:=by
 simp[qhu,Value.oneCell']
@[simp] theorem qiU (xs:List Int):(∀ x∈intsC xs,V.one (.dat x)=true):=by
 simp[intsC,Value.oneCell']
def qmO (cs:List Int) (i v:Int):List Int:=cs.set i.toNat v
@[simp] theorem qjZ (cs:List Int) (i v:Int):(qmO cs i v).length=cs.length:=by simp[qmO]
def around (n m:Int):Int:=(if n<0 then -(n+1) else n).tmod m
theorem qb0 {n m:Int} (h1:I64 n) (hm:1<=m):0<=around n m/\around n m<m:=by
 unfold around
 split
 ·exact⟨Int.tmod_nonneg _ (by omega),Int.tmod_lt_of_pos _ (by omega)⟩
 ·exact⟨Int.tmod_nonneg _ (by omega),Int.tmod_lt_of_pos _ (by omega)⟩
structure IsRow (d:D) (xs:List Int):Prop where
 len : ∀ σ,V.len σ .sl (.dat d)=some xs.length
 at_ : ∀ i:Int,0<=i->i<xs.length->qah 1 (.dat d) i=some (.dat (.imm (intsC xs) i.toNat))
 one:V.one (.dat d)=true
 cells:V.cells (.dat d)=[.dat d]
theorem qiV (xs:List Int) (f:Bool):IsRow (.sl (intsC xs) xs.length f) xs where
 len:=fun _=>rfl
 at_:=fun i h0 h1=>by simp[qah,h0,h1]
 one:=rfl
 cells:=rfl
theorem qie (o:Option Addr):IsRow (.lit (.slice o 0 0)) [] where
 len:=fun _=>rfl
 at_:=fun i h0 h1=>by simp at h1; omega
 one:=rfl
 cells:=rfl
theorem qa1 {prog:Nat->Option PFun} {k:Nat} {b:PC} {fr fr':Fr} {σ σ':S} (h:gcF k fr σ = gcF k fr' σ'):Z prog (.loop k b fr σ)=Z prog (.loop k b fr' σ'):=by
 rw[qao,qao,h]
@[simp] theorem qlX:Fr.noD []=[]:=rfl
@[simp] theorem qlF (k:Nat) (v:V) (r:Fr):Fr.noD ((k,v)::r)=if k=1000000 then Fr.noD r else (k,v)::Fr.noD r:=by
 simp only[Fr.noD,List.filter_cons,dkey]
 by_cases h:k=1000000<;>simp[h]
end Go.Pm
end SW2
section SX1
namespace Go.Pm
theorem qkr {d:D} {xs:List Int} (h:RowV d xs):IsRow d xs:=by
 rcases h with ⟨o,rfl,rfl⟩ | rfl
 ·exact qie o
 ·exact qiV xs false
theorem wf_i64 {n:Int} (h:(Lit.int .i64 n).wf=true):I64 n:=by
 simp only[Lit.wf,Bool.and_eq_true,decide_eq_true_eq] at h
 have e1:IntKind.i64.min = -9223372036854775808:=by decide
 have e2:IntKind.i64.max=9223372036854775807:=by decide
 unfold I64
 omega
theorem qlW {w:World} {a:Option Addr} {len cap:Nat} {zs:List Int}
  (h:(a=none/\len=0/\cap=0/\zs=[]) \/ ∃ x,a=some x/\len<=cap/\cap<=maxLen/\zs.length=cap/\(∀ i,i<zs.length->w.cell? (x.add i)=some (.int .i64 (zs.getD i 0))) /\ ∀ n∈zs,(Lit.int .i64 n).wf=true) :
  (zs.take len).length<=9223372036854775807:=by
 rcases h with ⟨rfl,rfl,rfl,rfl⟩ | ⟨x,rfl,h1,h2,h3,h4,h5⟩
 ·simp
 ·have e:maxLen<=9223372036854775807:=by decide
  rw[List.length_take]
  omega
theorem qlE (fid:Fid) (w:World) (b:Bool):Rep fid (qcT w) (.bool b) (.bool b):=⟨rfl,rfl⟩
end Go.Pm
end SX1
section SX3
namespace Go.Pm
open Go
theorem qmG (fid:Fid) (w:World) (s:ByteArray):Rep fid (qcT w) (.str s) (.string s):=⟨rfl,rfl⟩
theorem qlH (fid:Fid) (w:World) (n:Int):Rep fid (qcT w) (.dat (.lit (.int .u8 n))) (.int .u8 n):=⟨rfl,rfl⟩
theorem qng {n:Int} (h:(Lit.int .u8 n).wf=true) : ∃ c:Nat,c<256/\n=c:=by
 have:0<=n/\n<256:=by
  simp only[Lit.wf,Bool.and_eq_true,decide_eq_true_eq] at h
  have e1:IntKind.u8.min=0:=by decide
  have e2:IntKind.u8.max=255:=by decide
  omega
 exact⟨n.toNat,by omega,by omega⟩
end Go.Pm
end SX3
section SFX
namespace Go.Pm.F
@[simp] abbrev sN:D := .lit (.slice none 0 0)
@[simp] abbrev eN:D := .lit (.string ⟨#[]⟩)
@[simp] abbrev zN:D := .lit (.int .i64 0)
@[simp] abbrev ii (n:Int):D := .lit (.int .i64 n)
@[simp] abbrev kk (n:Int):X := .c (.int .i64 n)
@[simp] abbrev kT:X := .c (.bool true)
@[simp] abbrev kF:X := .c (.bool false)
@[simp] abbrev jj (d:Nat) (o:O):I:=⟨some d,o,none,[]⟩
@[simp] abbrev jn (o:O):I:=⟨none,o,none,[]⟩
@[simp] abbrev jt (d g:Nat) (o:O):I:=⟨some d,o,some (g,true),[]⟩
@[simp] abbrev jf (d g:Nat) (o:O):I:=⟨some d,o,some (g,false),[]⟩
@[simp] abbrev mv (d a:Nat):I:=⟨some d,.mov (.t a),none,[]⟩
@[simp] abbrev mx (d:Nat) (x:X):I:=⟨some d,.mov x,none,[]⟩
@[simp] abbrev l1 (d a:Nat):I:=⟨some d,.load false 1 (.t a),none,[]⟩
@[simp] abbrev la (d n a:Nat):I:=⟨some d,.load true n (.t a),none,[]⟩
@[simp] abbrev fa (d o a:Nat):I:=⟨some d,.fieldAddr o (.t a),none,[]⟩
@[simp] abbrev nc (d a:Nat):I:=⟨some d,.nilchk (.t a),none,[]⟩
@[simp] abbrev bx (d a:Nat):I:=⟨some d,.box (.t a),none,[]⟩
@[simp] abbrev ex (d a n:Nat):I:=⟨some d,.extract (.t a) n,none,[]⟩
@[simp] abbrev ls (d a:Nat):I:=⟨some d,.len .sl (.t a),none,[]⟩
@[simp] abbrev lz (d a:Nat):I:=⟨some d,.len .str (.t a),none,[]⟩
@[simp] abbrev bn (d:Nat) (o:BinOp) (a b:Nat):I:=⟨some d,.bin o (.t a) (.t b),none,[]⟩
@[simp] abbrev bk (d:Nat) (o:BinOp) (a:Nat) (n:Int):I:=⟨some d,.bin o (.t a) (.c (.int .i64 n)),none,[]⟩
@[simp] abbrev st (n a b:Nat):I:=⟨none,.store n (.t a) (.t b),none,[]⟩
@[simp] abbrev cl (d f:Nat) (xs:List Nat):I:=⟨some d,.call f (xs.map .t),none,[]⟩
@[simp] abbrev rn (ops:List I) (keep:List Nat) (lasts:List Nat:=[]):PC := .region none ops keep lasts
end Go.Pm.F
end SFX
section SF01
namespace Go.Pm.F
variable (C:Task->Option Res) (q:Nat) (fr:Fr) (σ : S)
def F17:PFun:=⟨2,[.tmp 4],.seq (rn [mx 4 (kk 0)] [0,1]) (.seq (.seq (rn [mv 5 0,bk 6 .lss 5 0] [0,1,6]) (.cond (.t 6) (rn [mv 7 0,bk 8 .add 7 1,jj 9 (.un .neg (.t 8)),mv 0 9] [0,1]) (.skip))) (.seq (rn [mv 10 0,mv 11 1,bn 12 .rem 10 11,mv 4 12] [4]) (.ret))),false,false,false⟩
@[simp] def F20l0x:PC:=(.seq (.seq (rn [mv 10 5,bk 11 .neq 10 0] [0,3,4,5,11]) (.cond (.t 11) (.skip) (.exit 0))) (.seq (.block 1 (.seq (rn [mv 14 5,bk 15 .rem 14 10,mv 6 15] [0,3,4,5,6]) (.seq (.seq (rn [mv 16 6,bk 17 .lss 16 0] [0,3,4,5,6,17]) (.cond (.t 17) (rn [mv 18 6,jj 19 (.un .neg (.t 18)),mv 6 19] [0,3,4,5,6]) (.skip))) (rn [mv 20 3,mv 21 6,mv 22 6,bk 23 .add 22 1,jj 24 (.sliceS (.t 20) (some (.t 21)) (some (.t 23))),mv 25 4,bn 26 .add 24 25,mv 4 26] [0,3,4,5])))) (rn [mv 12 5,bk 13 .quo 12 10,mv 5 13] [0,3,4,5])))
def F20l0:PC:=F20l0x
def F20:PFun:=⟨1,[.tmp 2],.seq (rn [jj 2 (.mov (.c (.string ⟨#[]⟩)))] [0]) (.seq (.seq (rn [mv 7 0,bk 8 .eql 7 0] [0,8]) (.cond (.t 8) (.seq (rn [jj 2 (.mov (.c (.string ⟨#[48]⟩)))] [2]) (.ret)) (.skip))) (.seq (rn [jj 3 (.mov (.c (.string ⟨#[48,49,50,51,52,53,54,55,56,57]⟩)))] [0,3]) (.seq (rn [jj 4 (.mov (.c (.string ⟨#[]⟩)))] [0,3,4]) (.seq (.seq (rn [mv 9 0,mv 5 9] [0,3,4,5]) (.block 0 (.loop F20l0))) (.seq (.seq (rn [mv 27 0,bk 28 .lss 27 0] [4,28]) (.cond (.t 28) (.seq (rn [mv 29 4,jj 30 (.bin .add (.c (.string ⟨#[45]⟩)) (.t 29)),mv 2 30] [2]) (.ret)) (.skip))) (.seq (rn [mv 31 4,mv 2 31] [2]) (.ret))))))),false,false,false⟩
@[simp] def F58l0x:PC:=(.seq (.seq (rn [mv 11 5,mv 12 0,ls 13 12,bn 14 .lss 11 13] [0,1,5,14]) (.cond (.t 14) (.skip) (.exit 0))) (.seq (.block 1 (.seq (.region (some []) [mv 17 0,mv 18 5,jj 19 (.indexAddr 1 (.t 17) (.t 18)),l1 20 19,mv 21 1,mv 22 5,jj 23 (.indexAddr 1 (.t 21) (.t 22)),l1 24 23,bn 25 .neq 20 24] [0,1,5,25]) (.cond (.t 25) (.seq (rn [mx 4 kF] [4]) (.ret)) (.skip)))) (rn [mv 15 5,bk 16 .add 15 1,mv 5 16] [0,1,5])))
def F58l0:PC:=F58l0x
def F58:PFun:=⟨2,[.tmp 4],.seq (rn [mx 4 kF] [0,1]) (.seq (.seq (rn [mv 6 0,ls 7 6,mv 8 1,ls 9 8,bn 10 .neq 7 9] [0,1,10]) (.cond (.t 10) (.seq (rn [mx 4 kF] [4]) (.ret)) (.skip))) (.seq (.seq (rn [mx 5 (kk 0)] [0,1,5]) (.block 0 (.loop F58l0))) (.seq (rn [mx 4 kT] [4]) (.ret)))),false,false,false⟩
end Go.Pm.F
end SF01
