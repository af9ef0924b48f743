/- Ties of a program's functions: what a compiled function keeps stands in it; a numbering as a list of pairs. -/
import Derived.Test.YtlllpifkcpijiaaGreatDoorPmR
set_option linter.unusedSimpArgs false
set_option linter.unusedVariables false
namespace Go.Pm
section
def PC.ks:PC->Code->List (Nat × List Nat)
 |.region _ _ k _,.region id _ _=>[(id,k)]
 |.seq a b,.seq x y=>a.ks x++b.ks y
 |.cond _ a b,.cond _ x y=>a.ks x++b.ks y
 |.range _ _ a b,.rangeFunc _ _ x y=>a.ks x++b.ks y
 |.block _ a,.block _ x=>a.ks x
 |.loop a,.loop x=>a.ks x
 |_,_=>[]
def PFun.ks(F:PFun)(f:Func)(i:Nat):List Nat:=match f.body with
 |some c=>match (F.body.ks c).find? fun x=>x.1==i with
  |some x=>if F.df then x.2.tail else x.2
  |none=>[]
 |none=>[]
theorem tq{P:Program}{ids:Ids}{n:FuncId}{F:PFun}{f:Func}(ow:Bool)(h:P.funcs[n]?=some f)(e:compF P ids (F.ks f) F.noseal ow F.df F.catches f=some F) : ∃ fn K ns ow df,P.funcs[n]?=some fn/\compF P ids K ns ow df F.catches fn=some F:=⟨f,_,_,ow,_,h,e⟩
def toL(l:List (Nat × Nat))(f:Nat):Option Nat:=(l.find? fun x=>x.1==f).map (·.2)
def ofL(l:List (Nat × Nat))(g:Nat):Nat:=((l.find? fun x=>x.2==g).map (·.1)).getD 0
theorem prs{l:List (Nat × Nat)}(h:(l.all fun x=>ofL l x.2==x.1)=true){f g:Nat}(e:toL l f=some g):ofL l g=f:=by
 unfold toL at e
 cases hx:l.find? (fun x=>x.1==f) with
 |none=>rw[hx] at e; cases e
 |some x=>
  rw[hx] at e
  have h1:=List.find?_some hx
  have h2:=List.all_eq_true.1 h x (List.mem_of_find?_eq_some hx)
  simp only[Option.map_some,Option.some.injEq,beq_iff_eq] at e h1 h2
  rw[<- e,h2,h1]
end
end Go.Pm
