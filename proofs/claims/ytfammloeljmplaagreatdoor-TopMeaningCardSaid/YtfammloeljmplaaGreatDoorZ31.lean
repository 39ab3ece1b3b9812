/- Compaction in plain Lean; conditions: each lemma's own. -/
import Derived.Lib.SlicesCompact
import Derived.Test.YtfammloeljmplaaGreatDoorZ0
namespace Go.Proofs.YtfammloeljmplaaGreatDoor
set_option maxRecDepth 100000
set_option maxHeartbeats 8000000
set_option linter.unusedVariables false
set_option linter.unusedSimpArgs false
section
def nJ:Cd->List Cd->List Cd
 | _, [] => []
 |p,a::t=>if p=a then nJ a t else a::nJ a t
theorem sy:∀(l:List Cd) (a:Cd),dE (a::l)=a::nJ a l
 |[],a=>by simp[dE,nJ]
 |b::t,a=>by
  rw[show dE (a::b::t)=if a=b then dE (b::t)else a::dE (b::t) from rfl,sy t b,show nJ a (b::t)=if a=b then nJ b t else b::nJ b t from rfl];by_cases h:a=b
  ·subst h;simp
  rw[af h,af h]
def Fm:Cd->List Cd->Cd
 |p,[]=>p
 | _, a :: t => Fm a t
theorem zh:∀(l:List Cd) (p x:Cd),nJ p (l++[x])=nJ p l++if Fm p l=x then[]else[x]
 |[],p,x=>by
  show(if p=x then[]else[x])=[]++if p=x then[]else[x]
  simp
 |a::t,p,x=>by
  show(if p=a then nJ a (t++[x])else a::nJ a (t++[x]))=(if p=a then nJ a t else a::nJ a t)++if Fm a t=x then[]else[x]
  rw[zh t a x];by_cases h:p=a
  ·rw[aj h,aj h]
  rw[af h,af h];rfl
theorem BW:∀(l:List Cd) (p:Cd),Fm p l=(p::l).getD l.length default
 |[],p=>rfl
 |a::t,p=>by
  show Fm a t=_
  rw[BW t a];simp
theorem uz(a:Cd)(l:List Cd):∀m,m<=l.length->Lib.compactUpTo (a::l).toArray (m+1)=a::nJ a (l.take m)
 |0,_=>by
  rw[Lib.compactUpTo_succ];simp[Lib.compactUpTo,Lib.keeps,nJ]
 |m+1,h=>by
  rw[Lib.compactUpTo_succ,uz a l m (by omega)];have c:m<l.length:=by omega
  have f:l.take (m+1)=l.take m++[l[m]]:=dy c;rw[f,zh,BW];have e1:(a::l).toArray[m+1]! =l[m]:=by
   rw[gF _ _ (by simp;omega)];simp
  have e2:(a::l).toArray[m+1 - 1]! =(a::l.take m).getD (l.take m).length default:=by
   have d:(l.take m).length=m:=by simp;omega
   rw[d,F5,gF _ _ (by simp;omega),aa];cases m with
   |zero=>simp
   |succ j=>simp[eS,show j<l.length by omega]
  unfold Lib.keeps;rw[e1,e2];by_cases b:(a::l.take m).getD (l.take m).length default=l[m]
  ·rw[aj b,b];simp
  rw[af b];simp only[ne_eq,Nat.add_eq_zero_iff,Nat.one_ne_zero,and_false,false_or,aV];rw[aj (fun e=>b e.symm)];rfl
theorem CZ(l:List Cd):dE l=Lib.compact l:=by
 cases l with
 |nil=>rfl
 |cons a t=>
  rw[sy];unfold Lib.compact;rw[show(a::t).length=t.length+1 from rfl,uz a t t.length (ae _),iW]
end
end Go.Proofs.YtfammloeljmplaaGreatDoor
