/- Rows of cells inside a fence; conditions: each lemma's own. -/
import Derived.OwnWalkIn
import Derived.Test.YtfammloeljmplaaGreatDoorZ3
open Go.Value renaming pointer->TZ,agg->T1
open Go.Obj renaming cells->Ua
open Go renaming World->Ub,Value->Uc
namespace Go.Proofs.YtfammloeljmplaaGreatDoor
set_option maxRecDepth 100000
set_option maxHeartbeats 8000000
set_option linter.unusedVariables false
set_option linter.unusedSimpArgs false
section
open Go.RowKit
theorem mJ{F:Fence}{n:Nat}{P:Program}{b:Array Oper}{rest:List Oper}{o:Oper}{a:Act}{w w':Ub}{Q:Exit->Act->Ub->Prop}(j:o.guard=none)(l:∀c,o.op≠ .call c)(i:∀c,o.op≠ .defer c)
  (v:Uc)(d:(execOp a.eval o).run P w=.ok (.value v) w')(h:wpListIn F n P b Q rest (a.put o.dst v) w'):wpListIn F n P b Q (o::rest) a w:=by
 refine wpListIn_plain j fun K k=>⟨?_,?_⟩
 ·intro f g;unfold Oper.about at g;split at g
  ·rename_i c e;exact absurd e (l c)
  cases g
 rw[Oper.semAt_plain F _ _ i,d];exact k _ _ h
theorem Aj{F:Fence}{n:Nat}{P:Program}{b:Array Oper}{rest:List Oper}{o:Oper}{a:Act}{w w':Ub}{Q:Exit->Act->Ub->Prop}(j:o.guard=none)(l:∀c,o.op≠ .call c)(i:∀c,o.op≠ .defer c)
  (d:(execOp a.eval o).run P w=.ok .skip w')(h:wpListIn F n P b Q rest (a.put o.dst undef) w'):wpListIn F n P b Q (o::rest) a w:=by
 refine wpListIn_plain j fun K k=>⟨?_,?_⟩
 ·intro f g;unfold Oper.about at g;split at g
  ·rename_i c e;exact absurd e (l c)
  cases g
 rw[Oper.semAt_plain F _ _ i,d];exact k _ _ h
theorem nE{F:Fence}{n:Nat}{P:Program}{e:Array Oper}{rest:List Oper}{o:Oper}{a:Act}{w:Ub}{Q:Exit->Act->Ub->Prop}(f:o.guard=none)(ty:TypeId)(x y:Operand)(i:o.op=.store ty x y)
  (g:Nat)(cells:Array Uc)(q:a.eval x=TZ (some ⟨g,0,none⟩))(m:a.eval y=T1 cells)
  (t:TypeId)(b:Array Uc)(k:w.heap[g]? =some (Ua b t (0,0)))(p:(P.info? ty).map (·.size)=some cells.size)
  (d:b.size=cells.size)(l:cells.all (·.oneCell')=true)
  (h:wpListIn F n P e Q rest (a.put o.dst undef) (w.setRow g cells)):wpListIn F n P e Q (o::rest) a w:=by
 refine Aj f (by rw[i];intro c j;cases j) (by rw[i];intro c j;cases j) ?_ h;unfold execOp;simp only[i,q,m,Instr.storeAt,Instr.sureAddr,aY,jF,bd,run_storeVar_row w g t ty b cells k p d l]
theorem oq{F:Fence}{n:Nat}{P:Program}{b:Array Oper}{rest:List Oper}{o:Oper}{a:Act}{w:Ub}{Q:Exit->Act->Ub->Prop}(e:o.guard=none)(ty:TypeId)(x:Operand)(f:o.op=.load ty x)
  (g:Nat)(p:a.eval x=TZ (some ⟨g,0,none⟩))(t:TypeId)(cs:Array Uc)(fr:Nat×Nat)(d:TypeDesc)(k:w.heap[g]? =some (Ua cs t fr))
  (l : P.underlying ty = some d) (j : (match d with | .struct _ | .array _ _ => true | _ => false) = true) (m : (P.info? ty).map (·.size) = some cs.size)
  (h:wpListIn F n P b Q rest (a.put o.dst (T1 cs)) w):wpListIn F n P b Q (o::rest) a w:=by
 refine mJ e (by rw[f];intro c i;cases i) (by rw[f];intro c i;cases i) (T1 cs) ?_ h;unfold execOp;simp only[f,p,Instr.loadAt,Instr.sureAddr,aY,jF,bd,kQ w g t ty cs fr d k l j m]
theorem rX{F:Fence}{n:Nat}{P:Program}{b:Array Oper}{rest:List Oper}{o:Oper}{a:Act}{w:Ub}{Q:Exit->Act->Ub->Prop}(e:o.guard=none)(ty:TypeId)(f:o.op=.alloc ty)(i:TypeInfo)(k:P.info? ty=some i)(z:Uc)(j:i.zero=some z)
  (h:wpListIn F n P b Q rest (a.put o.dst (TZ (some ⟨w.heap.size,0,none⟩))) (w.alloc (Ua z.cells ty))):wpListIn F n P b Q (o::rest) a w:=by
 have d:(zeroValue ty).run P w=.ok z w:=by
  unfold zeroValue;simp only[aY,run_typeInfo w k,bd,j,jF]
 refine mJ e (by rw[f];intro c g;cases g) (by rw[f];intro c g;cases g) (TZ (some ⟨w.heap.size,0,none⟩)) (w':=w.alloc (Ua z.cells ty)) ?_ h;unfold execOp;simp only[f,Instr.alloc,aY,d,bd];simp[go_sem]
theorem yY{F:Fence}{n:Nat}{P:Program}{b:Array Oper}{rest:List Oper}{o:Oper}{a:Act}{w:Ub}{Q:Exit->Act->Ub->Prop}(e:o.guard=none)(t:TypeId)(parts:Array (Nat×Operand))(f:o.op=.build t parts)
  (vals:List (Nat×Uc))(hv:(parts.map fun(i,x)=>(i,a.eval x)).toList=vals)(cells:Array Uc)(d:P.built t vals=some cells)
  (h:wpListIn F n P b Q rest (a.put o.dst (T1 cells)) w):wpListIn F n P b Q (o::rest) a w:=by
 refine mJ e (by rw[f];intro c d;cases d) (by rw[f];intro c d;cases d) (T1 cells) ?_ h;unfold execOp;simp only[f,aY,run_build w t _ cells (by rw[hv];exact d),bd];rfl
end
end Go.Proofs.YtfammloeljmplaaGreatDoor
