/- Walks of functions by unfolding over abstract states; runs of functions by an evaluator that is proved. By an AI agent. -/
import Derived.Test.YtkhjcnjicjgfiaaGreatDoorWO10
set_option linter.unusedSimpArgs false
set_option linter.unusedVariables false
namespace Go.Am
open Go Go.RowKit Go.Lib
def u6:Value→Bool
  |.nilIface=>true
  |_=>false
def Ob:Value→Bool
  |.nilIface=>true
  |.iface _ _=>true
  |_=>false
section
variable {P : Program} {N : Nat} {o : Oper} {acc : Tk} {sl : SL} {m : ML} {R : Rest}
theorem aN.kg {ty ty':TypeId}{ms:Array (String×TypeId)}{x:Operand}{v:Value}(r:Bool)(hu:P.underlying ty=some (.interface ms))(ho:o.op=.binOp .eql ty x (.const .nilIface) ty')(hx:eM sl x=.lit v)(hv:Ob v=true)(hr:u6 v=r)(hd:j9 N o.dst=true)(h:R [] (.lit (.bool r)) [] acc sl m):aN P N acc sl m (o:=o) (R:=R):=by
  rw[dD] at hx
  subst hr
  refine⟨[],.lit (.bool (u6 v)),[],?_,h⟩
  refine .val (fun σ2 he2 hrd w0 W0 L μ a' w hs=>⟨.bool (u6 v),?_,.lit⟩) (gq hd)
  have k1:=hs.eval x
  rw[he2 x (by simp[ho,Op.operands]),eX,hx] at k1
  have hx':=k1.val
  match v,hv with
  | .nilIface,_=>
    simp only[execOp,ho,hx',eqGuard,binOp,Op.equal]
    rw[show Op.maxDepth=9999+1 from rfl]
    unfold Op.equalIn
    simp[run_underlying hu,Act.eval,u6]
  | .iface _ _,_=>
    simp only[execOp,ho,hx',eqGuard,binOp,Op.equal]
    rw[show Op.maxDepth=9999+1 from rfl]
    unfold Op.equalIn
    simp[run_underlying hu,Act.eval,u6]
theorem aN.kK {ty ty':TypeId}{ms:Array (String×TypeId)}{x:Operand}{v:Value}(r:Bool)(hu:P.underlying ty=some (.interface ms))(ho:o.op=.binOp .neq ty x (.const .nilIface) ty')(hx:eM sl x=.lit v)(hv:Ob v=true)(hr:(!u6 v)=r)(hd:j9 N o.dst=true)(h:R [] (.lit (.bool r)) [] acc sl m):aN P N acc sl m (o:=o) (R:=R):=by
  rw[dD] at hx
  subst hr
  refine⟨[],.lit (.bool (!u6 v)),[],?_,h⟩
  refine .val (fun σ2 he2 hrd w0 W0 L μ a' w hs=>⟨.bool (!u6 v),?_,.lit⟩) (gq hd)
  have k1:=hs.eval x
  rw[he2 x (by simp[ho,Op.operands]),eX,hx] at k1
  have hx':=k1.val
  match v,hv with
  | .nilIface,_=>
    simp only[execOp,ho,hx',eqGuard,binOp,Op.equal]
    rw[show Op.maxDepth=9999+1 from rfl]
    unfold Op.equalIn
    simp[run_underlying hu,Act.eval,u6]
  | .iface _ _,_=>
    simp only[execOp,ho,hx',eqGuard,binOp,Op.equal]
    rw[show Op.maxDepth=9999+1 from rfl]
    unfold Op.equalIn
    simp[run_underlying hu,Act.eval,u6]
end
end Go.Am
