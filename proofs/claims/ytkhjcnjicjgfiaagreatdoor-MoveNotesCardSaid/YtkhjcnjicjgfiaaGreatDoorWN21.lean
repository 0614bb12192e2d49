/- Walks of functions by unfolding over abstract states; runs of functions by an evaluator that is proved. By an AI agent. -/
import Derived.Test.YtkhjcnjicjgfiaaGreatDoorWN10
set_option linter.unusedSimpArgs false
set_option linter.unusedVariables false
namespace Go.Am
open Go Go.RowKit Go.Lib
def uO:Value→Bool
  |.nilIface=>true
  |_=>false
def Mg:Value→Bool
  |.nilIface=>true
  |.iface _ _=>true
  |_=>false
section
variable {P : Program} {N : Nat} {o : Oper} {acc : Tk} {sl : SL} {m : ML} {R : Rest}
theorem aW.lu {ty ty':TypeId}{ms:Array (String×TypeId)}{x:Operand}{v:Value}(r:Bool)(hu:P.underlying ty=some (.interface ms))(ho:o.op=.binOp .eql ty x (.const .nilIface) ty')(hx:eZ sl x=.lit v)(hv:Mg v=true)(hr:uO v=r)(hd:kZ N o.dst=true)(h:R [] (.lit (.bool r)) [] acc sl m):aW P N acc sl m (o:=o) (R:=R):=by
  rw[dG] at hx
  subst hr
  refine⟨[],.lit (.bool (uO v)),[],?_,h⟩
  refine .val (fun σ2 he2 hrd w0 W0 L μ a' w hs=>⟨.bool (uO v),?_,.lit⟩) (iw hd)
  have k1:=hs.eval x
  rw[he2 x (by simp[ho,Op.operands]),fA,hx] at k1
  have hx':=k1.val
  match v,hv with
  | .nilIface,_=>
    simp only[execOp,ho,hx',eqGuard,binOp,Op.equal]
    rw[show Op.maxDepth=9999+1 from rfl]
    unfold Op.equalIn
    simp[run_underlying hu,Act.eval,uO]
  | .iface _ _,_=>
    simp only[execOp,ho,hx',eqGuard,binOp,Op.equal]
    rw[show Op.maxDepth=9999+1 from rfl]
    unfold Op.equalIn
    simp[run_underlying hu,Act.eval,uO]
theorem aW.kS {ty ty':TypeId}{ms:Array (String×TypeId)}{x:Operand}{v:Value}(r:Bool)(hu:P.underlying ty=some (.interface ms))(ho:o.op=.binOp .neq ty x (.const .nilIface) ty')(hx:eZ sl x=.lit v)(hv:Mg v=true)(hr:(!uO v)=r)(hd:kZ N o.dst=true)(h:R [] (.lit (.bool r)) [] acc sl m):aW P N acc sl m (o:=o) (R:=R):=by
  rw[dG] at hx
  subst hr
  refine⟨[],.lit (.bool (!uO v)),[],?_,h⟩
  refine .val (fun σ2 he2 hrd w0 W0 L μ a' w hs=>⟨.bool (!uO v),?_,.lit⟩) (iw hd)
  have k1:=hs.eval x
  rw[he2 x (by simp[ho,Op.operands]),fA,hx] at k1
  have hx':=k1.val
  match v,hv with
  | .nilIface,_=>
    simp only[execOp,ho,hx',eqGuard,binOp,Op.equal]
    rw[show Op.maxDepth=9999+1 from rfl]
    unfold Op.equalIn
    simp[run_underlying hu,Act.eval,uO]
  | .iface _ _,_=>
    simp only[execOp,ho,hx',eqGuard,binOp,Op.equal]
    rw[show Op.maxDepth=9999+1 from rfl]
    unfold Op.equalIn
    simp[run_underlying hu,Act.eval,uO]
end
end Go.Am
