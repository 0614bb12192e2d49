/- Models, plain laws and contracts of functions of the given program; conditions as stated in each theorem. By an AI agent. -/
import Derived.Test.YtkhjcnjicjgfiaaGreatDoorWO13
import Derived.Test.YtkhjcnjicjgfiaaGreatDoorWO5
import Derived.Test.YtkhjcnjicjgfiaaGreatDoorRows
import Derived.ProofKit
import Derived.LaidMore
import Derived.OpenShut
import Derived.Stop.Joined
import Derived.Lib.LaidTab
import Derived.MakeChecks
set_option linter.unusedSimpArgs false
set_option linter.unusedVariables false
namespace Go.Proofs.Heir
open Go Go.Am Go.RowKit Go.Lib
set_option maxRecDepth 100000
set_option maxHeartbeats 8000000
theorem Gz:Reads Tryz.prog 9 1 cu (fun s=>s.size≤maxLen):=Reads.str Tryz.underlying9 (by kernel_rfl)
theorem Bw:Reads Tryz.prog 3 1 bV (fun _=>True):=(Reads.int Tryz.underlying3 (by kernel_rfl)).conv id id (fun _=>rfl) (fun _=>rfl) (fun _ _=>trivial)
theorem Mh:Reads Tryz.prog 90 2 dI (fun _=>True):=
 (Reads.struct (l:=[(0,9),(1,9)]) Tryz.underlying90 (by kernel_rfl) rfl (.cons Gz (.cons Gz .nil))).conv
  (fun(a,b,_)=>⟨a,b⟩) (fun t=>(t.name,t.value,())) (fun _=>rfl) (fun _=>rfl) (fun _ _=>trivial)
theorem HX:Reads Tryz.prog 32 1 dG (fun _=>True):=(Reads.slice Tryz.underlying32 (by kernel_rfl) Mh (by omega)).conv id id (fun _=>rfl) (fun _=>rfl) (fun _ _=>trivial)
theorem LF:Reads Tryz.prog 33 1 cF (fun _=>True):=(Reads.slice Tryz.underlying33 (by kernel_rfl) Bw (by omega)).conv id id (fun _=>rfl) (fun _=>rfl) (fun _ _=>trivial)
theorem MQ:Reads Tryz.prog 35 10 bJ (fun _=>True):=
 (Reads.struct (l:=[(0,3),(1,9),(2,9),(3,9),(4,32),(5,3),(6,33),(7,3),(8,3),(9,3)]) Tryz.underlying35 (by kernel_rfl) rfl
  (.cons Bw (.cons Gz (.cons Gz (.cons Gz (.cons HX (.cons Bw (.cons LF (.cons Bw (.cons Bw (.cons Bw .nil))))))))))).conv
  (fun(a,b,c,d,e,f,g,h,i,j,_)=>⟨a,b,c,d,e,f,g,h,i,j⟩)
  (fun t=>(t.kind,t.name,t.is,t.data,t.attrs,t.parent,t.kids,t.host,t.under,t.doc,())) (fun _=>rfl) (fun _=>rfl) (fun _ _=>trivial)
theorem IC:Reads Tryz.prog 22 1 rE (fun _=>True):=(Reads.slice Tryz.underlying22 (by kernel_rfl) MQ (by omega)).conv id id (fun _=>rfl) (fun _=>rfl) (fun _ _=>trivial)
theorem Nc:Reads Tryz.prog 24 2 aY (fun _=>True):=
 (Reads.struct (l:=[(0,22),(1,3)]) Tryz.underlying24 (by kernel_rfl) rfl (.cons IC (.cons Bw .nil))).conv
  (fun(a,b,_)=>⟨a,b⟩) (fun t=>(t.nodes,t.most,())) (fun _=>rfl) (fun _=>rfl) (fun _ _=>trivial)
theorem laid:Go.laidOutB Tryz.prog=true:=by kernel_rfl
abbrev kM:List (String×DataW Unit):=[("errors.errorType",Go.Proofs.YtkhjcnjicjgfiaaGreatDoor.Rows.laid_errors_errorType)]
theorem E9 (os:Os)(args:Array Value):laidMetH Tryz.prog kM ((World.doorLaid Tryz.prog 33 os).forCall (fun _ _=>0) ⟨#[],args,[]⟩).memory:=
 laidMetH_of_parts3 (fuel:=8) (laidMet_of_run' 8 (by kernel_rfl) (by kernel_rfl)) (by kernel_rfl) (by kernel_rfl)
theorem xd {W:World}(h:laidMetH Tryz.prog kM W):jG Tryz.prog W fun _=>none:=by
 refine⟨fun g hg=>(by rw[show Tryz.prog.globalNamed "no such variable" =none by kernel_rfl] at hg;cases hg),fun g hg=>?_⟩
 have h':handlesMet Tryz.prog kM W:=h.2
 have h0:=h' _ (gg.2 rfl)
 have h1:∃name u ty,(DataW.handleName? (Go.Proofs.YtkhjcnjicjgfiaaGreatDoor.Rows.laid_errors_errorType:DataW Unit))=some name∧(Tryz.prog.cutTypes.find? (·.1== "internal/reflectlite.rtype")).map (·.2)=some u∧ty<Tryz.prog.types.size∧Tryz.prog.rowNamed ty name=true∧
   W.var? Tryz.prog "errors.errorType" =some #[.iface u (.agg #[typeHandle Tryz.prog ty])]:=h0
 obtain⟨name,u,ty,k1,k2,k3,k4,k5⟩:=h1
 obtain rfl:[101,114,114,111,114]=name:=Option.some.inj k1
 have e:g=0:=Option.some.inj (hg.symm.trans (by kernel_rfl))
 subst e
 unfold World.var? at k5
 rw[hg] at k5
 simp only[Option.bind_some] at k5
 refine⟨(by rintro⟨_,_,h,_⟩;cases h),?_,_,⟨u,ty,k2,k3,k4,rfl⟩,?_⟩
 · split at k5
   ·rename_i hh;exact(Array.getElem?_eq_some_iff.1 hh).1
   ·cases k5
 · split at k5
   · rename_i cs _ _ hh
     obtain rfl:cs=_:=Option.some.inj k5
     simp[World.cell?,hh]
   ·cases k5
end Go.Proofs.Heir
