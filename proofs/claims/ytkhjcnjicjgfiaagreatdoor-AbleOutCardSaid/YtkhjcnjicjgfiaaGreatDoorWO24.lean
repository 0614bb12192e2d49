/- Models, plain laws and contracts of functions of the given program; conditions as stated in each theorem. By an AI agent. -/
import Derived.Test.YtkhjcnjicjgfiaaGreatDoorWO22
import Derived.Test.YtkhjcnjicjgfiaaGreatDoorWO20
import Derived.Test.YtkhjcnjicjgfiaaGreatDoorWO23
import Derived.Test.YtkhjcnjicjgfiaaGreatDoorWO15
import Derived.Test.YtkhjcnjicjgfiaaGreatDoorWO12
import Derived.WalkKit
import Derived.LaidEql
import Derived.Stop.Asserts
import Derived.RowKitTokens
import Derived.Tactics
import Derived.Laws.Cells
set_option linter.unusedSimpArgs false
set_option linter.unusedVariables false
namespace Go.Proofs.Heir
open Go Go.Am Go.RowKit Go.Lib
set_option maxRecDepth 100000
set_option maxHeartbeats 8000000
theorem DB (l:List Int):jC [iX l]:=⟨bD.ia fun r hr=>by
  obtain⟨a,_,rfl⟩:=List.mem_map.1 hr
  rfl,ae l,trivial⟩
def zh (f:ForM)(n:Int):List Int:=jy (fun c=> !decide ((nd f.nodes c).kind=1)) (lU f n)
def NC (f:ForM)(n:Int):List Int:=List.replicate ((lU f n).length- (zh f n).length) 0
theorem Di (f:ForM)(hs:bE f.nodes)(n:Int)(e0:(aX f&&af f.nodes n)=true)(hl:(lU f n).length≤100000):an Tryz.prog 34 [] [aY f,aj n] [.live 1 ((zh f n++NC f n).map bV) false] (.own 0 0 (zh f n).length):=by
  have h82:=C6 f hs n e0
  have h81:=Iu (f:=f) (p:=fun c=> !decide ((nd f.nodes c).kind=1)) hl fun a ha=>KR f a (sY a ha)
  unfold NC
  rw[show jy (fun c=> !decide ((nd f.nodes c).kind=1)) (lU f n)=zh f n from rfl] at h81
  generalize lU f n=al at h82 h81 ⊢
  generalize zh f n=el at h81 ⊢
  obtain⟨l,m⟩:=f
  refine an.aF (rvs:=[.tmp 4]) G au Tryz.func34 rfl Tryz.ntmps34 rfl rfl ?_;with_reducible refine wD ?_
  repeat' (first
    |refine gK ?_
    | ((first
      |((with_reducible show aa _ _ 82 _ _ _ _);refine aa.new 71 [] h82 N4 ⟨⟨rfl,rfl,trivial⟩,rfl,trivial⟩ rfl rfl rfl (DB _) rfl ?_)
      |((with_reducible show aa _ _ 81 _ _ _ _);refine aa.dg (news:=[kU ⟨l,m⟩,iX (el++List.replicate (al.length-el.length) 0)]) [20,71] [] h81 Ow ⟨⟨rfl,rfl⟩,⟨rfl,trivial,⟨rfl,rfl⟩,trivial⟩,trivial⟩ ⟨⟨rfl,.inl ⟨rfl,rfl⟩⟩,⟨rfl,.inl ⟨rfl,ae _⟩⟩,trivial⟩ rfl ⟨⟨rfl,rfl⟩,rfl⟩ rfl ⟨⟨rfl,.inl ⟨rfl,rfl⟩⟩,⟨rfl,.inl ⟨rfl,ae _⟩⟩,trivial⟩ rfl rfl ?_)
      |((with_reducible show aL _ _ _ _);refine dK ?_))<;>with_reducible refine wK ?_)
    |((with_reducible show(_∧_)∧_∧_);(refine eK ?_ ?_<;>with_reducible repeat' (first|exact trivial|(show _∧_;refine aK ?_ ?_)))))
  all_goals first
    |rfl
    |exact Gi rfl
    |exact⟨.refl (ae _),ae _⟩
    |trace_state
end Go.Proofs.Heir
namespace Go.Proofs.Heir
open Go Go.Am Go.RowKit Go.Lib Go.Extern.Stop Go.Stop Go.Extern
set_option maxRecDepth 100000
set_option maxHeartbeats 8000000
theorem zE (t:Addr)(w:World):(ReflectliteValue.unpack (.iface 220 (.pointer (some t)))).run Tryz.prog w
    =.ok (.agg #[.pointer (some ⟨5,220,none⟩),.pointer (some ⟨w.heap.size,0,none⟩),.int .u64 150]) (w.alloc (.cells #[.pointer (some t)] 220)):=by kernel_rfl
theorem E7 (a:Addr)(w:World):(ReflectliteValue.methodAny (ReflectliteValue.valueError "reflectlite.Value.Type" 0) (fun t _ _ _=>ReflectliteType.toType t) #[.agg #[.pointer (some ⟨5,220,none⟩),.pointer (some a),.int .u64 150]]).run Tryz.prog w
    =.ok (.iface 264 (.agg #[.pointer (some ⟨5,220,none⟩)])) w:=by kernel_rfl
theorem uY (h:Value)(w:World):(Go.method 435 264 (.agg #[h]) "Kind").run Tryz.prog w=.ok (263,h) w:=by kernel_rfl
theorem EJ (w:World):((ReflectliteType.abiMethod fun t=>(fun a:Nat=>Value.int IntKind.u8 (a:Int))<$>Rtype.kind t) #[.pointer (some ⟨5,220,none⟩)]).run Tryz.prog w=.ok (.int .u8 22) w:=by kernel_rfl
theorem F6 (w:World):((ReflectliteType.abiMethod fun t=>(fun a:Nat=>Value.int IntKind.u8 (a:Int))<$>Rtype.kind t) #[.pointer (some ⟨5,176,none⟩)]).run Tryz.prog w=.ok (.int .u8 25) w:=by kernel_rfl
theorem F4 (z:Sem Value)(f:TypeId→Addr→Nat→Nat→Sem Value)(v:Value):
    ReflectliteValue.method z f #[v]=(do match ←ReflectliteValue.parts v with|none=>z|some (t,a,fl)=>f t a fl (fl%32)):=rfl
theorem vP (a:Addr)(w:World):(ReflectliteValue.parts (.agg #[.pointer (some ⟨5,220,none⟩),.pointer (some a),.int .u64 150])).run Tryz.prog w=.ok (some (220,a,150)) w:=by kernel_rfl
theorem Ez (a p:Addr)(W:World)(ha:W.cell? a=some (.pointer (some p))):
    (ReflectliteValue.method (ReflectliteValue.valueError "reflectlite.Value.IsNil" 0) ReflectliteValue.isNil #[.agg #[.pointer (some ⟨5,220,none⟩),.pointer (some a),.int .u64 150]]).run Tryz.prog W=.ok (.bool false) W:=by
  rw[F4]
  simp only[Sem.run_bind,vP,Result.andThen]
  simp[ReflectliteValue.isNil,loadVar,isAgg,underlying,Tryz.underlying220,ha,Result.andThen]
theorem u5 (h:Value)(w:World):(Go.method 435 264 (.agg #[h]) "Elem").run Tryz.prog w=.ok (276,.agg #[h]) w:=by kernel_rfl
theorem nU (h:Value)(w:World):(Go.method 435 264 (.agg #[h]) "Implements").run Tryz.prog w=.ok (277,.agg #[h]) w:=by kernel_rfl
theorem l8 (h:Value)(w:World):(Go.method 435 264 (.agg #[h]) "AssignableTo").run Tryz.prog w=.ok (274,.agg #[h]) w:=by kernel_rfl
theorem r4 (h:Value)(w:World):(Go.method 435 178 h "Unwrap").run Tryz.prog w=.ok (268,h) w:=by kernel_rfl
theorem Hp (w:World):(ReflectliteType.method ReflectliteType.elem #[.agg #[.pointer (some ⟨5,220,none⟩)]]).run Tryz.prog w=.ok (.iface 264 (.agg #[.pointer (some ⟨5,176,none⟩)])) w:=by kernel_rfl
theorem uK (w:World):(ReflectliteType.relation "Implements" ReflectliteType.implements_ #[.agg #[.pointer (some ⟨5,176,none⟩)],.iface 264 (.agg #[.pointer (some ⟨5,98,none⟩)])]).run Tryz.prog w=.ok (.bool true) w:=by kernel_rfl
theorem A5 (v:Value)(w:World):(ReflectliteType.typeOf #[.iface 176 v]).run Tryz.prog w=.ok (.iface 264 (.agg #[.pointer (some ⟨5,176,none⟩)])) w:=by kernel_rfl
theorem A9 (v:Value)(w:World):(ReflectliteType.typeOf #[.iface 178 v]).run Tryz.prog w=.ok (.iface 264 (.agg #[.pointer (some ⟨5,178,none⟩)])) w:=by kernel_rfl
theorem tT (w:World):(ReflectliteType.relation "AssignableTo" ReflectliteType.assignableTo #[.agg #[.pointer (some ⟨5,176,none⟩)],.iface 264 (.agg #[.pointer (some ⟨5,176,none⟩)])]).run Tryz.prog w=.ok (.bool true) w:=by kernel_rfl
theorem sW (w:World):(ReflectliteType.relation "AssignableTo" ReflectliteType.assignableTo #[.agg #[.pointer (some ⟨5,178,none⟩)],.iface 264 (.agg #[.pointer (some ⟨5,176,none⟩)])]).run Tryz.prog w=.ok (.bool false) w:=by kernel_rfl
theorem yN (e:Int)(w:World):(ReflectliteValue.unpack (.iface 176 (.agg #[.int .i64 e]))).run Tryz.prog w
    =.ok (.agg #[.pointer (some ⟨5,176,none⟩),.pointer (some ⟨w.heap.size,0,none⟩),.int .u64 153]) (w.alloc (.cells #[.int .i64 e] 176)):=by kernel_rfl
theorem BF (w:World):(Rtype.elem? 220).run Tryz.prog w=.ok (some 176) w:=by kernel_rfl
theorem LP (p:Addr)(w:World):(ReflectliteValue.mk 176 p ReflectliteValue.flagAddr).run Tryz.prog w=.ok (.agg #[.pointer (some ⟨5,176,none⟩),.pointer (some p),.int .u64 409]) w:=by kernel_rfl
theorem Ei (a p:Addr)(W:World)(ha:W.cell? a=some (.pointer (some p))):
    (ReflectliteValue.method (ReflectliteValue.valueError "reflectlite.Value.Elem" 0) ReflectliteValue.elem #[.agg #[.pointer (some ⟨5,220,none⟩),.pointer (some a),.int .u64 150]]).run Tryz.prog W
      =.ok (.agg #[.pointer (some ⟨5,176,none⟩),.pointer (some p),.int .u64 409]) W:=by
  rw[F4]
  simp only[Sem.run_bind,vP,Result.andThen]
  simp[ReflectliteValue.elem,loadVar,isAgg,underlying,Tryz.underlying220,ha,Result.andThen,BF,LP]
theorem LV (v x:Value):ReflectliteValue.set #[v,x]=(do
    let(some (dst,a,fl),some (src,b,_)):=(←ReflectliteValue.parts v,←ReflectliteValue.parts x)
      |unsupported (.noEntry "extern/(internal/reflectlite.Value).Set.zeroValue")
    if fl/ReflectliteValue.flagAddr%2==0 then unsupported (.noEntry "extern/(internal/reflectlite.Value).Set.unaddressable")
    let val ←loadVar src b
    if ←Rtype.directlyAssignable dst src then storeVar dst a val
    else if ←Rtype.implements dst src then
      if (←Rtype.kind src)==20 then
        match val with
        |.nilIface=>unsupported (.noEntry "extern/reflectlite: a nil value of one interface type handed on as a value of another")
        |_=>storeVar dst a val
      else storeVar dst a (.iface src val)
    else panicString ("reflectlite.Set: value of type " ++ (←Rtype.spelt src)++ " is not assignable to type " ++ (←Rtype.spelt dst))
    pure (.tuple #[])):=rfl
theorem BE (a:Addr)(w:World):(ReflectliteValue.parts (.agg #[.pointer (some ⟨5,176,none⟩),.pointer (some a),.int .u64 409])).run Tryz.prog w=.ok (some (176,a,409)) w:=by kernel_rfl
theorem DM (a:Addr)(w:World):(ReflectliteValue.parts (.agg #[.pointer (some ⟨5,176,none⟩),.pointer (some a),.int .u64 153])).run Tryz.prog w=.ok (some (176,a,153)) w:=by kernel_rfl
theorem AO (w:World):(Rtype.directlyAssignable 176 176).run Tryz.prog w=.ok true w:=by kernel_rfl
theorem E6 (b:Addr)(e:Int)(W:World)(hb:W.cell? b=some (.int .i64 e)):(loadVar 176 b).run Tryz.prog W=.ok (.agg #[.int .i64 e]) W:=by
  simp[loadVar,isAgg,underlying,Tryz.underlying176,Result.andThen,Addr.add]
  rw[run_loadCells W b 1 (fun _=>.int .i64 e) (fun j hj=>by rw[Nat.lt_one_iff.1 hj];simpa[Addr.add] using hb)]
  rfl
theorem I1 (ta b:Addr)(e:Int)(old:Value)(W:World)(hb:W.cell? b=some (.int .i64 e))(ht:W.cell? ta=some old)(hf:W.frozen? ta=false):
    (ReflectliteValue.set #[.agg #[.pointer (some ⟨5,176,none⟩),.pointer (some ta),.int .u64 409],.agg #[.pointer (some ⟨5,176,none⟩),.pointer (some b),.int .u64 153]]).run Tryz.prog W
      =.ok (.tuple #[]) (W.setCell ta (.int .i64 e)):=by
  rw[LV]
  simp only[Sem.run_bind,BE,DM,Result.andThen]
  simp[ReflectliteValue.flagAddr,E6 b e W hb,Result.andThen,AO,storeVar,Value.cells,storeCells,Addr.add]
  rw[run_store Tryz.prog W ta _ _ (by rfl)]
  simp[ht,hf]
theorem LS {W:World}(ht:jG Tryz.prog W fun _=>none):W.cell? ⟨0,0,none⟩=some (.iface 264 (.agg #[.pointer (some ⟨5,98,none⟩)]))∧0<W.heap.size:=by
  obtain⟨_,h2,v,⟨u,ty,hu,hty,hn,rfl⟩,hc⟩:=ht.2 0 (by kernel_rfl)
  have hu':(Tryz.prog.cutTypes.find? (·.1== "internal/reflectlite.rtype")).map (·.2)=some 264:=by kernel_rfl
  obtain rfl:=Option.some.inj (hu.symm.trans hu')
  have hall:(List.range Tryz.prog.types.size).all (fun t=> !(Tryz.prog.rowNamed t [101,114,114,111,114])||Nat.beq t 98)=true:=by kernel_rfl
  have h98:=List.all_eq_true.1 hall ty (List.mem_range.2 hty)
  rw[hn] at h98
  obtain rfl:ty=98:=by simpa using Nat.eq_of_beq_eq_true h98
  exact⟨hc,h2⟩
theorem Jq (v:Value)(w:World):(Instr.typeAssert (.iface 178 v) 98 269 true).run Tryz.prog w=.ok (.tuple #[.nilIface,.bool false]) w:=run_typeAssert_lacksB Tryz.underlying269 (by kernel_rfl) (by kernel_rfl) v 98 w
theorem Jy (v:Value)(w:World):(Instr.typeAssert (.iface 178 v) 98 272 true).run Tryz.prog w=.ok (.tuple #[.iface 178 v,.bool true]) w:=run_typeAssert_hasB Tryz.underlying272 (by kernel_rfl) v 98 w
theorem Ls (what:ByteArray)(e:Int)(t:Addr)(old:Value)(w:World)(hg:w.cell? ⟨0,0,none⟩=some (.iface 264 (.agg #[.pointer (some ⟨5,98,none⟩)])))(ht0:w.cell? t=some old)(hf0:w.frozen? t=false):
    Calls Tryz.prog 178 #[.iface 178 (.agg #[.string what,.iface 176 (.agg #[.int .i64 e])]),.iface 220 (.pointer (some t))] w fun ev w'=>ev=.returned (.bool true)∧w'=(((((w.alloc (.cells #[.pointer (some t)] 220)).alloc (.cells #[.pointer (some ⟨5,220,none⟩),.pointer (some ⟨w.heap.size,0,none⟩),.int .u64 150] 242)).alloc (.cells #[.pointer (some ⟨5,220,none⟩),.pointer (some ⟨w.heap.size,0,none⟩),.int .u64 150] 242)).alloc (.cells #[.string what,.iface 176 (.agg #[.int .i64 e])] 178)).alloc (.cells #[.int .i64 e] 176)).setCell t (.int .i64 e):=by
  have h209:=@run_callFunc_extern Tryz.prog 209 _ (fun args=>ReflectliteValue.unpack (args.getD 0 (.tuple #[]))) Tryz.func209 (by kernel_rfl) (by kernel_rfl) (by kernel_rfl) (by kernel_rfl)
  have h210:=@run_callFunc_extern Tryz.prog 210 _ (ReflectliteValue.methodAny (ReflectliteValue.valueError "reflectlite.Value.Type" 0) (fun t _ _ _=>ReflectliteType.toType t)) Tryz.func210 (by kernel_rfl) (by kernel_rfl) (by kernel_rfl) (by kernel_rfl)
  have h211:=@run_callFunc_extern Tryz.prog 211 _ (ReflectliteValue.method (ReflectliteValue.valueError "reflectlite.Value.IsNil" 0) ReflectliteValue.isNil) Tryz.func211 (by kernel_rfl) (by kernel_rfl) (by kernel_rfl) (by kernel_rfl)
  have h263:=@run_callFunc_extern Tryz.prog 263 _ (ReflectliteType.abiMethod fun t=>do pure (.int .u8 (←Rtype.kind t))) Tryz.func263 (by kernel_rfl) (by kernel_rfl) (by kernel_rfl) (by kernel_rfl)
  have h276:=@run_callFunc_extern Tryz.prog 276 _ (ReflectliteType.method ReflectliteType.elem) Tryz.func276 (by kernel_rfl) (by kernel_rfl) (by kernel_rfl) (by kernel_rfl)
  have h277:=@run_callFunc_extern Tryz.prog 277 _ (ReflectliteType.relation "Implements" ReflectliteType.implements_) Tryz.func277 (by kernel_rfl) (by kernel_rfl) (by kernel_rfl) (by kernel_rfl)
  have h224:=@run_callFunc_extern Tryz.prog 224 _ ReflectliteType.typeOf Tryz.func224 (by kernel_rfl) (by kernel_rfl) (by kernel_rfl) (by kernel_rfl)
  have h274:=@run_callFunc_extern Tryz.prog 274 _ (ReflectliteType.relation "AssignableTo" ReflectliteType.assignableTo) Tryz.func274 (by kernel_rfl) (by kernel_rfl) (by kernel_rfl) (by kernel_rfl)
  have h225:=@run_callFunc_extern Tryz.prog 225 _ (ReflectliteValue.method (ReflectliteValue.valueError "reflectlite.Value.Elem" 0) ReflectliteValue.elem) Tryz.func225 (by kernel_rfl) (by kernel_rfl) (by kernel_rfl) (by kernel_rfl)
  have h226:=@run_callFunc_extern Tryz.prog 226 _ ReflectliteValue.set Tryz.func226 (by kernel_rfl) (by kernel_rfl) (by kernel_rfl) (by kernel_rfl)
  have f209:=zE
  have f209c:=yN
  have f210:=E7
  have mK:=uY
  have mE:=u5
  have mI:=nU
  have mA:=l8
  have mU:=r4
  have kT:=EJ
  have kC:=F6
  have eT:=Hp
  have iC:=uK
  have tC:=A5
  have tS:=A9
  have aC:=tT
  have aS:=sW
  have nA:=Jq
  have hU:=Jy
  have n211:=Ez ⟨w.heap.size,0,none⟩ t ((w.alloc (.cells #[.pointer (some t)] 220)).alloc (.cells #[.pointer (some ⟨5,220,none⟩),.pointer (some ⟨w.heap.size,0,none⟩),.int .u64 150] 242)) (by simp)
  have hlt:0<w.heap.size:=by
    rcases Nat.eq_zero_or_pos w.heap.size with h0|h
    ·simp[World.cell?,h0] at hg
    ·exact h
  have hg2:((w.alloc (.cells #[.pointer (some t)] 220)).alloc (.cells #[.pointer (some ⟨5,220,none⟩),.pointer (some ⟨w.heap.size,0,none⟩),.int .u64 150] 242)).cell? ⟨0,0,none⟩=some (.iface 264 (.agg #[.pointer (some ⟨5,98,none⟩)])):=by
    rw[World.cell?_alloc_lt _ _ ⟨0,0,none⟩ (by simp),World.cell?_alloc_lt _ _ ⟨0,0,none⟩ hlt];exact hg
  have htl:t.block<w.heap.size:=by
    rcases Nat.lt_or_ge t.block w.heap.size with h|h
    ·exact h
    ·simp[World.cell?,Array.getElem?_eq_none h] at ht0
  have el:=Ei ⟨w.heap.size,0,none⟩ t ((((w.alloc (.cells #[.pointer (some t)] 220)).alloc (.cells #[.pointer (some ⟨5,220,none⟩),.pointer (some ⟨w.heap.size,0,none⟩),.int .u64 150] 242)).alloc (.cells #[.pointer (some ⟨5,220,none⟩),.pointer (some ⟨w.heap.size,0,none⟩),.int .u64 150] 242)).alloc (.cells #[.string what,.iface 176 (.agg #[.int .i64 e])] 178)) (by
    rw[World.cell?_alloc_lt _ _ ⟨w.heap.size,0,none⟩ (by simp;omega),World.cell?_alloc_lt _ _ ⟨w.heap.size,0,none⟩ (by simp;omega),World.cell?_alloc_lt _ _ ⟨w.heap.size,0,none⟩ (by simp),World.cell?_alloc_at _ _ _ _ (by simp)];rfl)
  have st:=I1 t ⟨w.heap.size+1+1+1+1,0,none⟩ e old (((((w.alloc (.cells #[.pointer (some t)] 220)).alloc (.cells #[.pointer (some ⟨5,220,none⟩),.pointer (some ⟨w.heap.size,0,none⟩),.int .u64 150] 242)).alloc (.cells #[.pointer (some ⟨5,220,none⟩),.pointer (some ⟨w.heap.size,0,none⟩),.int .u64 150] 242)).alloc (.cells #[.string what,.iface 176 (.agg #[.int .i64 e])] 178)).alloc (.cells #[.int .i64 e] 176))
    (by rw[World.cell?_alloc_at _ _ _ _ (by simp)];rfl)
    (by rw[World.cell?_alloc_lt _ _ t (by simp;omega),World.cell?_alloc_lt _ _ t (by simp;omega),World.cell?_alloc_lt _ _ t (by simp;omega),World.cell?_alloc_lt _ _ t (by simp;omega),World.cell?_alloc_lt _ _ t htl];exact ht0)
    (by rw[World.frozen?_alloc_old _ _ t (by simp;omega),World.frozen?_alloc_old _ _ t (by simp;omega),World.frozen?_alloc_old _ _ t (by simp;omega),World.frozen?_alloc_old _ _ t (by simp;omega),World.frozen?_alloc_old _ _ t (Nat.ne_of_lt htl)];exact hf0)
  go_enter Tryz.func178,Tryz.ntmps178
  go_wp2
  refine wp_loop_rounds 2 ?_
  rw[rounds_succ]
  go_wp2
  rw[rounds_succ]
  go_wp2
  go_ret
  exact⟨rfl,rfl⟩
end Go.Proofs.Heir
namespace Go.Proofs.Heir
open Go Go.Am Go.RowKit Go.Lib
set_option maxRecDepth 100000
set_option maxHeartbeats 8000000
theorem I0 (what:ByteArray)(e:Int)(t:Addr)(old:Value)(w:World)(hg:w.cell? ⟨0,0,none⟩=some (.iface 264 (.agg #[.pointer (some ⟨5,98,none⟩)])))(ht0:w.cell? t=some old)(hf0:w.frozen? t=false):
    Calls Tryz.prog 178 #[.iface 178 (.agg #[.string what,.iface 176 (.agg #[.int .i64 e])]),.iface 220 (.pointer (some t))] w fun ev w'=>ev=.returned (.bool true)∧∃W:World,w'=W.setCell t (.int .i64 e)∧Below w.heap.size w W:=by
  refine(Ls what e t old w hg ht0 hf0).mono ?_
  rintro ev w' ⟨rfl,rfl⟩
  exact⟨rfl,_,rfl,(((((Below.refl _ _).alloc (Nat.le_refl _) _).alloc (by simp) _).alloc (by simp;omega) _).alloc (by simp;omega) _).alloc (by simp;omega) _⟩
theorem FG {W:World}{a:Addr}{v:Value}(h:(W.cell? a).isSome=true):(W.setCell a v).cell? a=some v:=by
  obtain⟨u,hu⟩:=Option.isSome_iff_exists.1 h
  exact World.cell?_setCell_same W _ _ hu
theorem Dw (what:ByteArray)(e:Int)(w:World)(ht:jG Tryz.prog w fun _=>none):
    Calls Tryz.prog 122 #[.iface 178 (.agg #[.string what,.iface 176 (.agg #[.int .i64 e])])] w fun ev w'=>ev=.returned (.int .i64 e)∧Below w.heap.size w w':=by
  obtain⟨hg,hlt⟩:=LS ht
  have hg1:(w.alloc (.cells #[.int .i64 0] 176)).cell? ⟨0,0,none⟩=some (.iface 264 (.agg #[.pointer (some ⟨5,98,none⟩)])):=by
    rw[World.cell?_alloc_lt _ _ ⟨0,0,none⟩ hlt];exact hg
  have hc1:(w.alloc (.cells #[.int .i64 0] 176)).cell? ⟨w.heap.size,0,none⟩=some (.int .i64 0):=by rw[World.cell?_alloc_at _ _ _ _ (by simp)];rfl
  have hf1:(w.alloc (.cells #[.int .i64 0] 176)).frozen? ⟨w.heap.size,0,none⟩=false:=World.frozen?_alloc_at _ _ _ _ rfl
  have h2:=I0 what e ⟨w.heap.size,0,none⟩ (.int .i64 0) (w.alloc (.cells #[.int .i64 0] 176)) hg1 hc1 hf1
  go_enter Tryz.func122,Tryz.ntmps122
  go_wp2_with (go_at_call 178;refine h2.mono ?_;rintro ev w1 ⟨rfl,W,rfl,hb⟩;have hcW:(W.cell? ⟨w.heap.size,0,none⟩)=some (.int .i64 0):=(hb.cell (by simp)).trans hc1;have hcS:(W.setCell ⟨w.heap.size,0,none⟩ (.int .i64 e)).cell? ⟨w.heap.size,0,none⟩=some (.int .i64 e):=FG (by rw[hcW];rfl))
  go_wp2
  go_ret
  refine⟨rfl,?_⟩
  exact((((Below.refl _ _).alloc (Nat.le_refl _) _).trans (hb.mono (by simp)))).setCell (Nat.le_refl _) _
theorem Fi (what:ByteArray)(e:Int):an Tryz.prog 122 [] [.lit (.iface 178 (.agg #[.string what,.iface 176 (.agg #[.int .i64 e])]))] [] (aj e):=
  an.iN (vs:=[.iface 178 (.agg #[.string what,.iface 176 (.agg #[.int .i64 e])])]) fun w ht=>Dw what e w ht
end Go.Proofs.Heir
