/- Models, plain laws and contracts of functions of the given program; conditions as stated in each theorem. By an AI agent. -/
import Derived.Test.YtkhjcnjicjgfiaaGreatDoorWN18
import Derived.Test.YtkhjcnjicjgfiaaGreatDoorWN19
import Derived.Test.YtkhjcnjicjgfiaaGreatDoorWN12
import Derived.Test.YtkhjcnjicjgfiaaGreatDoorWN17
import Derived.WalkKit
import Derived.LaidEql
import Derived.Stop.Asserts
import Derived.RowKitTokens
import Derived.Tactics
import Derived.Laws.Cells
set_option linter.unusedSimpArgs false
set_option linter.unusedVariables false
namespace Go.Proofs.Heir
open Go Go.Am Go.RowKit Go.Lib
set_option maxRecDepth 100000
set_option maxHeartbeats 8000000
@[reducible] def fH : AV := .lit (.slice none 0 0)
theorem Bl {l:List ai}{k:Nat}{y:ai}(hy:l[k]? =some y)(xs:List AttrM):(l.map bF).set (0+k) (bF {y with attrs:=xs})=(iv l k xs).map bF:=by
  show _=(l.set ((k:Int).toNat) {nd l k with attrs:=xs}).map bF
  rw[cU hy,Int.toNat_natCast,Nat.zero_add,List.map_set]
@[reducible] def qH (y : ai) (k : Nat) (s : ByteArray) (xs : List AttrM) : aJ := ⟨4, k, 0, 0, dy s, decide (0 ≤ bV y.attrs s), decide (0 ≤ bV xs s), nX y.attrs s, nX xs s⟩
theorem uh (l:List ai)(m:Int)(hs:bw l)(k:Nat)(y:ai)(hy:l[k]? =some y)(s:ByteArray)(hs3:s.size≤100000)(xs:List AttrM)(hx:xs.length≤100000)(hh:0≤bV y.attrs s∨0≤bV xs s):
    ak Tryz.prog 61 [aL m l.length 1 fH,cu l] [.ptr 0 0 0,ah k,bS s,cJ xs] [aL m l.length 1 (.own 2 0 1),cu (iv l k xs),.live 9 [dY (qH y k s xs)] false] (.tup []):=by
  have h124:=w4 s hs3
  have h23:=wQ y.attrs (by have:=hs.attrs y (bO hy);omega) s
  have h23x:=wQ xs hx s
  have hkl:k<l.length:=(aY hy).1
  have hrow:=Bl hy xs
  have hlm:(l.map bF).length=l.length:=bW ..
  have ha:(iv l k xs).length=l.length:=gV ..
  generalize iv l k xs=l' at hrow ha
  obtain⟨y1,y2,y3,y4,y5,y6,y7,y8,y9,y10⟩:=y
  simp only at h23 hh hrow
  refine ak.eA [(2,591)] (rvs:=[]) G au Tryz.func61 rfl Tryz.ntmps61 rfl rfl ?_;with_reducible refine wD ?_
  cases hb:decide (0≤bV y5 s) with
  | true=>
    (have fct:=hb;(repeat' (first
    |refine gF ?_
    | ((first
      |((with_reducible show af _ _ 124 _ _ _ _);refine af.lit [] h124 Gz ⟨rfl,trivial⟩ rfl rfl ?_)
      |((with_reducible show ee _ _ _ _ _);refine ee.mk k rfl hkl ?_)
      |((with_reducible show aT _ _ _ _ _);first|refine aT.mk (aP ⟨y1,y2,y3,y4,y5,y6,y7,y8,y9,y10⟩) (by first|exact aB hy|(rw[Nat.zero_add];exact aB hy)) ?_|refine aT.mk _ rfl ?_)
      |((with_reducible show iT _ _ _ _ _ _ _ _ _ _);refine iT.mk [] [_] ⟨rfl,rfl,rfl⟩ ⟨rfl,rfl,rfl⟩ rfl (by simp) (by simp) ?_)
      |((with_reducible show aI _ _ _ _);refine dK ?_)
      |((with_reducible show af _ _ 23 _ _ _ _);first|(refine af.lit [] h23 Ke ⟨rfl,rfl,trivial⟩ rfl rfl ?_)|(refine af.lit [] h23x Ke ⟨rfl,rfl,trivial⟩ rfl rfl ?_)))<;>with_reducible refine wK ?_)
    |((with_reducible show(_∧_)∧_∧_);(refine eK ?_ ?_<;>with_reducible repeat' (first|exact trivial|(show _∧_;refine aK ?_ ?_))))));all_goals clear fct)
    all_goals first
      |rfl
      |exact⟨.refl rfl,rfl⟩
      |exact(.inl rfl:mY _)
      |(refine cast (congrArg (qx _ _) hrow.symm) ?_;exact⟨.refl (aF _),aF _⟩)
      |trace_state
  | false=>
    have hbx:decide (0≤bV xs s)=true:=dJ (hh.resolve_left (of_decide_eq_false hb))
    (have fct:=And.intro hb (hbx);(repeat' (first
    |refine gF ?_
    | ((first
      |((with_reducible show af _ _ 124 _ _ _ _);refine af.lit [] h124 Gz ⟨rfl,trivial⟩ rfl rfl ?_)
      |((with_reducible show ee _ _ _ _ _);refine ee.mk k rfl hkl ?_)
      |((with_reducible show aT _ _ _ _ _);first|refine aT.mk (aP ⟨y1,y2,y3,y4,y5,y6,y7,y8,y9,y10⟩) (by first|exact aB hy|(rw[Nat.zero_add];exact aB hy)) ?_|refine aT.mk _ rfl ?_)
      |((with_reducible show iT _ _ _ _ _ _ _ _ _ _);refine iT.mk [] [_] ⟨rfl,rfl,rfl⟩ ⟨rfl,rfl,rfl⟩ rfl (by simp) (by simp) ?_)
      |((with_reducible show aI _ _ _ _);refine dK ?_)
      |((with_reducible show af _ _ 23 _ _ _ _);first|(refine af.lit [] h23 Ke ⟨rfl,rfl,trivial⟩ rfl rfl ?_)|(refine af.lit [] h23x Ke ⟨rfl,rfl,trivial⟩ rfl rfl ?_)))<;>with_reducible refine wK ?_)
    |((with_reducible show(_∧_)∧_∧_);(refine eK ?_ ?_<;>with_reducible repeat' (first|exact trivial|(show _∧_;refine aK ?_ ?_))))));all_goals clear fct)
    all_goals first
      |rfl
      |exact⟨.refl rfl,rfl⟩
      |exact(.inl rfl:mY _)
      |(refine cast (congrArg (qx _ _) hrow.symm) ?_;exact⟨.refl (aF _),aF _⟩)
      |trace_state
theorem Dm (l:List ai)(m:Int)(hs:bw l)(k:Nat)(y:ai)(hy:l[k]? =some y)(s:ByteArray)(hs3:s.size≤100000)(xs:List AttrM)(hx:xs.length≤100000)(hh:¬0≤bV y.attrs s∧¬0≤bV xs s):
    ak Tryz.prog 61 [aL m l.length 1 fH,cu l] [.ptr 0 0 0,ah k,bS s,cJ xs] [aL m l.length 1 fH,cu (iv l k xs)] (.tup []):=by
  have h124:=w4 s hs3
  have h23:=wQ y.attrs (by have:=hs.attrs y (bO hy);omega) s
  have h23x:=wQ xs hx s
  have hkl:k<l.length:=(aY hy).1
  have hrow:=Bl hy xs
  have hlm:(l.map bF).length=l.length:=bW ..
  have ha:(iv l k xs).length=l.length:=gV ..
  generalize iv l k xs=l' at hrow ha
  obtain⟨y1,y2,y3,y4,y5,y6,y7,y8,y9,y10⟩:=y
  simp only at h23 hh hrow
  refine ak.eA [] (rvs:=[]) G au Tryz.func61 rfl Tryz.ntmps61 rfl rfl ?_;with_reducible refine wD ?_
  have hb:decide (0≤bV y5 s)=false:=dx hh.1
  have hbx:decide (0≤bV xs s)=false:=dx hh.2
  (have fct:=And.intro hb (hbx);(repeat' (first
    |refine gF ?_
    | ((first
      |((with_reducible show af _ _ 124 _ _ _ _);refine af.lit [] h124 Gz ⟨rfl,trivial⟩ rfl rfl ?_)
      |((with_reducible show ee _ _ _ _ _);refine ee.mk k rfl hkl ?_)
      |((with_reducible show aT _ _ _ _ _);first|refine aT.mk (aP ⟨y1,y2,y3,y4,y5,y6,y7,y8,y9,y10⟩) (by first|exact aB hy|(rw[Nat.zero_add];exact aB hy)) ?_|refine aT.mk _ rfl ?_)
      |((with_reducible show iT _ _ _ _ _ _ _ _ _ _);refine iT.mk [] [_] ⟨rfl,rfl,rfl⟩ ⟨rfl,rfl,rfl⟩ rfl (by simp) (by simp) ?_)
      |((with_reducible show aI _ _ _ _);refine dK ?_)
      |((with_reducible show af _ _ 23 _ _ _ _);first|(refine af.lit [] h23 Ke ⟨rfl,rfl,trivial⟩ rfl rfl ?_)|(refine af.lit [] h23x Ke ⟨rfl,rfl,trivial⟩ rfl rfl ?_)))<;>with_reducible refine wK ?_)
    |((with_reducible show(_∧_)∧_∧_);(refine eK ?_ ?_<;>with_reducible repeat' (first|exact trivial|(show _∧_;refine aK ?_ ?_))))));all_goals clear fct)
  all_goals first
    |rfl
    |exact⟨.refl rfl,rfl⟩
    |exact(.inl rfl:mY _)
    |(refine cast (congrArg (qx _ _) hrow.symm) ?_;exact⟨.refl (aF _),aF _⟩)
    |trace_state
end Go.Proofs.Heir
namespace Go.Proofs.Heir
open Go Go.Am Go.RowKit Go.Lib Go.Extern.Stop Go.Stop Go.Extern
set_option maxRecDepth 100000
set_option maxHeartbeats 8000000
theorem zK (t:Addr)(w:World):(ReflectliteValue.unpack (.iface 220 (.pointer (some t)))).run Tryz.prog w
    =.ok (.agg #[.pointer (some ⟨5,220,none⟩),.pointer (some ⟨w.heap.size,0,none⟩),.int .u64 150]) (w.alloc (.cells #[.pointer (some t)] 220)):=by kernel_rfl
theorem Fx (a:Addr)(w:World):(ReflectliteValue.methodAny (ReflectliteValue.valueError "reflectlite.Value.Type" 0) (fun t _ _ _=>ReflectliteType.toType t) #[.agg #[.pointer (some ⟨5,220,none⟩),.pointer (some a),.int .u64 150]]).run Tryz.prog w
    =.ok (.iface 264 (.agg #[.pointer (some ⟨5,220,none⟩)])) w:=by kernel_rfl
theorem uE (h:Value)(w:World):(Go.method 435 264 (.agg #[h]) "Kind").run Tryz.prog w=.ok (263,h) w:=by kernel_rfl
theorem DY (w:World):((ReflectliteType.abiMethod fun t=>(fun a:Nat=>Value.int IntKind.u8 (a:Int))<$>Rtype.kind t) #[.pointer (some ⟨5,220,none⟩)]).run Tryz.prog w=.ok (.int .u8 22) w:=by kernel_rfl
theorem D5 (w:World):((ReflectliteType.abiMethod fun t=>(fun a:Nat=>Value.int IntKind.u8 (a:Int))<$>Rtype.kind t) #[.pointer (some ⟨5,176,none⟩)]).run Tryz.prog w=.ok (.int .u8 25) w:=by kernel_rfl
theorem EE (z:Sem Value)(f:TypeId→Addr→Nat→Nat→Sem Value)(v:Value):
    ReflectliteValue.method z f #[v]=(do match ←ReflectliteValue.parts v with|none=>z|some (t,a,fl)=>f t a fl (fl%32)):=rfl
theorem uY (a:Addr)(w:World):(ReflectliteValue.parts (.agg #[.pointer (some ⟨5,220,none⟩),.pointer (some a),.int .u64 150])).run Tryz.prog w=.ok (some (220,a,150)) w:=by kernel_rfl
theorem Dp (a p:Addr)(W:World)(ha:W.cell? a=some (.pointer (some p))):
    (ReflectliteValue.method (ReflectliteValue.valueError "reflectlite.Value.IsNil" 0) ReflectliteValue.isNil #[.agg #[.pointer (some ⟨5,220,none⟩),.pointer (some a),.int .u64 150]]).run Tryz.prog W=.ok (.bool false) W:=by
  rw[EE]
  simp only[Sem.run_bind,uY,Result.andThen]
  simp[ReflectliteValue.isNil,loadVar,isAgg,underlying,Tryz.underlying220,ha,Result.andThen]
theorem uM (h:Value)(w:World):(Go.method 435 264 (.agg #[h]) "Elem").run Tryz.prog w=.ok (276,.agg #[h]) w:=by kernel_rfl
theorem nY (h:Value)(w:World):(Go.method 435 264 (.agg #[h]) "Implements").run Tryz.prog w=.ok (277,.agg #[h]) w:=by kernel_rfl
theorem mC (h:Value)(w:World):(Go.method 435 264 (.agg #[h]) "AssignableTo").run Tryz.prog w=.ok (274,.agg #[h]) w:=by kernel_rfl
theorem si (h:Value)(w:World):(Go.method 435 178 h "Unwrap").run Tryz.prog w=.ok (268,h) w:=by kernel_rfl
theorem EO (w:World):(ReflectliteType.method ReflectliteType.elem #[.agg #[.pointer (some ⟨5,220,none⟩)]]).run Tryz.prog w=.ok (.iface 264 (.agg #[.pointer (some ⟨5,176,none⟩)])) w:=by kernel_rfl
theorem tv (w:World):(ReflectliteType.relation "Implements" ReflectliteType.implements_ #[.agg #[.pointer (some ⟨5,176,none⟩)],.iface 264 (.agg #[.pointer (some ⟨5,98,none⟩)])]).run Tryz.prog w=.ok (.bool true) w:=by kernel_rfl
theorem AN (v:Value)(w:World):(ReflectliteType.typeOf #[.iface 176 v]).run Tryz.prog w=.ok (.iface 264 (.agg #[.pointer (some ⟨5,176,none⟩)])) w:=by kernel_rfl
theorem AU (v:Value)(w:World):(ReflectliteType.typeOf #[.iface 178 v]).run Tryz.prog w=.ok (.iface 264 (.agg #[.pointer (some ⟨5,178,none⟩)])) w:=by kernel_rfl
theorem uy (w:World):(ReflectliteType.relation "AssignableTo" ReflectliteType.assignableTo #[.agg #[.pointer (some ⟨5,176,none⟩)],.iface 264 (.agg #[.pointer (some ⟨5,176,none⟩)])]).run Tryz.prog w=.ok (.bool true) w:=by kernel_rfl
theorem tw (w:World):(ReflectliteType.relation "AssignableTo" ReflectliteType.assignableTo #[.agg #[.pointer (some ⟨5,178,none⟩)],.iface 264 (.agg #[.pointer (some ⟨5,176,none⟩)])]).run Tryz.prog w=.ok (.bool false) w:=by kernel_rfl
theorem ze (e:Int)(w:World):(ReflectliteValue.unpack (.iface 176 (.agg #[.int .i64 e]))).run Tryz.prog w
    =.ok (.agg #[.pointer (some ⟨5,176,none⟩),.pointer (some ⟨w.heap.size,0,none⟩),.int .u64 153]) (w.alloc (.cells #[.int .i64 e] 176)):=by kernel_rfl
theorem AM (w:World):(Rtype.elem? 220).run Tryz.prog w=.ok (some 176) w:=by kernel_rfl
theorem I7 (p:Addr)(w:World):(ReflectliteValue.mk 176 p ReflectliteValue.flagAddr).run Tryz.prog w=.ok (.agg #[.pointer (some ⟨5,176,none⟩),.pointer (some p),.int .u64 409]) w:=by kernel_rfl
theorem Cp (a p:Addr)(W:World)(ha:W.cell? a=some (.pointer (some p))):
    (ReflectliteValue.method (ReflectliteValue.valueError "reflectlite.Value.Elem" 0) ReflectliteValue.elem #[.agg #[.pointer (some ⟨5,220,none⟩),.pointer (some a),.int .u64 150]]).run Tryz.prog W
      =.ok (.agg #[.pointer (some ⟨5,176,none⟩),.pointer (some p),.int .u64 409]) W:=by
  rw[EE]
  simp only[Sem.run_bind,uY,Result.andThen]
  simp[ReflectliteValue.elem,loadVar,isAgg,underlying,Tryz.underlying220,ha,Result.andThen,AM,I7]
theorem JC (v x:Value):ReflectliteValue.set #[v,x]=(do
    let(some (dst,a,fl),some (src,b,_)):=(←ReflectliteValue.parts v,←ReflectliteValue.parts x)
      |unsupported (.noEntry "extern/(internal/reflectlite.Value).Set.zeroValue")
    if fl/ReflectliteValue.flagAddr%2==0 then unsupported (.noEntry "extern/(internal/reflectlite.Value).Set.unaddressable")
    let val ←loadVar src b
    if ←Rtype.directlyAssignable dst src then storeVar dst a val
    else if ←Rtype.implements dst src then
      if (←Rtype.kind src)==20 then
        match val with
        |.nilIface=>unsupported (.noEntry "extern/reflectlite: a nil value of one interface type handed on as a value of another")
        |_=>storeVar dst a val
      else storeVar dst a (.iface src val)
    else panicString ("reflectlite.Set: value of type " ++ (←Rtype.spelt src)++ " is not assignable to type " ++ (←Rtype.spelt dst))
    pure (.tuple #[])):=rfl
theorem Av (a:Addr)(w:World):(ReflectliteValue.parts (.agg #[.pointer (some ⟨5,176,none⟩),.pointer (some a),.int .u64 409])).run Tryz.prog w=.ok (some (176,a,409)) w:=by kernel_rfl
theorem Cs (a:Addr)(w:World):(ReflectliteValue.parts (.agg #[.pointer (some ⟨5,176,none⟩),.pointer (some a),.int .u64 153])).run Tryz.prog w=.ok (some (176,a,153)) w:=by kernel_rfl
theorem AI (w:World):(Rtype.directlyAssignable 176 176).run Tryz.prog w=.ok true w:=by kernel_rfl
theorem FI (b:Addr)(e:Int)(W:World)(hb:W.cell? b=some (.int .i64 e)):(loadVar 176 b).run Tryz.prog W=.ok (.agg #[.int .i64 e]) W:=by
  simp[loadVar,isAgg,underlying,Tryz.underlying176,Result.andThen,Addr.add]
  rw[run_loadCells W b 1 (fun _=>.int .i64 e) (fun j hj=>by rw[Nat.lt_one_iff.1 hj];simpa[Addr.add] using hb)]
  rfl
theorem HO (ta b:Addr)(e:Int)(old:Value)(W:World)(hb:W.cell? b=some (.int .i64 e))(ht:W.cell? ta=some old)(hf:W.frozen? ta=false):
    (ReflectliteValue.set #[.agg #[.pointer (some ⟨5,176,none⟩),.pointer (some ta),.int .u64 409],.agg #[.pointer (some ⟨5,176,none⟩),.pointer (some b),.int .u64 153]]).run Tryz.prog W
      =.ok (.tuple #[]) (W.setCell ta (.int .i64 e)):=by
  rw[JC]
  simp only[Sem.run_bind,Av,Cs,Result.andThen]
  simp[ReflectliteValue.flagAddr,FI b e W hb,Result.andThen,AI,storeVar,Value.cells,storeCells,Addr.add]
  rw[run_store Tryz.prog W ta _ _ (by rfl)]
  simp[ht,hf]
theorem J1 {W:World}(ht:kg Tryz.prog W fun _=>none):W.cell? ⟨0,0,none⟩=some (.iface 264 (.agg #[.pointer (some ⟨5,98,none⟩)]))∧0<W.heap.size:=by
  obtain⟨_,h2,v,⟨u,ty,hu,hty,hn,rfl⟩,hc⟩:=ht.2 0 (by kernel_rfl)
  have hu':(Tryz.prog.cutTypes.find? (·.1== "internal/reflectlite.rtype")).map (·.2)=some 264:=by kernel_rfl
  obtain rfl:=Option.some.inj (hu.symm.trans hu')
  have hall:(List.range Tryz.prog.types.size).all (fun t=> !(Tryz.prog.rowNamed t [101,114,114,111,114])||Nat.beq t 98)=true:=by kernel_rfl
  have h98:=List.all_eq_true.1 hall ty (List.mem_range.2 hty)
  rw[hn] at h98
  obtain rfl:ty=98:=by simpa using Nat.eq_of_beq_eq_true h98
  exact⟨hc,h2⟩
theorem Hl (v:Value)(w:World):(Instr.typeAssert (.iface 178 v) 98 269 true).run Tryz.prog w=.ok (.tuple #[.nilIface,.bool false]) w:=run_typeAssert_lacksB Tryz.underlying269 (by kernel_rfl) (by kernel_rfl) v 98 w
theorem Hs (v:Value)(w:World):(Instr.typeAssert (.iface 178 v) 98 272 true).run Tryz.prog w=.ok (.tuple #[.iface 178 v,.bool true]) w:=run_typeAssert_hasB Tryz.underlying272 (by kernel_rfl) v 98 w
theorem Jg (what:ByteArray)(e:Int)(t:Addr)(old:Value)(w:World)(hg:w.cell? ⟨0,0,none⟩=some (.iface 264 (.agg #[.pointer (some ⟨5,98,none⟩)])))(ht0:w.cell? t=some old)(hf0:w.frozen? t=false):
    Calls Tryz.prog 178 #[.iface 178 (.agg #[.string what,.iface 176 (.agg #[.int .i64 e])]),.iface 220 (.pointer (some t))] w fun ev w'=>ev=.returned (.bool true)∧w'=(((((w.alloc (.cells #[.pointer (some t)] 220)).alloc (.cells #[.pointer (some ⟨5,220,none⟩),.pointer (some ⟨w.heap.size,0,none⟩),.int .u64 150] 242)).alloc (.cells #[.pointer (some ⟨5,220,none⟩),.pointer (some ⟨w.heap.size,0,none⟩),.int .u64 150] 242)).alloc (.cells #[.string what,.iface 176 (.agg #[.int .i64 e])] 178)).alloc (.cells #[.int .i64 e] 176)).setCell t (.int .i64 e):=by
  have h209:=@run_callFunc_extern Tryz.prog 209 _ (fun args=>ReflectliteValue.unpack (args.getD 0 (.tuple #[]))) Tryz.func209 (by kernel_rfl) (by kernel_rfl) (by kernel_rfl) (by kernel_rfl)
  have h210:=@run_callFunc_extern Tryz.prog 210 _ (ReflectliteValue.methodAny (ReflectliteValue.valueError "reflectlite.Value.Type" 0) (fun t _ _ _=>ReflectliteType.toType t)) Tryz.func210 (by kernel_rfl) (by kernel_rfl) (by kernel_rfl) (by kernel_rfl)
  have h211:=@run_callFunc_extern Tryz.prog 211 _ (ReflectliteValue.method (ReflectliteValue.valueError "reflectlite.Value.IsNil" 0) ReflectliteValue.isNil) Tryz.func211 (by kernel_rfl) (by kernel_rfl) (by kernel_rfl) (by kernel_rfl)
  have h263:=@run_callFunc_extern Tryz.prog 263 _ (ReflectliteType.abiMethod fun t=>do pure (.int .u8 (←Rtype.kind t))) Tryz.func263 (by kernel_rfl) (by kernel_rfl) (by kernel_rfl) (by kernel_rfl)
  have h276:=@run_callFunc_extern Tryz.prog 276 _ (ReflectliteType.method ReflectliteType.elem) Tryz.func276 (by kernel_rfl) (by kernel_rfl) (by kernel_rfl) (by kernel_rfl)
  have h277:=@run_callFunc_extern Tryz.prog 277 _ (ReflectliteType.relation "Implements" ReflectliteType.implements_) Tryz.func277 (by kernel_rfl) (by kernel_rfl) (by kernel_rfl) (by kernel_rfl)
  have h224:=@run_callFunc_extern Tryz.prog 224 _ ReflectliteType.typeOf Tryz.func224 (by kernel_rfl) (by kernel_rfl) (by kernel_rfl) (by kernel_rfl)
  have h274:=@run_callFunc_extern Tryz.prog 274 _ (ReflectliteType.relation "AssignableTo" ReflectliteType.assignableTo) Tryz.func274 (by kernel_rfl) (by kernel_rfl) (by kernel_rfl) (by kernel_rfl)
  have h225:=@run_callFunc_extern Tryz.prog 225 _ (ReflectliteValue.method (ReflectliteValue.valueError "reflectlite.Value.Elem" 0) ReflectliteValue.elem) Tryz.func225 (by kernel_rfl) (by kernel_rfl) (by kernel_rfl) (by kernel_rfl)
  have h226:=@run_callFunc_extern Tryz.prog 226 _ ReflectliteValue.set Tryz.func226 (by kernel_rfl) (by kernel_rfl) (by kernel_rfl) (by kernel_rfl)
  have f209:=zK
  have f209c:=ze
  have f210:=Fx
  have mK:=uE
  have mE:=uM
  have mI:=nY
  have mA:=mC
  have mU:=si
  have kT:=DY
  have kC:=D5
  have eT:=EO
  have iC:=tv
  have tC:=AN
  have tS:=AU
  have aC:=uy
  have aS:=tw
  have nA:=Hl
  have hU:=Hs
  have n211:=Dp ⟨w.heap.size,0,none⟩ t ((w.alloc (.cells #[.pointer (some t)] 220)).alloc (.cells #[.pointer (some ⟨5,220,none⟩),.pointer (some ⟨w.heap.size,0,none⟩),.int .u64 150] 242)) (by simp)
  have hlt:0<w.heap.size:=by
    rcases Nat.eq_zero_or_pos w.heap.size with h0|h
    ·simp[World.cell?,h0] at hg
    ·exact h
  have hg2:((w.alloc (.cells #[.pointer (some t)] 220)).alloc (.cells #[.pointer (some ⟨5,220,none⟩),.pointer (some ⟨w.heap.size,0,none⟩),.int .u64 150] 242)).cell? ⟨0,0,none⟩=some (.iface 264 (.agg #[.pointer (some ⟨5,98,none⟩)])):=by
    rw[World.cell?_alloc_lt _ _ ⟨0,0,none⟩ (by simp),World.cell?_alloc_lt _ _ ⟨0,0,none⟩ hlt];exact hg
  have htl:t.block<w.heap.size:=by
    rcases Nat.lt_or_ge t.block w.heap.size with h|h
    ·exact h
    ·simp[World.cell?,Array.getElem?_eq_none h] at ht0
  have el:=Cp ⟨w.heap.size,0,none⟩ t ((((w.alloc (.cells #[.pointer (some t)] 220)).alloc (.cells #[.pointer (some ⟨5,220,none⟩),.pointer (some ⟨w.heap.size,0,none⟩),.int .u64 150] 242)).alloc (.cells #[.pointer (some ⟨5,220,none⟩),.pointer (some ⟨w.heap.size,0,none⟩),.int .u64 150] 242)).alloc (.cells #[.string what,.iface 176 (.agg #[.int .i64 e])] 178)) (by
    rw[World.cell?_alloc_lt _ _ ⟨w.heap.size,0,none⟩ (by simp;omega),World.cell?_alloc_lt _ _ ⟨w.heap.size,0,none⟩ (by simp;omega),World.cell?_alloc_lt _ _ ⟨w.heap.size,0,none⟩ (by simp),World.cell?_alloc_at _ _ _ _ (by simp)];rfl)
  have st:=HO t ⟨w.heap.size+1+1+1+1,0,none⟩ e old (((((w.alloc (.cells #[.pointer (some t)] 220)).alloc (.cells #[.pointer (some ⟨5,220,none⟩),.pointer (some ⟨w.heap.size,0,none⟩),.int .u64 150] 242)).alloc (.cells #[.pointer (some ⟨5,220,none⟩),.pointer (some ⟨w.heap.size,0,none⟩),.int .u64 150] 242)).alloc (.cells #[.string what,.iface 176 (.agg #[.int .i64 e])] 178)).alloc (.cells #[.int .i64 e] 176))
    (by rw[World.cell?_alloc_at _ _ _ _ (by simp)];rfl)
    (by rw[World.cell?_alloc_lt _ _ t (by simp;omega),World.cell?_alloc_lt _ _ t (by simp;omega),World.cell?_alloc_lt _ _ t (by simp;omega),World.cell?_alloc_lt _ _ t (by simp;omega),World.cell?_alloc_lt _ _ t htl];exact ht0)
    (by rw[World.frozen?_alloc_old _ _ t (by simp;omega),World.frozen?_alloc_old _ _ t (by simp;omega),World.frozen?_alloc_old _ _ t (by simp;omega),World.frozen?_alloc_old _ _ t (by simp;omega),World.frozen?_alloc_old _ _ t (Nat.ne_of_lt htl)];exact hf0)
  go_enter Tryz.func178,Tryz.ntmps178
  go_wp2
  refine wp_loop_rounds 2 ?_
  rw[rounds_succ]
  go_wp2
  rw[rounds_succ]
  go_wp2
  go_ret
  exact⟨rfl,rfl⟩
end Go.Proofs.Heir
namespace Go.Proofs.Heir
open Go Go.Am Go.RowKit Go.Lib
set_option maxRecDepth 100000
set_option maxHeartbeats 8000000
theorem HQ (what:ByteArray)(e:Int)(t:Addr)(old:Value)(w:World)(hg:w.cell? ⟨0,0,none⟩=some (.iface 264 (.agg #[.pointer (some ⟨5,98,none⟩)])))(ht0:w.cell? t=some old)(hf0:w.frozen? t=false):
    Calls Tryz.prog 178 #[.iface 178 (.agg #[.string what,.iface 176 (.agg #[.int .i64 e])]),.iface 220 (.pointer (some t))] w fun ev w'=>ev=.returned (.bool true)∧∃W:World,w'=W.setCell t (.int .i64 e)∧Below w.heap.size w W:=by
  refine(Jg what e t old w hg ht0 hf0).mono ?_
  rintro ev w' ⟨rfl,rfl⟩
  exact⟨rfl,_,rfl,(((((Below.refl _ _).alloc (Nat.le_refl _) _).alloc (by simp) _).alloc (by simp;omega) _).alloc (by simp;omega) _).alloc (by simp;omega) _⟩
theorem Ga {W:World}{a:Addr}{v:Value}(h:(W.cell? a).isSome=true):(W.setCell a v).cell? a=some v:=by
  obtain⟨u,hu⟩:=Option.isSome_iff_exists.1 h
  exact World.cell?_setCell_same W _ _ hu
theorem DC (what:ByteArray)(e:Int)(w:World)(ht:kg Tryz.prog w fun _=>none):
    Calls Tryz.prog 122 #[.iface 178 (.agg #[.string what,.iface 176 (.agg #[.int .i64 e])])] w fun ev w'=>ev=.returned (.int .i64 e)∧Below w.heap.size w w':=by
  obtain⟨hg,hlt⟩:=J1 ht
  have hg1:(w.alloc (.cells #[.int .i64 0] 176)).cell? ⟨0,0,none⟩=some (.iface 264 (.agg #[.pointer (some ⟨5,98,none⟩)])):=by
    rw[World.cell?_alloc_lt _ _ ⟨0,0,none⟩ hlt];exact hg
  have hc1:(w.alloc (.cells #[.int .i64 0] 176)).cell? ⟨w.heap.size,0,none⟩=some (.int .i64 0):=by rw[World.cell?_alloc_at _ _ _ _ (by simp)];rfl
  have hf1:(w.alloc (.cells #[.int .i64 0] 176)).frozen? ⟨w.heap.size,0,none⟩=false:=World.frozen?_alloc_at _ _ _ _ rfl
  have h2:=HQ what e ⟨w.heap.size,0,none⟩ (.int .i64 0) (w.alloc (.cells #[.int .i64 0] 176)) hg1 hc1 hf1
  go_enter Tryz.func122,Tryz.ntmps122
  go_wp2_with (go_at_call 178;refine h2.mono ?_;rintro ev w1 ⟨rfl,W,rfl,hb⟩;have hcW:(W.cell? ⟨w.heap.size,0,none⟩)=some (.int .i64 0):=(hb.cell (by simp)).trans hc1;have hcS:(W.setCell ⟨w.heap.size,0,none⟩ (.int .i64 e)).cell? ⟨w.heap.size,0,none⟩=some (.int .i64 e):=Ga (by rw[hcW];rfl))
  go_wp2
  go_ret
  refine⟨rfl,?_⟩
  exact((((Below.refl _ _).alloc (Nat.le_refl _) _).trans (hb.mono (by simp)))).setCell (Nat.le_refl _) _
theorem FN (what:ByteArray)(e:Int):ak Tryz.prog 122 [] [.lit (.iface 178 (.agg #[.string what,.iface 176 (.agg #[.int .i64 e])]))] [] (ah e):=
  ak.jG (vs:=[.iface 178 (.agg #[.string what,.iface 176 (.agg #[.int .i64 e])])]) fun w ht=>DC what e w ht
end Go.Proofs.Heir
