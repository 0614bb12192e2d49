/- Walks of functions by unfolding over abstract states; runs of functions by an evaluator that is proved. By an AI agent. -/
import Derived.Test.YtkhjcnjicjgfiaaGreatDoorWO7
import Derived.Test.YtkhjcnjicjgfiaaGreatDoorWO5
set_option linter.unusedSimpArgs false
set_option linter.unusedVariables false
namespace Go.Am
open Go
@[reducible] def KF : Nat → Nat → Nat
  |0,k=>k
  |n+1,k=>Nat.add (n+1) k
theorem HY (a b:Nat):KF a b=a+b:=by cases a<;>simp[KF]
@[reducible] def AA : Value → Bool
  |.agg _=>false
  |_=>true
theorem tL {v:Value}(h:AA v=true):cells (.lit v)=[.lit v]:=by cases v<;>first|rfl|cases h
theorem wI:∀ {l:List Value},iP AA l=true→flat (l.map .lit)=l.map .lit
  |[],_=>rfl
  | v ::r,h=>by
    simp only[iP] at h
    split at h
    · rename_i hv
      show cells (.lit v)++flat (r.map .lit)=_
      rw[tL hv,wI h];rfl
    ·cases h
theorem vu:∀ {l:List Value},iP AA l=true→bD 1 (l.map .lit)
  |[],_=>bD.nil 1
  | v ::r,h=>by
    simp only[iP] at h
    split at h
    · rename_i hv
      exact .cons (by rw[tL hv];rfl) (vu h)
    ·cases h
theorem aD.Et {P:Program}{N:Nat}{o:Oper}{σ:aA}{t:TypeId}{tk:Nat}{z:Array Value}(ho:o.op=.alloc t)(hz:iW P t (.agg z))(hs:iP AA z.toList=true)(hf:σ.mem tk=.free)(hd:∀d,o.dst=some d→d<N):
    aD P N o σ [tk] (.ptr tk 0 0) [(tk,.live 1 (z.toList.map .lit) false)]:=
  .new hf (vu hs) (fun σ2 he2 w0 W0 L μ a w h=>by
    refine⟨z,t,.pointer (some ⟨w.heap.size,0,none⟩),w.drawn,?_,?_,fun q c hq=>?_,.inl ⟨rfl,rfl⟩⟩
    ·simp[execOp,ho,Instr.alloc,hz w,newVar,newRow,Value.cells]
    ·simp
    · rw [wI hs,fH] at hq
      cases hv:z.toList[q]? with
      |none=>rw[hv] at hq;cases hq
      | some v=>
        rw[hv] at hq
        cases hq
        exact⟨v,by rw[←Array.getElem?_toList];exact hv,.lit⟩) hd
theorem aD.Bv {P:Program}{N:Nat}{o:Oper}{σ:aA}{y z:Operand}{t e:TypeId}{tk i0 k0 wd n:Nat}{kd:IntKind}{i:Int}(ho:o.op=.indexAddr t y z)(he:σ.eval y=.ptr tk i0 k0)(hz:σ.eval z=.lit (.int kd i))
    (ht:BK P t n e) (hsz:eA P e wd) (h0:0≤i) (h1:i<n) (hwd:∃rows ro,σ.mem tk=.live wd rows ro) (hd:∀d,o.dst=some d→d<N):aD P N o σ [tk] (.ptr tk (i0+i.toNat) k0) []:=
  .val (fun σ2 he2 hrd w0 W0 L μ a w hs=>by
    have k1:=hs.eval y
    have k2:=hs.eval z
    rw[he2 y (by simp[ho,Op.operands]),he] at k1
    rw[he2 z (by simp[ho,Op.operands]),hz] at k2
    obtain⟨rows,ro,hm⟩:=hwd
    have hm2:σ2.mem tk=.live wd rows ro:=by rw[hrd tk (by simp)];exact hm
    obtain⟨B,hB,hobj⟩:=hs.objs tk wd rows ro hm2
    generalize hv:a.eval y=v at k1
    cases k1 with
    | @ptr _ _ _ B' a1 ap=>
      rw[hB] at a1;cases a1
      refine⟨.pointer (some ⟨B.b,B.o+ ((i0+i.toNat)*B.wd+k0),none⟩),?_,.ptr hB ap⟩
      simp[execOp,ho,hv,k2.val,Instr.indexAt,asIntOf,run_underlying ht,hsz w,h0,h1,Addr.add_lit,Instr.sureAddr,hobj.width,Nat.add_mul,Nat.add_assoc,Nat.add_comm,Nat.add_left_comm]) hd
section
variable (P : Program) (N : Nat) (Γ : bZ) (o : Oper) (acc : Tk) (sl : SL) (m : ML) (R : Rest)
@[reducible] def Lv (t : TypeId) (y z : AV) : Prop :=
  match z with
  | .lit (.int _ i)=>match kN Γ t with
    | some (.sl _ wd _)=>match y with
      | .own tk off len=>match dX m tk with
        | .live wd' _ _=>match si wd' wd with
          |true=>eO i len acc sl m (A:=fun k=>R [tk] (.ptr tk (off+k) 0) [])
          |false=>aN P N acc sl m (o:=o) (R:=R)
        |_=>aN P N acc sl m (o:=o) (R:=R)
      | .sl wd' rows=>match si wd' wd with
        |true=>aG rows i acc sl m (A:=fun r=>R [] (.fptr r 0) [])
        |false=>aN P N acc sl m (o:=o) (R:=R)
      |_=>aN P N acc sl m (o:=o) (R:=R)
    | some (.ar _ len _ wd _)=>match y with
      | .ptr tk i0 k0=>match vL tk with
        |true=>eO i len acc sl m (A:=fun k=>R [] (.ptr tk i0 (Nat.add k0 (Nat.mul k wd))) [])
        | false=>match dX m tk with
          | .live wd' _ _=>match si wd' wd with
            |true=>eO i len acc sl m (A:=fun k=>R [tk] (.ptr tk (KF i0 k) k0) [])
            |false=>aN P N acc sl m (o:=o) (R:=R)
          |_=>aN P N acc sl m (o:=o) (R:=R)
      |_=>aN P N acc sl m (o:=o) (R:=R)
    |_=>aN P N acc sl m (o:=o) (R:=R)
  |_=>aN P N acc sl m (o:=o) (R:=R)
@[reducible] def FB (t : TypeId) (y : AV) : Prop :=
  match y with
  | .ptr tk i k=>match vL tk with
    |true=>qU P N o acc sl m R (cN Γ sl m o.dst o.op)
    | false=>match dX m tk with
      |.live _ rows _=>aZ rows i acc sl m (A:=fun r acc sl m=>qU P N o acc sl m R (uW (fun x=>([tk],x,[])) (pD (kN Γ t) r k)))
      |_=>aN P N acc sl m (o:=o) (R:=R)
  |_=>qU P N o acc sl m R (cN Γ sl m o.dst o.op)
@[reducible] def Bd (t : TypeId) (y z : AV) : Prop :=
  match y with
  | .ptr tk i k=>match vL tk with
    |true=>qU P N o acc sl m R (cN Γ sl m o.dst o.op)
    | false=>match o.dst with
      | none=>match dX m tk with
        |.live wd rows false=>aZ rows i acc sl m (A:=fun r acc sl m=>qU P N o acc sl m R (uW (fun r'=>([tk],.any,[(tk,.live wd (rows.set i r') false)])) (rD (kN Γ t) r k z)))
        |_=>aN P N acc sl m (o:=o) (R:=R)
      |some _=>aN P N acc sl m (o:=o) (R:=R)
  |_=>aN P N acc sl m (o:=o) (R:=R)
@[reducible] def lA (d : Int) : Option Operand → Option Int
  |none=>some d
  | some z=>match eM sl z with
    |.lit (.int _ n)=>some n
    |_=>none
@[reducible] def Iw (t : TypeId) (y : AV) (lo hi : Option Operand) : Option Operand → Prop
  | none =>match kN Γ t with
    | some (.sl _ wd _)=>match y with
      | .own tk off len=>match lA sl 0 lo,lA sl len hi,dX m tk with
        | some l,some h,.live wd' _ _=>match si wd' wd with
          |true=>Bi l h len acc sl m (A:=fun a n=>R [tk] (.own tk (off+a) n) [])
          |false=>aN P N acc sl m (o:=o) (R:=R)
        |_,_,_=>aN P N acc sl m (o:=o) (R:=R)
      | .sl wd' rows=>match lA sl 0 lo,lA sl rows.length hi with
        | some l,some h=>match si wd' wd with
          |true=>FO l h rows acc sl m (A:=fun rows'=>R [] (.sl wd rows') [])
          |false=>aN P N acc sl m (o:=o) (R:=R)
        |_,_=>aN P N acc sl m (o:=o) (R:=R)
      |_=>aN P N acc sl m (o:=o) (R:=R)
    | some .str=>match y with
      | .lit (.string s)=>match lA sl 0 lo,lA sl s.size hi with
        |some l,some h=>Gn s l h acc sl m (A:=fun s=>R [] (.lit (.string s)) [])
        |_,_=>aN P N acc sl m (o:=o) (R:=R)
      |_=>aN P N acc sl m (o:=o) (R:=R)
    |_=>aN P N acc sl m (o:=o) (R:=R)
  | some mx=>match lo,hi with
    | none,some hi=>match kN Γ t,eM sl hi,eM sl mx with
      | some (.sl _ _ _),.lit (.int _ a),.lit (.int _ b)=>match y with
        |.own _ _ _=>bC (a=0∧b=0) acc sl m (A:=R [] .emp [])
        |.sl _ _=>bC (a=0∧b=0) acc sl m (A:=R [] .emp [])
        |.emp=>bC (a=0∧b=0) acc sl m (A:=R [] .emp [])
        |_=>aN P N acc sl m (o:=o) (R:=R)
      |_,_,_=>aN P N acc sl m (o:=o) (R:=R)
    |_,_=>aN P N acc sl m (o:=o) (R:=R)
@[reducible] def mB (wd : Nat) : Nat → List (Nat × AV) → Bool
  |_,[]=>true
  | k,(i,x)::r=>match Nat.beq i k,si (eL (dy x)) wd,sX x with
    |true,true,true=>mB wd (Nat.add k 1) r
    |_,_,_=>false
@[reducible] def lG (d : Nat) : Nat := Nat.add (Nat.mul 10 d) 1
@[reducible] def Kv (t : TypeId) (len : Nat) (parts : List (Nat × Operand)) : Prop :=
  match o.dst,kN Γ t with
  | some d,some (.sl _ wd _)=>match dX m (lG d) with
    | .free=>match mB wd 0 (dU (fun(p:Nat×Operand)=>match p with|(i,y)=>(i,eM sl y)) parts),si (eL parts) len,Nat.ble (Nat.mul len wd) 16777216 with
      |true,true,true=>R [lG d] (.own (lG d) 0 len) [(lG d,.live wd (dU (fun(p:Nat×Operand)=>match p with|(_,y)=>eM sl y) parts) false)] acc sl m
      |_,_,_=>aN P N acc sl m (o:=o) (R:=R)
    |_=>aN P N acc sl m (o:=o) (R:=R)
  |_,_=>aN P N acc sl m (o:=o) (R:=R)
@[reducible] def ME (wd : Nat) : AV → Option (List AV × Nat × Nat × List Nat)
  | .own t off len=>match dX m t with
    | .live wd' rows _=>match si wd' wd with
      |true=>some (rows,off,len,[t])
      |false=>none
    |_=>none
  | .sl wd' rows=>match si wd' wd with
    |true=>some (rows,0,rows.length,[])
    |false=>none
  |.emp=>some ([],0,0,[])
  | .lit v=>match nV v with
    |true=>some ([],0,0,[])
    |false=>none
  |_=>none
@[reducible] def J9 (wd : Nat) : AV → Option (List AV × Nat × Nat × List Nat)
  | .own t off len=>match dX m t with
    | .live wd' rows false=>match si wd' wd with
      |true=>some (rows,off,len,[t])
      |false=>none
    |_=>none
  |.emp=>some ([],0,0,[])
  | .lit v=>match nV v with
    |true=>some ([],0,0,[])
    |false=>none
  |_=>none
@[reducible] def Kz (args : List Operand) (types : List TypeId) : Prop :=
  match args,types with
  | [y, z], [t,t2]=>match o.dst,kN Γ t,kN Γ t2 with
    | some d,some (.sl _ wd bytes),some (.sl _ _ _)=>match dX m (lG d) with
      | .free=>match J9 m wd (eM sl y),ME m wd (eM sl z) with
        |some (rb,off,len,k),some (rs,off',len',rd)=>j0 rb off len rs off' len' bytes acc sl m
            (A:=fun rows=>R (lG d::dL k rd) (.own (lG d) 0 rows.length) ((lG d,.live wd rows false)::dU (fun t=>(t,MS.dead)) k))
        |_,_=>aN P N acc sl m (o:=o) (R:=R)
      |_=>aN P N acc sl m (o:=o) (R:=R)
    |_,_,_=>aN P N acc sl m (o:=o) (R:=R)
  |_,_=>aN P N acc sl m (o:=o) (R:=R)
@[reducible] def KZ (args : List Operand) (types : List TypeId) : Prop :=
  match args,types with
  | [y],[t]=>match eM sl y with
    |.mapr k=>rF P N t (.mapr k) acc sl m (o:=o) (R:=R)
    |.fmap k=>rF P N t (.fmap k) acc sl m (o:=o) (R:=R)
    |_=>qU P N o acc sl m R (cN Γ sl m o.dst o.op)
  |_,_=>qU P N o acc sl m R (cN Γ sl m o.dst o.op)
@[reducible] def LR : Option Operand → Prop
  | none=>match o.dst with
    | some d=>match dX m (lG d) with
      |.free=>R [lG d] (.mapr (lG d)) [(lG d,.live 2 [] false)] acc sl m
      |_=>aN P N acc sl m (o:=o) (R:=R)
    |none=>aN P N acc sl m (o:=o) (R:=R)
  |some _=>aN P N acc sl m (o:=o) (R:=R)
@[reducible] def FA (c : Call) : Prop :=
  match c.callee with
  |.builtin .len=>KZ P N Γ o acc sl m R c.args.toList c.argTypes.toList
  |.builtin .append=>Kz P N Γ o acc sl m R c.args.toList c.argTypes.toList
  | .value f=>match f with
    |.func g=>aa P N g (dU (eM sl) c.args.toList) acc sl m (o:=o) (R:=R)
    | f=>match eM sl f with
      |.clo (.func g) first cap=>aa P N g (dL first (dL (dU (eM sl) c.args.toList) cap)) acc sl m (o:=o) (R:=R)
      |_=>aN P N acc sl m (o:=o) (R:=R)
  |_=>aN P N acc sl m (o:=o) (R:=R)
@[reducible] def KG (op : BinOp) (t : TypeId) (x y : AV) : Prop :=
  match op,x,y with
  |.add,.lit (.int .i64 a),.lit (.int .i64 b)=>bC (-9223372036854775808≤a+b∧a+b≤9223372036854775807) acc sl m (A:=R [] (.lit (.int .i64 (a+b))) [])
  |.sub,.lit (.int .i64 a),.lit (.int .i64 b)=>bC (-9223372036854775808≤a-b∧a-b≤9223372036854775807) acc sl m (A:=R [] (.lit (.int .i64 (a-b))) [])
  |.add,.lit (.string a),.lit (.string b)=>bC (a.size+b.size≤9223372036854775807) acc sl m (A:=R [] (.lit (.string (a++b))) [])
  | .eql,.agg cs,.agg ds=>match rM cs,rM ds with
    |some us,some vs=>M4 P .eql t us vs acc sl m (A:=fun b=>R [] (.lit (.bool b)) [])
    |_,_=>aN P N acc sl m (o:=o) (R:=R)
  | .neq,.agg cs,.agg ds=>match rM cs,rM ds with
    |some us,some vs=>M4 P .neq t us vs acc sl m (A:=fun b=>R [] (.lit (.bool b)) [])
    |_,_=>aN P N acc sl m (o:=o) (R:=R)
  |_,_,_=>qU P N o acc sl m R (cN Γ sl m o.dst o.op)
@[reducible] def Fx (t : TypeId) (y z : AV) : Prop :=
  match kN Γ t,y,z with
  |some .str,.lit (.string s),.lit (.int _ i)=>vn s i acc sl m (A:=fun c=>R [] (.lit (.int .u8 c)) [])
  |_,_,_=>aN P N acc sl m (o:=o) (R:=R)
@[reducible] def Gv (src dst : TypeId) (y : AV) : Prop :=
  match y with
  |.lit v=>cT P src dst v acc sl m (A:=fun r=>R [] (.lit r) [])
  | .own tk off len=>match dX m tk with
    | .live wd rows _=>match si wd 1 with
      |true=>Br P src dst rows off len acc sl m (A:=fun r=>R [tk] (.lit r) [])
      |false=>aN P N acc sl m (o:=o) (R:=R)
    |_=>aN P N acc sl m (o:=o) (R:=R)
  |_=>aN P N acc sl m (o:=o) (R:=R)
@[reducible] def BA (t : TypeId) : Prop :=
  match o.dst,kN Γ t with
  | some d,some (.ar _ _ e _ z)=>match kN Γ e with
    |some (.sl _ _ _)=>qU P N o acc sl m R (cN Γ sl m o.dst o.op)
    | _=>match iP AA z.toList,dX m (lG d) with
      |true,.free=>R [lG d] (.ptr (lG d) 0 0) [(lG d,.live 1 (dU .lit z.toList) false)] acc sl m
      |_,_=>aN P N acc sl m (o:=o) (R:=R)
  |_,_=>qU P N o acc sl m R (cN Γ sl m o.dst o.op)
@[reducible] def wpOp : Prop :=
  match o.op with
  |.alloc t=>BA P N Γ o acc sl m R t
  |.indexAddr t y z=>Lv P N Γ o acc sl m R t (eM sl y) (eM sl z)
  |.load t y=>FB P N Γ o acc sl m R t (eM sl y)
  |.store t y z=>Bd P N Γ o acc sl m R t (eM sl y) (eM sl z)
  |.slice t y lo hi mx=>Iw P N Γ o acc sl m R t (eM sl y) lo hi mx
  |.buildSlice t len parts=>Kv P N Γ o acc sl m R t len parts.toList
  |.call c=>FA P N Γ o acc sl m R c
  |.binOp op t y z _=>KG P N Γ o acc sl m R op t (eM sl y) (eM sl z)
  |.index t y z=>Fx P N Γ o acc sl m R t (eM sl y) (eM sl z)
  |.convert src dst y=>Gv P N o acc sl m R src dst (eM sl y)
  |.makeMap _ hint=>LR P N o acc sl m R hint
  |.lookup t y x c=>qk P N t c (eM sl y) (eM sl x) acc sl m (o:=o) (R:=R)
  |.mapUpdate t y x v=>xO P N t (eM sl y) (eM sl x) (eM sl v) acc sl m (o:=o) (R:=R)
  |_=>qU P N o acc sl m R (cN Γ sl m o.dst o.op)
end
section
variable {P : Program} {N : Nat} {Γ : bZ} {o : Oper} {acc : Tk} {sl : SL} {m : ML} {R : Rest}
def ow (P:Program)(N:Nat)(o:Oper)(acc:Tk)(sl:SL)(m:ML)(R:Rest):Prop:=∃rd x ups,aD P N o (St sl m) rd x ups∧R rd x ups acc sl m
theorem iw (hΓ:Γ.Good P)(hd:cM N o.dst=true)(h:qU P N o acc sl m R (cN Γ sl m o.dst o.op)):ow P N o acc sl m R:=by
  cases hp:cN Γ sl m o.dst o.op with
  |none=>rw[hp] at h;exact h
  | some q=>
    obtain⟨rd,x,ups⟩:=q
    rw[hp] at h
    exact⟨rd,x,ups,DE hΓ (DD hp) (aJ hd),h⟩
theorem mC:∀ {cs:List AV} {us:List Value},rM cs=some us→lH cs=some us
  |[],us,h=>h
  | c :: r,us,h=>by
    cases c with
    | lit v=>
      simp only[rM] at h
      split at h
      · rename_i l hl
        cases h
        simp[lH,mC hl]
      ·cases h
    |_=>simp[rM] at h
theorem ev_eq (y:Operand):(St sl m).eval y=eM sl y:=by rw[eX,dD]
theorem mem_eq (t:Nat):(St sl m).mem t=dX m t:=(gO m t).symm
theorem Jk (hΓ:Γ.Good P)(hd:cM N o.dst=true){t:TypeId}{y z:Operand}(ho:o.op=.indexAddr t y z)(h:Lv P N Γ o acc sl m R t (eM sl y) (eM sl z)):ow P N o acc sl m R:=by
  unfold Lv at h
  split at h
  · rename_i hz
    split at h
    · rename_i ht
      rw[cw] at ht
      have ok:=hΓ.look ht
      obtain⟨i,z',te⟩:=ok.2.2.2.2
      split at h
      · rename_i hy
        split at h
        · rename_i hm
          split at h
          · rename_i hw
            obtain⟨k,rfl,hk,h⟩:=h
            have hw':=beq_eq (by rw[←dW];exact hw)
            subst hw'
            refine⟨_,_,_,?_,h⟩
            have:=aD.v8 (P:=P) (N:=N) (σ:=St sl m) ho (by rw[ev_eq];exact hy) (by rw[ev_eq];exact hz) te.ty ok.2.2.2.1 (Int.natCast_nonneg k) (by omega) ⟨_,_,by rw[mem_eq];exact hm⟩ (aJ hd)
            simpa using this
          ·exact h
        ·exact h
      · rename_i hy
        split at h
        · rename_i hw
          obtain⟨k,r,rfl,hk,h⟩:=h
          have hw':=beq_eq (by rw[←dW];exact hw)
          subst hw'
          exact⟨_,_,_,aD.yB (P:=P) (N:=N) (σ:=St sl m) ho (by rw[ev_eq];exact hy) (by rw[ev_eq];exact hz) te.ty ok.2.2.2.1 (Int.natCast_nonneg k) (by simpa using hk) (aJ hd),h⟩
        ·exact h
      ·exact h
    · rename_i ht
      rw[cw] at ht
      have ok:=hΓ.look ht
      split at h
      · rename_i hy
        split at h
        · obtain⟨k,rfl,hk,h⟩:=h
          refine⟨_,_,_,?_,h⟩
          have:=aD.vr (P:=P) (N:=N) (σ:=St sl m) ho (by rw[ev_eq];exact hy) (by rw[ev_eq];exact hz) ok.2.2.2.1 ok.2.2.2.2 (Int.natCast_nonneg k) (by omega) (aJ hd)
          simpa using this
        · split at h
          · rename_i hm
            split at h
            · rename_i hw
              obtain⟨k,rfl,hk,h⟩:=h
              have hw':=beq_eq (by rw[←dW];exact hw)
              subst hw'
              refine⟨_,_,_,?_,h⟩
              have:=aD.Bv (P:=P) (N:=N) (σ:=St sl m) ho (by rw[ev_eq];exact hy) (by rw[ev_eq];exact hz) ok.2.2.2.1 ok.2.2.2.2 (Int.natCast_nonneg k) (by omega) ⟨_,_,by rw[mem_eq];exact hm⟩ (aJ hd)
              simpa[HY] using this
            ·exact h
          ·exact h
      ·exact h
    ·exact h
  ·exact h
theorem GI (hΓ:Γ.Good P)(hd:cM N o.dst=true){t:TypeId}{y:Operand}(ho:o.op=.load t y)(h:FB P N Γ o acc sl m R t (eM sl y)):ow P N o acc sl m R:=by
  unfold FB at h
  split at h
  · rename_i tk i k hy
    split at h
    ·exact iw hΓ hd h
    · split at h
      · rename_i hm
        obtain⟨r,hr,h⟩:=h
        rw[lq] at h
        cases hl:pD (kN Γ t) r k with
        |none=>rw[hl] at h;exact h
        | some x=>
          rw[hl] at h
          exact⟨_,_,_,aD.zH (P:=P) (N:=N) (σ:=St sl m) ho (by rw[ev_eq];exact hy) (by rw[mem_eq];exact hm) hr (kR hΓ (by rw[←cw,←nn];exact hl)) (aJ hd),h⟩
      ·exact h
  ·exact iw hΓ hd h
theorem DY (hΓ:Γ.Good P)(hd:cM N o.dst=true){t:TypeId}{y z:Operand}(ho:o.op=.store t y z)(h:Bd P N Γ o acc sl m R t (eM sl y) (eM sl z)):ow P N o acc sl m R:=by
  unfold Bd at h
  split at h
  · rename_i tk i k hy
    split at h
    ·exact iw hΓ hd h
    · split at h
      · rename_i hdst
        split at h
        · rename_i hm
          obtain⟨r,hr,h⟩:=h
          rw[lq] at h
          cases hl:rD (kN Γ t) r k (eM sl z) with
          |none=>rw[hl] at h;exact h
          | some r'=>
            rw[hl] at h
            have hs:=wQ (P:=P) (Γ:=Γ) (t:=t) hΓ (by rw[←cw];exact vk hl)
            exact⟨_,_,_,aD.store (P:=P) (N:=N) (σ:=St sl m) ho (by rw[ev_eq];exact hy) (by rw[ev_eq]) (by rw[mem_eq];exact hm) hr hs.1 hs.2.1 hs.2.2 hdst,h⟩
        ·exact h
      ·exact h
  ·exact h
theorem jl {d l:Int}{lo:Option Operand}(h:lA sl d lo=some l)(h0:0≤l):lo=none∧l.toNat=d.toNat∨∃z k,lo=some z∧(St sl m).eval z=.lit (.int k (l.toNat:Nat)):=by
  cases lo with
  |none=>simp only[lA,Option.some.injEq] at h;subst h;exact .inl ⟨rfl,rfl⟩
  | some z=>
    simp only[lA] at h
    split at h
    · rename_i k n he
      cases h
      exact .inr ⟨z,k,rfl,by rw[ev_eq,he,Int.toNat_of_nonneg h0]⟩
    ·cases h
theorem Jw (hΓ:Γ.Good P)(hd:cM N o.dst=true){t:TypeId}{y:Operand}{lo hi mx:Option Operand}(ho:o.op=.slice t y lo hi mx)(h:Iw P N Γ o acc sl m R t (eM sl y) lo hi mx):ow P N o acc sl m R:=by
  cases mx with
  | none =>
    simp only[Iw] at h
    split at h
    · rename_i ht
      rw[cw] at ht
      have ok:=hΓ.look ht
      obtain⟨i,z',te⟩:=ok.2.2.2.2
      split at h
      · rename_i hy
        split at h
        · rename_i hl hh hm
          split at h
          · rename_i hw
            obtain⟨a,n,rfl,rfl,hn,h⟩:=h
            have hw':=beq_eq (by rw[←dW];exact hw)
            subst hw'
            refine⟨_,_,_,?_,h⟩
            have:=aD.vF (P:=P) (N:=N) (σ:=St sl m) (l:=a) (h:=a+n) ho (by rw[ev_eq];exact hy) (by have:=jl (m:=m) hl (Int.natCast_nonneg _);simpa using this)
              (by rw[show((a:Int)+ (n:Int))=((a+n:Nat):Int) from by omega] at hh;have:=jl (m:=m) hh (Int.natCast_nonneg _);simp only[Int.toNat_natCast] at this;exact this) (by omega) (by omega) te.ty ok.2.2.2.1 ⟨_,_,by rw[mem_eq];exact hm⟩ (aJ hd)
            simpa using this
          ·exact h
        ·exact h
      · rename_i hy
        split at h
        · rename_i hl hh
          split at h
          · rename_i hw
            obtain⟨a,n,rows',rfl,rfl,hn,rfl,h⟩:=h
            have hw':=beq_eq (by rw[←dW];exact hw)
            subst hw'
            refine⟨_,_,_,?_,h⟩
            have:=aD.Ap (P:=P) (N:=N) (σ:=St sl m) (l:=a) (h:=a+n) ho (by rw[ev_eq];exact hy) (by have:=jl (m:=m) hl (Int.natCast_nonneg _);simpa using this)
              (by rw[show((a:Int)+ (n:Int))=((a+n:Nat):Int) from by omega] at hh;have:=jl (m:=m) hh (Int.natCast_nonneg _);simp only[Int.toNat_natCast] at this;exact this) (by omega) (by omega) te.ty ok.2.2.2.1 (aJ hd)
            simpa using this
          ·exact h
        ·exact h
      ·exact h
    · rename_i ht
      rw[cw] at ht
      have ok:=hΓ.look ht
      split at h
      · rename_i hy
        split at h
        · rename_i hl hh
          obtain⟨a,b,rfl,rfl,h1,h2,h⟩:=h
          exact⟨_,_,_,aD.GK (P:=P) (N:=N) (σ:=St sl m) (a:=a) (b:=b) ho (by rw[ev_eq];exact hy) ok.2.2.2 (by have:=jl (m:=m) hl (Int.natCast_nonneg _);simpa using this) (by have:=jl (m:=m) hh (Int.natCast_nonneg _);simpa using this) h1 h2 (aJ hd),h⟩
        ·exact h
      ·exact h
    ·exact h
  | some mx=>
    simp only[Iw] at h
    split at h
    · split at h
      · rename_i ht h1 h2
        rw[cw] at ht
        have ok:=hΓ.look ht
        obtain⟨i,z',te⟩:=ok.2.2.2.2
        split at h
        · rename_i hy
          obtain⟨⟨rfl,rfl⟩,h⟩:=h
          exact⟨_,_,_,aD.slice3 (P:=P) (N:=N) (σ:=St sl m) ho (by rw[ev_eq];exact hy) (.inl ⟨_,_,_,rfl⟩) (by rw[ev_eq];exact h1) (by rw[ev_eq];exact h2) te.ty ⟨_,ok.2.2.2.1⟩ (aJ hd),h⟩
        · rename_i hy
          obtain⟨⟨rfl,rfl⟩,h⟩:=h
          exact⟨_,_,_,aD.slice3 (P:=P) (N:=N) (σ:=St sl m) ho (by rw[ev_eq];exact hy) (.inr (.inl ⟨_,_,rfl⟩)) (by rw[ev_eq];exact h1) (by rw[ev_eq];exact h2) te.ty ⟨_,ok.2.2.2.1⟩ (aJ hd),h⟩
        · rename_i hy
          obtain⟨⟨rfl,rfl⟩,h⟩:=h
          exact⟨_,_,_,aD.slice3 (P:=P) (N:=N) (σ:=St sl m) ho (by rw[ev_eq];exact hy) (.inr (.inr (.inl rfl))) (by rw[ev_eq];exact h1) (by rw[ev_eq];exact h2) te.ty ⟨_,ok.2.2.2.1⟩ (aJ hd),h⟩
        ·exact h
      ·exact h
    ·exact h
theorem nj {wd:Nat}:∀ {k:Nat} {ps:List (Nat×AV)},mB wd k ps=true→jc wd k ps=true
  |k,[],_=>rfl
  | k, (i,x)::r,h=>by
    simp only[mB] at h
    split at h
    · rename_i h1 h2 h3
      rw[dW,cR,eI] at h2
      rw[nB] at h3
      have h4:jc wd (k+1) r=true:=nj h
      simp only[jc,bQ,beq_iff_eq]
      exact⟨⟨⟨beq_eq h1,beq_eq h2⟩,h3⟩,h4⟩
    ·cases h
theorem Io (hΓ:Γ.Good P)(hd:cM N o.dst=true){t:TypeId}{len:Nat}{parts:Array (Nat×Operand)}(ho:o.op=.buildSlice t len parts)(h:Kv P N Γ o acc sl m R t len parts.toList):ow P N o acc sl m R:=by
  unfold Kv at h
  split at h
  · rename_i d e wd bytes hdst ht
    rw[cw] at ht
    have ok:=hΓ.look ht
    obtain⟨i,z',te⟩:=ok.2.2.2.2
    split at h
    · rename_i hm
      split at h
      · rename_i g1 g2 g3
        have g1':=nj g1
        rw[eo] at g1'
        rw[dW,cR] at g2
        have g2':=beq_eq g2
        have g3':len*wd≤16777216:=cr g3
        have hev:(fun p:Nat×Operand=>(p.1,eM sl p.2))=fun p=>(p.1,(St sl m).eval p.2):=by funext p;rw[ev_eq]
        rw[hev] at g1'
        have hfi:=lK _ 0 [] g1' (by simp)
        have hmap:dU (fun(p:Nat×Operand)=>match p with|(_,y)=>eM sl y) parts.toList=(parts.toList.map fun p=>(p.1,(St sl m).eval p.2)).map (·.2):=by
          rw[eo,List.map_map];apply List.map_congr_left;intro p _;simp[ev_eq]
        have:=aD.buildSlice (P:=P) (N:=N) (σ:=St sl m) (tk:=lG d) ho te g3' (rows:=(parts.toList.map fun p=>(p.1,(St sl m).eval p.2)).map (·.2)) (by simp[←g2']) (lT _ 0 g1')
          (by simp only[List.nil_append,cj] at hfi;rw[←g2'];exact hfi) (by rw[mem_eq];exact hm) (aJ hd)
        rw[hmap] at h
        refine⟨_,_,_,?_,h⟩
        simp only[cj,g2'] at this
        exact this
      ·exact h
    ·exact h
  ·exact h
theorem Jb (hΓ:Γ.Good P)(hd:cM N o.dst=true){args:Array Operand}{types:Array TypeId}(ho:o.op=.call {callee:=.builtin .append,args:=args,argTypes:=types})(h:Kz P N Γ o acc sl m R args.toList types.toList):ow P N o acc sl m R:=by
  unfold Kz at h
  split at h
  · rename_i y z t t2 ea et
    obtain rfl:args= #[y,z]:=Array.ext' ea
    obtain rfl:types= #[t,t2]:=Array.ext' et
    split at h
    · rename_i d e wd bytes e2 wd2 bytes2 hdst ht ht2
      rw[cw] at ht ht2
      have ok:=hΓ.look ht
      obtain⟨i,z',te⟩:=ok.2.2.2.2
      have ok2:=hΓ.look ht2
      obtain⟨i2,z2,te2⟩:=ok2.2.2.2.2
      split at h
      · rename_i hm
        split at h
        · rename_i rb off len k rs off' len' rd hb hx
          obtain⟨rows0,news,c1,rfl,c2,rfl,c3,c4,c5,h⟩:=h
          have hb':rq (St sl m) wd ((St sl m).eval y) ((rb.drop off).take len) k:=by
            rw[ev_eq]
            unfold J9 at hb
            split at hb
            · rename_i hy
              split at hb
              · rename_i hmm
                split at hb
                ·rename_i hw;have hw':=beq_eq (by rw[←dW];exact hw);subst hw';cases hb;rw[hy];exact .own (by rw[mem_eq];exact hmm) c1
                ·cases hb
              ·cases hb
            ·rename_i hy;cases hb;rw[hy];simpa using rq.emp
            · rename_i hy
              split at hb
              ·rename_i hn;cases hb;rw[hy,eW hn];simpa using rq.nil
              ·cases hb
            ·cases hb
          have hx':Src (St sl m) wd ((St sl m).eval z) ((rs.drop off').take len') rd:=by
            rw[ev_eq]
            unfold ME at hx
            split at hx
            · rename_i hy
              split at hx
              · rename_i hmm
                split at hx
                ·rename_i hw;have hw':=beq_eq (by rw[←dW];exact hw);subst hw';cases hx;rw[hy];exact .own (by rw[mem_eq];exact hmm) c2
                ·cases hx
              ·cases hx
            · rename_i hy
              split at hx
              ·rename_i hw;have hw':=beq_eq (by rw[←dW];exact hw);subst hw';cases hx;rw[hy];simpa using Src.sl
              ·cases hx
            ·rename_i hy;cases hx;rw[hy];simpa using Src.emp
            · rename_i hy
              split at hx
              ·rename_i hn;cases hx;rw[hy,eW hn];simpa using Src.nil
              ·cases hx
            ·cases hx
          refine⟨_,_,_,?_,h⟩
          have:=aD.append (P:=P) (N:=N) (σ:=St sl m) (tn:=lG d) ho te te2.ty hb' hx' c3 c4 (by unfold maxLen;omega) (by rw[mem_eq];exact hm) (aJ hd)
          rw[gW,eo]
          exact this
        ·exact h
      ·exact h
    ·exact h
  ·exact h
theorem args_eq (args:Array Operand):args.toList.map (St sl m).eval=dU (eM sl) args.toList:=by
  rw[eo];apply List.map_congr_left;intro y _;exact ev_eq y
theorem Jc (hΓ:Γ.Good P)(hd:cM N o.dst=true){args:Array Operand}{types:Array TypeId}(ho:o.op=.call {callee:=.builtin .len,args:=args,argTypes:=types})(h:KZ P N Γ o acc sl m R args.toList types.toList):ow P N o acc sl m R:=by
  unfold KZ at h
  split at h
  · rename_i y t ea et
    obtain rfl:args= #[y]:=Array.ext' ea
    obtain rfl:types= #[t]:=Array.ext' et
    split at h
    ·rename_i hy;exact h ⟨y,ho,by rw[ev_eq];exact hy⟩
    ·rename_i hy;exact h ⟨y,ho,by rw[ev_eq];exact hy⟩
    ·exact iw hΓ hd h
  ·exact iw hΓ hd h
theorem I5 (hd:cM N o.dst=true){t:TypeId}{hint:Option Operand}(ho:o.op=.makeMap t hint)(h:LR P N o acc sl m R hint):ow P N o acc sl m R:=by
  cases hint with
  |some _=>exact h
  | none =>
    simp only[LR] at h
    split at h
    · rename_i d hdst
      split at h
      · rename_i hm
        exact⟨_,_,_,aD.makeMap (P:=P) (N:=N) (σ:=St sl m) (tk:=lG d) ho (by rw[mem_eq];exact hm) (aJ hd),h⟩
      ·exact h
    ·exact h
theorem GV (hΓ:Γ.Good P)(hd:cM N o.dst=true){c:Call}(ho:o.op=.call c)(h:FA P N Γ o acc sl m R c):ow P N o acc sl m R:=by
  obtain⟨callee,args,types⟩:=c
  unfold FA at h
  simp only at h
  split at h
  ·exact Jc hΓ hd ho h
  ·exact Jb hΓ hd ho h
  · split at h
    · refine h ?_
      have:=fF.func (σ:=St sl m) ho (by rfl)
      rw[show dU (eM sl) args.toList=args.toList.map (St sl m).eval from(args_eq args).symm]
      exact this
    · split at h
      · rename_i hy
        refine h ?_
        have:=fF.clo (σ:=St sl m) ho (by rw[ev_eq];exact hy)
        rw[gW,gW,show dU (eM sl) args.toList=args.toList.map (St sl m).eval from(args_eq args).symm,←List.append_assoc]
        exact this
      ·exact h
  ·exact h
theorem Jf (hΓ:Γ.Good P)(hd:cM N o.dst=true){op:BinOp}{t yt:TypeId}{y z:Operand}(ho:o.op=.binOp op t y z yt)(h:KG P N Γ o acc sl m R op t (eM sl y) (eM sl z)):ow P N o acc sl m R:=by
  unfold KG at h
  split at h
  · rename_i a b hx hy
    obtain⟨hn,h⟩:=h
    refine⟨_,_,_,aD.binOp (P:=P) (N:=N) (σ:=St sl m) ho (by rw[ev_eq];exact hx) (by rw[ev_eq];exact hy) (s6 (by simp only[xW,if_true];rw[IntWalk.i64_in _ hn]) _ _ _) (aJ hd),h⟩
  · rename_i a b hx hy
    obtain⟨hn,h⟩:=h
    refine⟨_,_,_,aD.binOp (P:=P) (N:=N) (σ:=St sl m) ho (by rw[ev_eq];exact hx) (by rw[ev_eq];exact hy) (s6 (by simp only[xW,if_true];rw[IntWalk.i64_in _ hn]) _ _ _) (aJ hd),h⟩
  · rename_i a b hx hy
    obtain⟨hn,h⟩:=h
    refine⟨_,_,_,aD.binOp (P:=P) (N:=N) (σ:=St sl m) ho (by rw[ev_eq];exact hx) (by rw[ev_eq];exact hy) (fun w=>by simp[eqGuard,binOp,run_string_add_sum w a b hn]) (aJ hd),h⟩
  · rename_i cs ds hx hy
    split at h
    · rename_i us vs h1 h2
      obtain⟨b,hr,h⟩:=h
      exact hO.Fu (R:=fun rd x ups=>R rd x ups acc sl m) ho (by rw[←dD];exact hx) (mC h1) (by rw[←dD];exact hy) (mC h2) (fun w=>hr y z w) hd h
    ·exact h
  · rename_i cs ds hx hy
    split at h
    · rename_i us vs h1 h2
      obtain⟨b,hr,h⟩:=h
      exact hO.Fu (R:=fun rd x ups=>R rd x ups acc sl m) ho (by rw[←dD];exact hx) (mC h1) (by rw[←dD];exact hy) (mC h2) (fun w=>hr y z w) hd h
    ·exact h
  ·exact iw hΓ hd h
theorem Fo (hΓ:Γ.Good P)(hd:cM N o.dst=true){t:TypeId}{y z:Operand}(ho:o.op=.index t y z)(h:Fx P N Γ o acc sl m R t (eM sl y) (eM sl z)):ow P N o acc sl m R:=by
  unfold Fx at h
  split at h
  · rename_i ht hy hz
    rw[cw] at ht
    have ok:=hΓ.look ht
    obtain⟨k,c,rfl,hc,h⟩:=h
    exact⟨_,_,_,aD.E1 (P:=P) (N:=N) (σ:=St sl m) ho (by rw[ev_eq];exact hy) (by rw[ev_eq];exact hz) ok.2.2.2 hc (aJ hd),h⟩
  ·exact h
theorem E2 (hd:cM N o.dst=true){src dst:TypeId}{y:Operand}(ho:o.op=.convert src dst y)(h:Gv P N o acc sl m R src dst (eM sl y)):ow P N o acc sl m R:=by
  unfold Gv at h
  split at h
  · rename_i hy
    obtain⟨r,hr,h⟩:=h
    exact⟨_,_,_,aD.Ch (P:=P) (N:=N) (σ:=St sl m) ho (by rw[ev_eq];exact hy) hr (aJ hd),h⟩
  · rename_i hy
    split at h
    · rename_i hm
      split at h
      · rename_i hw
        have hw':=beq_eq (by rw[←dW];exact hw)
        subst hw'
        obtain⟨bs,e,h1,h2,h3,h4,h5,h6,h⟩:=h
        exact⟨_,_,_,aD.FJ (P:=P) (N:=N) (σ:=St sl m) ho (by rw[ev_eq];exact hy) h1 h2 h3 (by rw[mem_eq];exact hm) h4 h5 h6 (aJ hd),h⟩
      ·exact h
    ·exact h
  ·exact h
theorem Em (hΓ:Γ.Good P)(hd:cM N o.dst=true){t:TypeId}(ho:o.op=.alloc t)(h:BA P N Γ o acc sl m R t):ow P N o acc sl m R:=by
  unfold BA at h
  split at h
  · rename_i hdst ht
    rw[cw] at ht
    have ok:=hΓ.look ht
    split at h
    ·exact iw hΓ hd h
    split at h
    · rename_i hs hm
      exact⟨_,_,_,aD.Et (P:=P) (N:=N) (σ:=St sl m) ho ok.2.2.1 hs (by rw[mem_eq];exact hm) (aJ hd),by rw[eo] at h;exact h⟩
    ·exact h
  ·exact iw hΓ hd h
theorem HJ (hΓ:Γ.Good P)(hd:cM N o.dst=true)(h:wpOp P N Γ o acc sl m R):ow P N o acc sl m R:=by
  unfold wpOp at h
  split at h
  ·rename_i ho;exact Em hΓ hd ho h
  ·rename_i ho;exact Jk hΓ hd ho h
  ·rename_i ho;exact GI hΓ hd ho h
  ·rename_i ho;exact DY hΓ hd ho h
  ·rename_i ho;exact Jw hΓ hd ho h
  ·rename_i ho;exact Io hΓ hd ho h
  ·rename_i ho;exact GV hΓ hd ho h
  ·rename_i ho;exact Jf hΓ hd ho h
  ·rename_i ho;exact Fo hΓ hd ho h
  ·rename_i ho;exact E2 hd ho h
  ·rename_i ho;exact I5 hd ho h
  ·rename_i ho;exact h ⟨_,_,ho,ev_eq _,ev_eq _⟩
  ·rename_i ho;exact h ⟨_,_,_,ho,ev_eq _,ev_eq _,ev_eq _⟩
  ·exact iw hΓ hd h
end
def iQ (ops:Array Oper):Nat→Nat→Nat→Bool
  |0,_,_=>false
  | n+1,j,i=>match ops[j]? with
    |none=>false
    |some o=>o.after.any fun e=>Region.binds .any e&&(e.on==i||iQ ops n e.on i)
def qE (ops:Array Oper)(listed:Array Bool):Prop:=∀ (m:Nat) (o:Oper),ops[m]? =some o→listed.getD m true=true→∀e∈o.after,Region.binds .any e=true→listed.getD e.on true=true
section
variable {P : Program} {N : Nat} {ops : Array Oper} {w0 : World} {W0 : Nat → Prop} {L μ : Mu} {σ : aA} {a : Act} {w : World}
theorem pG {listed:Array Bool}(hc:qE ops listed):∀ (n j i:Nat) (o:Oper),ops[j]? =some o→(∀e∈o.after,Region.binds .any e=true→listed.getD e.on true=true)→iQ ops n j i=true→listed.getD i true=true
  |0,_,_,_,_,_,h=>by cases h
  | n + 1,j,i,o,hj,ha,h=>by
    simp only[iQ,hj] at h
    rw[Array.any_eq_true] at h
    obtain⟨k,hk,h⟩:=h
    simp only[bQ,jK,beq_iff_eq] at h
    obtain⟨hb,h⟩:=h
    have hl:=ha _ (Array.getElem_mem hk) hb
    rcases h with h|h
    ·rw[←h];exact hl
    · cases hm:ops[(o.after[k]).on]? with
      | none=>cases n with
        |zero=>cases h
        |succ n=>simp[iQ,hm] at h
      |some o'=>exact pG hc n _ i o' hm (hc _ o' hm hl) h
theorem qE.set {listed:Array Bool}(hc:qE ops listed){j:Nat}{o:Oper}(hj:ops[j]? =some o)(ha:∀e∈o.after,Region.binds .any e=true→listed.getD e.on true=true):qE ops (listed.setIfInBounds j true):=by
  have up:∀i,listed.getD i true=true→(listed.setIfInBounds j true).getD i true=true:=fun i h=>by
    by_cases hij:j=i
    · subst hij
      by_cases hlt:j<listed.size
      ·simp[hlt]
      ·rw[Array.getD_eq_getD_getElem?,Array.getElem?_eq_none (by simpa using hlt)];rfl
    ·rw[getD_set_ne true hij];exact h
  intro m o' hm hl e he hb
  by_cases hjm:j=m
  · subst hjm
    rw[hj] at hm;cases hm
    exact up _ (ha e he hb)
  · rw[getD_set_ne true hjm] at hl
    exact up _ (hc m o' hm hl e he hb)
theorem zT {es:List iV}{K:aA→Prop}{i:Nat}{x:iV}(hf:∀ (j:Nat) (e:iV),es[j]? =some e→ops[j]? =some e.o)(hi:es[i]? =some x):
    ∀ (fuel:Nat) (listed:Array Bool) (σ:aA),qE ops listed→
      (∀ (j:Nat) (y:iV),es[j]? =some y→j≠i→listed.getD j true=false→(∀e∈y.o.after,Region.binds .any e=true→e.on≠i)→(∀n,iQ ops n j i=false)→x.o.apart ops y.o=true∧jz x.toks y.toks=true)→
      i∈Region.ready .any ops listed→Holds ops x σ→
      GR ops es K fuel (listed.setIfInBounds i true) (σ.app x)→GR ops es K (fuel+1) listed σ:=by
  intro fuel
  induction fuel with
  | zero=>
    intro listed σ _ _ hr hy H
    refine⟨fun h=>(by rw[h] at hr;cases hr),fun j hj=>?_⟩
    by_cases hji:j=i
    ·subst hji;exact⟨x,hi,hy,H⟩
    · have:=ready_mono hj hji
      rw[H.1] at this
      cases this
  | succ fuel ih=>
    intro listed σ hcl hfree hr hy H
    refine⟨fun h=>(by rw[h] at hr;cases hr),fun j hj=>?_⟩
    by_cases hji:j=i
    ·subst hji;exact⟨x,hi,hy,H⟩
    · obtain⟨y,hy1,hy2,hy3⟩:=H.2 j (ready_mono hj hji)
      obtain⟨hjun,oj,hoj,hall⟩:=mem_ready.1 hj
      have hoj':=hf j y hy1
      rw[hoj] at hoj'
      cases hoj'
      have hiun:¬listed.getD i true=true:=fun h1=>by
        have h0:=(mem_ready.1 hr).1
        rcases Nat.lt_or_ge i listed.size with h'|h'
        ·simp[h'] at h0 h1;rw[h0] at h1;cases h1
        ·simp[Array.getElem?_eq_none h'] at h0
      have hnot:∀e∈y.o.after,Region.binds .any e=true→e.on≠i:=fun e he hb heq=>hiun (by
        have h1:=hall e he hb
        rw[heq] at h1
        rcases Nat.lt_or_ge i listed.size with h'|h'
        ·simp[h'] at h1 ⊢;exact h1
        ·simp[Array.getElem?_eq_none h'])
      have hall':∀e∈y.o.after,Region.binds .any e=true→listed.getD e.on true=true:=fun e he hb=>by
        have h1:=hall e he hb
        rcases Nat.lt_or_ge e.on listed.size with h'|h'
        ·simp[h'] at h1 ⊢;exact h1
        ·simp[Array.getElem?_eq_none h']
      have hnr:∀n,iQ ops n j i=false:=fun n=>by
        cases hB:iQ ops n j i with
        |false=>rfl
        |true=>exact absurd (pG hcl n j i y.o hoj hall' hB) hiun
      obtain⟨hap,htok⟩:=hfree j y hy1 hji hjun hnot hnr
      obtain⟨s1,s2,s3⟩:=Oper.apart_spec hap
      obtain⟨t1,t2,t3⟩:=oq htok
      have hyσ:Holds ops y σ:=(Holds.app (x:=x) s1 t1).1 hy2
      refine⟨y,hy1,hyσ,?_⟩
      refine ih (listed.setIfInBounds j true) (σ.app y) (hcl.set hoj hall') (fun k z hk hki hun hno hnr=>?_) (ready_mono hr (Ne.symm hji)) ((Holds.app (x:=y) (y:=x) s3 t3).2 hy) ?_
      · refine hfree k z hk hki ?_ hno hnr
        by_cases hjk:j=k
        ·subst hjk;exact hjun
        ·rw[getD_set_ne true hjk] at hun;exact hun
      · rw[←Fm s2 htok,Array.setIfInBounds_comm _ _ hji]
        exact hy3
def ik (ops:Array Oper)(ts:List (List Nat×List Nat)):Bool:=
  (List.range ts.length).all fun j=>(List.range j).all fun i=>
    jz (ts.getD i ([],[])) (ts.getD j ([],[]))||(iQ ops 4 j i||iQ ops 9 j i)
theorem yy {es:List iV}(h:ik ops (es.map iV.toks)=true){i j:Nat}{x y:iV}(hij:i<j)(hx:es[i]? =some x)(hy:es[j]? =some y)
    (hno:∀n,iQ ops n j i=false):jz x.toks y.toks=true:=by
  unfold ik at h
  have hj:j<es.length:=(bg hy).1
  have:=List.all_eq_true.1 h j (by simpa using hj)
  have:=List.all_eq_true.1 this i (by simpa using hij)
  simp only[List.getD_eq_getElem?_getD,fH,hx,hy,Option.map_some,Option.getD_some,jK] at this
  rcases this with h'|h'|h'
  ·exact h'
  ·rw[hno] at h';cases h'
  ·rw[hno] at h';cases h'
theorem vQ {es:List iV}{K:aA→Prop}{l:List Oper}(hl:ops.toList=l)(hlen:es.length=l.length)(hf:∀ (i:Nat) (e:iV),es[i]? =some e→ops[i]? =some e.o)
    (hchain:∀ (k:Nat) (e e':iV),es[k]? =some e→es[k+1]? =some e'→e'.σ=e.σ.app e) (hlast:∀e,es.getLast? =some e→K (e.σ.app e))
    (htok:ik ops (es.map iV.toks)=true):
    ∀ (n k:Nat) (listed:Array Bool) (σ:aA),qE ops listed→n+k=es.length→(∀e,es[k]? =some e→e.σ=σ)→(n=0→K σ)→(∀j,j<k→listed.getD j true=true)→listed.size=ops.size→Region.lexFrom .any ops n k listed=true→
      GR ops es K n listed σ
  |0,k,listed,σ,hcl,hn,hσ,hK,hlst,hsz,hB=>⟨by simpa[Region.lexFrom] using hB,hK rfl⟩
  | n + 1, k,listed,σ,hcl,hn,hσ,hK,hlst,hsz,hB=>by
    simp only[Region.lexFrom,bQ] at hB
    obtain⟨⟨hr,hfr⟩,hB'⟩:=hB
    have hk:k<es.length:=by omega
    obtain⟨e,he⟩:∃e,es[k]? =some e:=⟨es[k],by simp[hk]⟩
    have hσe:=hσ e he
    have h0:=hf k e he
    have hall':∀d∈e.o.after,Region.binds .any d=true→listed.getD d.on true=true:=fun d hd hb=>by
      obtain⟨_,o1,ho1,hall⟩:=mem_ready.1 (show k∈Region.ready .any ops listed by simpa using hr)
      rw[h0] at ho1;cases ho1
      have h1:=hall d hd hb
      rcases Nat.lt_or_ge d.on listed.size with h'|h'
      ·simp[h'] at h1 ⊢;exact h1
      ·simp[Array.getElem?_eq_none h']
    refine zT hf he n listed σ hcl (fun j y hy hjk hun hno hnr=>⟨Region.free_spec h0 hfr j y.o (hf j y hy) hjk hun hno,?_⟩) (by simpa using hr) (by rw[←hσe];exact Holds.self) ?_
    · have hkj:k<j:=by
        rcases Nat.lt_trichotomy j k with h|h|h
        ·rw[hlst j h] at hun;cases hun
        ·exact absurd h hjk
        ·exact h
      exact yy htok hkj he hy hnr
    · refine vQ hl hlen hf hchain hlast htok n (k+1) _ _ (hcl.set h0 hall') (by omega) (fun e' he'=>by rw[hchain k e e' he he',hσe]) (fun hn0=>?_) (fun j hj=>?_) (by simp[hsz]) hB'
      · rw[←hσe]
        refine hlast e ?_
        rw[List.getLast?_eq_getElem?,show es.length-1=k from by omega];exact he
      · by_cases hjk:k=j
        · subst hjk
          have:k<listed.size:=by
            have:=(Array.getElem?_eq_some_iff.1 h0).1
            omega
          simp[this]
        ·rw[getD_set_ne true hjk];exact hlst j (by omega)
theorem gb.xD {rd:Option Nat}{Q:Exit→Act→World→Prop}{l:List Oper}{id:Nat}{K:aA→Prop}(hp:rd=none∨l.all mw=true)(hm:P.follows .mixedOrders=true)(hB:Region.lexB .any l.toArray=true)
    (h:gb P N l.toArray l σ (fun es σ'=>ik l.toArray (es.map iV.toks)=true∧K σ')) (hs:ck P N w0 W0 L μ σ a w)
    (hK:∀σ',K σ'→∀μ' a' w',ck P N w0 W0 L μ' σ' a' w'→Q .normal a' w'):(Code.region id l.toArray true).wpIn (jo rd) 0 P Q a w:=by
  simp only[Region.lexB,bQ] at hB
  obtain⟨es,σ',⟨htok,hk⟩,h2,h3,_,h5,h6,h7,h8⟩:=gb.trace h
  refine wpIn_region_any hm ?_
  have hf:∀ (i:Nat) (e:iV),es[i]? =some e→l.toArray[i]? =some e.o:=fun i e he=>by simpa using(h3 i e he).1
  refine pL (es:=es) (K:=K) (hp.imp (fun h=>h) fun h i o ho=>List.all_eq_true.1 h o (bT (by simpa using ho))) (fun i e he=>⟨hf i e he,(h3 i e he).2⟩) hK _ _ σ μ a _ ?_ (hs.drawn _)
  have hsize:l.toArray.size=es.length:=by simp[h2]
  rw[hsize]
  refine vQ (l:=l) (by simp) h2 hf h5 (fun e he=>by rw[←h7 e he];exact hk) htok es.length 0 _ σ (fun m o hm hl=>?_) (by omega) (fun e he=>h6 e he) (fun h0=>?_) (fun j hj=>by omega) (by simp[h2]) (by rw[←hsize];exact hB.2)
  · have hlt:=(Array.getElem?_eq_some_iff.1 hm).1
    simp at hl
    have:m<es.length:=by rw[h2];simpa using hlt
    simp[this] at hl
  ·rw[←h8 (List.eq_nil_of_length_eq_zero h0)];exact hk
theorem eH.xD {nL:Nat}{Q:Exit→aA→Prop}{id:Nat}{l:List Oper}(hm:P.follows .mixedOrders=true)(hB:Region.lexB .any l.toArray=true)
    (h:gb P N l.toArray l σ (fun es σ'=>ik l.toArray (es.map iV.toks)=true∧Q .normal σ')):eH P N nL (.region id l.toArray true) Q σ:=by
  intro rd hp w0 W0 L μ a w hL hs
  exact gb.xD (hp.imp (fun h=>h) fun h=>by simpa[dw] using h) hm hB h hs fun σ' hq μ' a' w' hs'=>⟨μ',σ',hq,hs'⟩
end
theorem DO {ops:Array Oper}{ts:List (List Nat×List Nat)}(h:(zm ops ts||ik ops ts)=true):ik ops ts=true:=by
  rcases jK _ _▸h with h|h
  · unfold zm at h
    unfold ik
    rw[List.all_eq_true] at h ⊢
    intro j hj
    have h1:=h j hj
    rw[List.all_eq_true] at h1 ⊢
    intro i hi
    have h2:=h1 i hi
    rw[jK] at h2
    rcases h2 with h2|h2
    · have h3:iQ ops 4 j i=true:=by
        cases ho:ops[j]? with
        |none=>rw[ho] at h2;cases h2
        | some o=>
          rw[ho] at h2
          simp only[iQ,ho]
          rw[Array.any_eq_true] at h2 ⊢
          obtain⟨k,hk,h4⟩:=h2
          refine⟨k,hk,?_⟩
          rw[bQ] at h4 ⊢
          exact⟨h4.1,by rw[h4.2];rfl⟩
      rw[h3];simp
    ·rw[h2];rfl
  ·exact h
@[reducible] def j9 (N : Nat) : Option Nat → Bool
  |none=>true
  |some d=>Nat.ble (Nat.add d 1) N
theorem yg {N:Nat}{d:Option Nat}(h:j9 N d=true):cM N d=true:=by
  cases d with
  |none=>rfl
  |some d=>simp only[j9] at h;simp only[cM,bO];exact cr h
@[reducible] def oQ (l : List Nat) (k : Nat) : Bool :=
  match l with
  |[]=>false
  | x::r=>match Nat.beq x k with
    |true=>true
    |false=>oQ r k
@[reducible] def N7 : Bool → Bool → Bool
  |true,true=>true
  |false,false=>true
  |_,_=>false
theorem CK {a b:Bool}:N7 a b=(a==b):=by cases a<;>cases b<;>rfl
@[reducible] def pN (dr : Bool) (acc : Tk) (rd : List Nat) (ups : ML) : Tk :=
  match dr with
  |true=>dL acc [(rd,dU Prod.fst ups)]
  |false=>acc
def bG (acc:Tk)(sl:SL)(m:ML){A:Tk→SL→ML→Prop}:Prop:=A acc sl m
@[reducible] def l6 (rest : List Oper) (acc : Tk) (sl : SL) (m : ML) (F : Tk → SL → ML → Prop) : Prop :=
  match Nat.beq (Nat.mod (eL rest) 4) 3 with
  |true=>bG acc sl m (A:=F)
  |false=>F acc sl m
theorem wq {rest:List Oper}{acc:Tk}{sl:SL}{m:ML}{F:Tk→SL→ML→Prop}(h:l6 rest acc sl m F):F acc sl m:=by
  unfold l6 at h
  split at h<;>exact h
section
variable (P : Program) (N : Nat) (Γ : bZ) (ds : List (Option Nat)) (dr : Bool)
@[reducible] def wpOps : List Oper → List Nat → Tk → SL → ML → (Tk → SL → ML → Prop) → Prop
  |[],_,acc,sl,m,K=>K acc sl m
  | o :: rest, gs, acc,sl,m,K=>match j9 N o.dst with
    |false=>False
    | true => match o.guard with
      |none=>wpOp P N Γ o acc sl m (fun rd x ups acc sl m=>l6 rest (pN dr acc rd ups) (pushB o.dst x sl) (uX ups m) (fun acc sl m=>wpOps rest gs acc sl m K))
      | some (j, b)=>match gd ds j with
        | some (some d)=>match Nat.ble (Nat.add d 1) N with
          |false=>False
          | true =>match sS sl d with
            | .lit (.bool c)=>match oQ gs j with
              | true=>match N7 c b with
                |true=>wpOp P N Γ o acc sl m (fun rd x ups acc sl m=>l6 rest (pN dr acc rd ups) (pushB o.dst x sl) (uX ups m) (fun acc sl m=>wpOps rest gs acc sl m K))
                |false=>l6 rest (pN dr acc [] []) (pushB o.dst (.lit (.tuple #[])) sl) m (fun acc sl m=>wpOps rest gs acc sl m K)
              | false=>bk c acc sl m
                (A :=fun acc sl m=>match b with
                  |true=>wpOp P N Γ o acc (ql d (.lit (.bool true)) sl) m (fun rd x ups acc sl m=>l6 rest (pN dr acc rd ups) (pushB o.dst x sl) (uX ups m) (fun acc sl m=>wpOps rest (j::gs) acc sl m K))
                  |false=>l6 rest (pN dr acc [] []) (pushB o.dst (.lit (.tuple #[])) (ql d (.lit (.bool true)) sl)) m (fun acc sl m=>wpOps rest (j::gs) acc sl m K))
                (B :=fun acc sl m=>match b with
                  |false=>wpOp P N Γ o acc (ql d (.lit (.bool false)) sl) m (fun rd x ups acc sl m=>l6 rest (pN dr acc rd ups) (pushB o.dst x sl) (uX ups m) (fun acc sl m=>wpOps rest (j::gs) acc sl m K))
                  |true=>l6 rest (pN dr acc [] []) (pushB o.dst (.lit (.tuple #[])) (ql d (.lit (.bool false)) sl)) m (fun acc sl m=>wpOps rest (j::gs) acc sl m K))
            |.lit (.tuple _)=>l6 rest (pN dr acc [] []) (pushB o.dst (.lit (.tuple #[])) sl) m (fun acc sl m=>wpOps rest gs acc sl m K)
            |_=>False
        |_=>False
end
def aL (P:Program){l:List Oper}(acc:Tk)(sl:SL)(m:ML){A:SL→ML→Prop}:Prop:=
  P.follows .mixedOrders=true∧Region.lexB .any l.toArray=true∧(zm l.toArray acc||ik l.toArray acc)=true∧A sl m
def bF (sl:SL)(m:ML){A:SL→ML→Prop}:Prop:=A sl m
def o8 (p q:Prop)(sl:SL)(m:ML){A B:SL→ML→Prop}:Prop:=(p→A sl m)∧(q→B sl m)
def MC (Q:Exit→SL→ML→Prop):Exit→aA→Prop:=fun e σ=> ∃sl m,σ=St sl m∧Q e sl m
def cn (P:Program)(N nL:Nat)(sl:SL)(m:ML){c:Code}{Q:Exit→SL→ML→Prop}:Prop:=eH P N nL c (MC Q) (St sl m)
section
variable (P : Program) (N nL : Nat) (Γ : bZ)
@[reducible] def ug : Code → SL → ML → (Exit → SL → ML → Prop) → Prop
  |.skip,sl,m,Q=>Q .normal sl m
  | .region _ ops dr,sl,m,Q=>wpOps P N Γ (dU Oper.dst ops.toList) dr ops.toList [] [] sl m (fun acc sl m=>match dr with
    |false=>Q .normal sl m
    |true=>aL P (l:=ops.toList) acc sl m (A:=Q .normal))
  | .seq a b,sl,m,Q=>ug a sl m (fun e sl m=>match e with
    |.normal=>bF sl m (A:=fun sl m=>ug b sl m Q)
    |e=>Q e sl m)
  | .cond x a b,sl,m,Q=>match eM sl x with
    |.lit (.bool c)=>bk c [] sl m (A:=fun _ sl m=>ug a sl m Q) (B:=fun _ sl m=>ug b sl m Q)
    |.guess p q=>o8 p q sl m (A:=fun sl m=>ug a sl m Q) (B:=fun sl m=>ug b sl m Q)
    |_=>False
  | .block id c,sl,m,Q=>ug c sl m (fun e sl m=>match e with
    | .exit j=>match Nat.beq j id with
      |true=>Q .normal sl m
      |false=>Q (.exit j) sl m
    |e=>Q e sl m)
  |.exit i,sl,m,Q=>Q (.exit i) sl m
  |.ret,sl,m,Q=>Q .ret sl m
  |.label _,sl,m,Q=>Q .normal sl m
  |c,sl,m,Q=>cn P N nL sl m (c:=c) (Q:=Q)
end
section
variable {P : Program} {N nL : Nat} {Γ : bZ} {ds : List (Option Nat)} {dr : Bool} {ops : Array Oper}
theorem zB {sl:SL}{m:ML}{d:Nat}{x:AV}(h:sS sl d=x):St (ql d x sl) m=St sl m:=by
  unfold St
  congr 1
  funext i
  rw[nE]
  simp only[cq]
  by_cases hi:i=d
  ·subst hi;simp[←h,gR]
  · have:(i==d)=false:=by simpa using hi
    rw[this];rfl
def KA (dr:Bool)(acc:Tk)(K:Tk→SL→ML→Prop):List iV→aA→Prop:=fun es σ'=> ∃sl m,σ'=St sl m∧K (if dr then acc++es.map iV.toks else acc) sl m
theorem uN (hΓ:Γ.Good P)(hds:∀j:Nat,(ops[j]?).bind (·.dst)=(ds[j]?).bind id):∀ (l:List Oper) (gs:List Nat) (acc:Tk) (sl:SL) (m:ML) (K:Tk→SL→ML→Prop),wpOps P N Γ ds dr l gs acc sl m K→
    gb P N ops l (St sl m) (KA dr acc K)
  | [],gs,acc,sl,m,K,h=>by
    simp only[gb,KA,List.map_nil,List.append_nil,ite_self]
    exact⟨sl,m,rfl,h⟩
  | o :: rest, gs,acc,sl,m,K,h=>by
    unfold wpOps at h
    split at h
    ·exact h.elim
    rename_i hd0
    have hd:=yg hd0
    have toks:∀ (rd:List Nat) (x:AV) (ups:ML) (w:Bool) (sl1:SL) (es:List iV),(if dr then pN dr acc rd ups++es.map iV.toks else pN dr acc rd ups)=(if dr then acc++ (iV.mk o w (St sl1 m) rd x ups::es).map iV.toks else acc):=by
      intro rd x ups w sl1 es
      cases dr with
      |true=>simp[pN,gW,eo,iV.toks]
      |false=>simp[pN]
    have go:∀ (sl:SL) (gs:List Nat),fJ N ops o (St sl m) true→wpOp P N Γ o acc sl m (fun rd x ups acc sl m=>l6 rest (pN dr acc rd ups) (pushB o.dst x sl) (uX ups m) (fun acc sl m=>wpOps P N Γ ds dr rest gs acc sl m K))→
        gb P N ops (o::rest) (St sl m) (KA dr acc K):=by
      intro sl gs hw h
      obtain⟨rd,x,ups,h1,h2⟩:=HJ hΓ hd h
      refine⟨⟨o,true,St sl m,rd,x,ups⟩,rfl,rfl,⟨hw,aJ hd,fun _=>h1,fun h=>by cases h⟩,?_⟩
      have:=uN hΓ hds rest _ _ _ _ _ (wq h2)
      rw[show aA.app (St sl m) ⟨o,true,St sl m,rd,x,ups⟩=St (pushB o.dst x sl) (uX ups m) from(tM sl m ups o.dst x).trans (sy _ _ _ _ _)]
      unfold KA at this ⊢
      simp only[toks rd x ups true sl] at this
      exact this
    have skip:∀ (sl:SL) (gs:List Nat),fJ N ops o (St sl m) false→l6 rest (pN dr acc [] []) (pushB o.dst (.lit (.tuple #[])) sl) m (fun acc sl m=>wpOps P N Γ ds dr rest gs acc sl m K)→gb P N ops (o::rest) (St sl m) (KA dr acc K):=by
      intro sl gs hw h
      refine⟨⟨o,false,St sl m,[],.lit undef,[]⟩,rfl,rfl,⟨hw,aJ hd,(fun h=>by cases h),fun _=>⟨rfl,rfl⟩⟩,?_⟩
      have:=uN hΓ hds rest _ _ _ _ _ (wq h)
      rw[show aA.app (St sl m) ⟨o,false,St sl m,[],.lit undef,[]⟩=St (pushB o.dst (.lit (.tuple #[])) sl) m from(tM sl m [] o.dst _).trans (sy _ _ _ _ _)]
      unfold KA at this ⊢
      simp only[toks [] (.lit (.tuple #[])) [] false sl] at this
      exact this
    split at h
    · rename_i hg
      exact go sl gs (by simp[fJ,hg]) h
    · rename_i j b hg
      split at h
      · rename_i d hj
        rw[eU] at hj
        split at h
        ·exact h.elim
        · rename_i hN
          have hdN:d<N:=cr hN
          split at h
          · rename_i c hc
            have hw:∀c',c=c'→∀sl',sS sl' d=.lit (.bool c')→fJ N ops o (St sl' m) (c'==b):=by
              intro c' _ sl' hl
              simp only[fJ,hg]
              exact⟨d,.bool c',by rw[hds,hj];rfl,hdN,by show cq sl' d=_;rw[←gR];exact hl,rfl⟩
            have hput:∀x,sS (ql d x sl) d=x:=fun x=>by rw[gR,nE];simp[cq]
            split at h
            · split at h
              · rename_i he
                rw[CK] at he
                exact go sl gs (by have:=hw c rfl sl hc;rwa [he] at this) h
              · rename_i he
                rw[CK] at he
                exact skip sl gs (by have:=hw c rfl sl hc;rwa [he] at this) h
            · cases c with
              | true=>
                have h:=h.1 rfl
                rw[←zB (m:=m) hc]
                cases b with
                |true=>exact go _ _ (hw true rfl _ (hput _)) h
                |false=>exact skip _ _ (hw true rfl _ (hput _)) h
              | false=>
                have h:=h.2 rfl
                rw[←zB (m:=m) hc]
                cases b with
                |true=>exact skip _ _ (hw false rfl _ (hput _)) h
                |false=>exact go _ _ (hw false rfl _ (hput _)) h
          · rename_i vs hc
            refine skip sl gs ?_ h
            simp only[fJ,hg]
            exact⟨d,.tuple vs,by rw[hds,hj];rfl,hdN,by show cq sl d=_;rw[←gR];exact hc,rfl⟩
          ·exact h.elim
      ·exact h.elim
theorem gb.post {l:List Oper}:∀ {σ:aA} {K K':List iV→aA→Prop},(∀es σ',K es σ'→K' es σ')→gb P N ops l σ K→gb P N ops l σ K':=by
  induction l with
  |nil=>intro σ K K' hk h;exact hk _ _ h
  | cons o rest ih=>
    intro σ K K' hk h
    obtain⟨e,h1,h2,h3,h4⟩:=h
    exact⟨e,h1,h2,h3,ih (fun es σ' h=>hk _ _ h) h4⟩
theorem mN (hΓ:Γ.Good P):∀ (c:Code) (sl:SL) (m:ML) (Q:Exit→SL→ML→Prop),ug P N nL Γ c sl m Q→eH P N nL c (MC Q) (St sl m):=by
  have reg:∀ (id:Nat) (ops:Array Oper) (dr:Bool) (sl:SL) (m:ML) (Q:Exit→SL→ML→Prop),ug P N nL Γ (.region id ops dr) sl m Q→eH P N nL (.region id ops dr) (MC Q) (St sl m):=by
    intro id ops dr sl m Q h
    unfold ug at h
    have h1:=uN (ops:=ops) hΓ (fun j=>by simp[eo,fH,Option.bind_map]) ops.toList [] [] sl m _ h
    obtain⟨l⟩:=ops
    cases dr with
    | false=>
      refine eH.region (gb.post ?_ h1)
      rintro es σ' ⟨sl',m',rfl,hk⟩
      exact⟨sl',m',rfl,hk⟩
    | true=>
      have hh:gb P N l.toArray l (St sl m) (fun es σ'=>P.follows .mixedOrders=true∧Region.lexB .any l.toArray=true∧ik l.toArray (es.map iV.toks)=true∧MC Q .normal σ'):=by
        refine gb.post ?_ h1
        rintro es σ' ⟨sl',m',rfl,k1,k2,k3,k4⟩
        exact⟨k1,k2,DO (by simpa using k3),sl',m',rfl,k4⟩
      obtain⟨es,σ',⟨k1,k2,_,_⟩,_⟩:=hh.trace
      exact eH.xD k1 k2 (gb.post (fun es σ' h=>⟨h.2.2.1,h.2.2.2⟩) hh)
  intro c
  induction c with
  |skip=>intro sl m Q h;exact eH.skip ⟨sl,m,rfl,h⟩
  |region id ops dr=>intro sl m Q h;exact reg id ops dr sl m Q h
  | seq a b iha ihb=>
    intro sl m Q h
    refine eH.seq ((iha sl m _ h).mono ?_)
    rintro e σ ⟨sl',m',rfl,h'⟩
    cases e with
    |normal=>exact ihb sl' m' Q h'
    |_=>exact⟨sl',m',rfl,h'⟩
  | cond x a b iha ihb=>
    intro sl m Q h
    unfold ug at h
    split at h
    · rename_i c hc
      exact eH.cond (by rw[ev_eq];exact hc) (fun hb=>iha sl m Q (h.1 hb)) (fun hb=>ihb sl m Q (h.2 hb))
    · rename_i p q hc
      exact eH.Ea (by rw[ev_eq];exact hc) (fun hb=>iha sl m Q (h.1 hb)) (fun hb=>ihb sl m Q (h.2 hb))
    ·exact h.elim
  | block id c ih=>
    intro sl m Q h
    refine eH.block ((ih sl m _ h).mono ?_)
    rintro e σ ⟨sl',m',rfl,h'⟩
    cases e with
    | exit j=>
      simp only at h'
      simp only[pZ]
      split at h'
      ·rename_i hj;rw[if_pos (beq_eq hj)];exact⟨sl',m',rfl,h'⟩
      · rename_i hj
        rw[if_neg (fun e=>by rw[e,Nat.beq_refl] at hj;cases hj)]
        exact⟨sl',m',rfl,h'⟩
    |_=>exact⟨sl',m',rfl,h'⟩
  |exit i=>intro sl m Q h;exact eH.exit ⟨sl,m,rfl,h⟩
  |ret=>intro sl m Q h;exact eH.ret ⟨sl,m,rfl,h⟩
  |label l=>intro sl m Q h;exact eH.label ⟨sl,m,rfl,h⟩
  |_=>intros;assumption
end
end Go.Am
