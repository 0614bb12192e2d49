/- Walks of functions by unfolding over abstract states; runs of functions by an evaluator that is proved. By an AI agent. -/
import Derived.Test.YtkhjcnjicjgfiaaGreatDoorWN7
import Derived.Test.YtkhjcnjicjgfiaaGreatDoorWN5
set_option linter.unusedSimpArgs false
set_option linter.unusedVariables false
namespace Go.Am
open Go
@[reducible] def Jc : Nat → Nat → Nat
  |0,k=>k
  |n+1,k=>Nat.add (n+1) k
theorem HM (a b:Nat):Jc a b=a+b:=by cases a<;>simp[Jc]
@[reducible] def yl : Value → Bool
  |.agg _=>false
  |_=>true
theorem s6 {v:Value}(h:yl v=true):cells (.lit v)=[.lit v]:=by cases v<;>first|rfl|cases h
theorem wc:∀ {l:List Value},iZ yl l=true→flat (l.map .lit)=l.map .lit
  |[],_=>rfl
  | v ::r,h=>by
    simp only[iZ] at h
    split at h
    · rename_i hv
      show cells (.lit v)++flat (r.map .lit)=_
      rw[s6 hv,wc h];rfl
    ·cases h
theorem vL:∀ {l:List Value},iZ yl l=true→bG 1 (l.map .lit)
  |[],_=>bG.nil 1
  | v ::r,h=>by
    simp only[iZ] at h
    split at h
    · rename_i hv
      exact .cons (by rw[s6 hv];rfl) (vL h)
    ·cases h
theorem aH.CV {P:Program}{N:Nat}{o:Oper}{σ:az}{t:TypeId}{tk:Nat}{z:Array Value}(ho:o.op=.alloc t)(hz:jj P t (.agg z))(hs:iZ yl z.toList=true)(hf:σ.mem tk=.free)(hd:∀d,o.dst=some d→d<N):
    aH P N o σ [tk] (.ptr tk 0 0) [(tk,.live 1 (z.toList.map .lit) false)]:=
  .new hf (vL hs) (fun σ2 he2 w0 W0 L μ a w h=>by
    refine⟨z,t,.pointer (some ⟨w.heap.size,0,none⟩),w.drawn,?_,?_,fun q c hq=>?_,.inl ⟨rfl,rfl⟩⟩
    ·simp[execOp,ho,Instr.alloc,hz w,newVar,newRow,Value.cells]
    ·simp
    · rw [wc hs,fI] at hq
      cases hv:z.toList[q]? with
      |none=>rw[hv] at hq;cases hq
      | some v=>
        rw[hv] at hq
        cases hq
        exact⟨v,by rw[←Array.getElem?_toList];exact hv,.lit⟩) hd
theorem aH.Ad {P:Program}{N:Nat}{o:Oper}{σ:az}{y z:Operand}{t e:TypeId}{tk i0 k0 wd n:Nat}{kd:IntKind}{i:Int}(ho:o.op=.indexAddr t y z)(he:σ.eval y=.ptr tk i0 k0)(hz:σ.eval z=.lit (.int kd i))
    (ht:Ai P t n e) (hsz:eM P e wd) (h0:0≤i) (h1:i<n) (hwd:∃rows ro,σ.mem tk=.live wd rows ro) (hd:∀d,o.dst=some d→d<N):aH P N o σ [tk] (.ptr tk (i0+i.toNat) k0) []:=
  .val (fun σ2 he2 hrd w0 W0 L μ a w hs=>by
    have k1:=hs.eval y
    have k2:=hs.eval z
    rw[he2 y (by simp[ho,Op.operands]),he] at k1
    rw[he2 z (by simp[ho,Op.operands]),hz] at k2
    obtain⟨rows,ro,hm⟩:=hwd
    have hm2:σ2.mem tk=.live wd rows ro:=by rw[hrd tk (by simp)];exact hm
    obtain⟨B,hB,hobj⟩:=hs.objs tk wd rows ro hm2
    generalize hv:a.eval y=v at k1
    cases k1 with
    | @ptr _ _ _ B' a1 ap=>
      rw[hB] at a1;cases a1
      refine⟨.pointer (some ⟨B.b,B.o+ ((i0+i.toNat)*B.wd+k0),none⟩),?_,.ptr hB ap⟩
      simp[execOp,ho,hv,k2.val,Instr.indexAt,asIntOf,run_underlying ht,hsz w,h0,h1,Addr.add_lit,Instr.sureAddr,hobj.width,Nat.add_mul,Nat.add_assoc,Nat.add_comm,Nat.add_left_comm]) hd
section
variable (P : Program) (N : Nat) (Γ : cQ) (o : Oper) (acc : Tk) (sl : SL) (m : ML) (R : Rest)
@[reducible] def Je (t : TypeId) (y z : AV) : Prop :=
  match z with
  | .lit (.int _ i)=>match qk Γ t with
    | some (.sl _ wd _)=>match y with
      | .own tk off len=>match eD m tk with
        | .live wd' _ _=>match r8 wd' wd with
          |true=>ee i len acc sl m (A:=fun k=>R [tk] (.ptr tk (off+k) 0) [])
          |false=>aW P N acc sl m (o:=o) (R:=R)
        |_=>aW P N acc sl m (o:=o) (R:=R)
      | .sl wd' rows=>match r8 wd' wd with
        |true=>bg rows i acc sl m (A:=fun r=>R [] (.fptr r 0) [])
        |false=>aW P N acc sl m (o:=o) (R:=R)
      |_=>aW P N acc sl m (o:=o) (R:=R)
    | some (.ar _ len _ wd _)=>match y with
      | .ptr tk i0 k0=>match uU tk with
        |true=>ee i len acc sl m (A:=fun k=>R [] (.ptr tk i0 (Nat.add k0 (Nat.mul k wd))) [])
        | false=>match eD m tk with
          | .live wd' _ _=>match r8 wd' wd with
            |true=>ee i len acc sl m (A:=fun k=>R [tk] (.ptr tk (Jc i0 k) k0) [])
            |false=>aW P N acc sl m (o:=o) (R:=R)
          |_=>aW P N acc sl m (o:=o) (R:=R)
      |_=>aW P N acc sl m (o:=o) (R:=R)
    |_=>aW P N acc sl m (o:=o) (R:=R)
  |_=>aW P N acc sl m (o:=o) (R:=R)
@[reducible] def DX (t : TypeId) (y : AV) : Prop :=
  match y with
  | .ptr tk i k=>match uU tk with
    |true=>rY P N o acc sl m R (di Γ sl m o.dst o.op)
    | false=>match eD m tk with
      |.live _ rows _=>aT rows i acc sl m (A:=fun r acc sl m=>rY P N o acc sl m R (uK (fun x=>([tk],x,[])) (rL (qk Γ t) r k)))
      |_=>aW P N acc sl m (o:=o) (R:=R)
  |_=>rY P N o acc sl m R (di Γ sl m o.dst o.op)
@[reducible] def Ar (t : TypeId) (y z : AV) : Prop :=
  match y with
  | .ptr tk i k=>match uU tk with
    |true=>rY P N o acc sl m R (di Γ sl m o.dst o.op)
    | false=>match o.dst with
      | none=>match eD m tk with
        |.live wd rows false=>aT rows i acc sl m (A:=fun r acc sl m=>rY P N o acc sl m R (uK (fun r'=>([tk],.any,[(tk,.live wd (rows.set i r') false)])) (qU (qk Γ t) r k z)))
        |_=>aW P N acc sl m (o:=o) (R:=R)
      |some _=>aW P N acc sl m (o:=o) (R:=R)
  |_=>aW P N acc sl m (o:=o) (R:=R)
@[reducible] def lP (d : Int) : Option Operand → Option Int
  |none=>some d
  | some z=>match eZ sl z with
    |.lit (.int _ n)=>some n
    |_=>none
@[reducible] def Hp (t : TypeId) (y : AV) (lo hi : Option Operand) : Option Operand → Prop
  | none =>match qk Γ t with
    | some (.sl _ wd _)=>match y with
      | .own tk off len=>match lP sl 0 lo,lP sl len hi,eD m tk with
        | some l,some h,.live wd' _ _=>match r8 wd' wd with
          |true=>A0 l h len acc sl m (A:=fun a n=>R [tk] (.own tk (off+a) n) [])
          |false=>aW P N acc sl m (o:=o) (R:=R)
        |_,_,_=>aW P N acc sl m (o:=o) (R:=R)
      | .sl wd' rows=>match lP sl 0 lo,lP sl rows.length hi with
        | some l,some h=>match r8 wd' wd with
          |true=>zO l h rows acc sl m (A:=fun rows'=>R [] (.sl wd rows') [])
          |false=>aW P N acc sl m (o:=o) (R:=R)
        |_,_=>aW P N acc sl m (o:=o) (R:=R)
      |_=>aW P N acc sl m (o:=o) (R:=R)
    | some .str=>match y with
      | .lit (.string s)=>match lP sl 0 lo,lP sl s.size hi with
        |some l,some h=>EA s l h acc sl m (A:=fun s=>R [] (.lit (.string s)) [])
        |_,_=>aW P N acc sl m (o:=o) (R:=R)
      |_=>aW P N acc sl m (o:=o) (R:=R)
    |_=>aW P N acc sl m (o:=o) (R:=R)
  | some mx=>match lo,hi with
    | none,some hi=>match qk Γ t,eZ sl hi,eZ sl mx with
      | some (.sl _ _ _),.lit (.int _ a),.lit (.int _ b)=>match y with
        |.own _ _ _=>bE (a=0∧b=0) acc sl m (A:=R [] .emp [])
        |.sl _ _=>bE (a=0∧b=0) acc sl m (A:=R [] .emp [])
        |.emp=>bE (a=0∧b=0) acc sl m (A:=R [] .emp [])
        |_=>aW P N acc sl m (o:=o) (R:=R)
      |_,_,_=>aW P N acc sl m (o:=o) (R:=R)
    |_,_=>aW P N acc sl m (o:=o) (R:=R)
@[reducible] def qj (wd : Nat) : Nat → List (Nat × AV) → Bool
  |_,[]=>true
  | k,(i,x)::r=>match Nat.beq i k,r8 (eV (dA x)) wd,uw x with
    |true,true,true=>qj wd (Nat.add k 1) r
    |_,_,_=>false
@[reducible] def lI (d : Nat) : Nat := Nat.add (Nat.mul 10 d) 1
@[reducible] def JM (t : TypeId) (len : Nat) (parts : List (Nat × Operand)) : Prop :=
  match o.dst,qk Γ t with
  | some d,some (.sl _ wd _)=>match eD m (lI d) with
    | .free=>match qj wd 0 (ef (fun(p:Nat×Operand)=>match p with|(i,y)=>(i,eZ sl y)) parts),r8 (eV parts) len,Nat.ble (Nat.mul len wd) 16777216 with
      |true,true,true=>R [lI d] (.own (lI d) 0 len) [(lI d,.live wd (ef (fun(p:Nat×Operand)=>match p with|(_,y)=>eZ sl y) parts) false)] acc sl m
      |_,_,_=>aW P N acc sl m (o:=o) (R:=R)
    |_=>aW P N acc sl m (o:=o) (R:=R)
  |_,_=>aW P N acc sl m (o:=o) (R:=R)
@[reducible] def KG (wd : Nat) : AV → Option (List AV × Nat × Nat × List Nat)
  | .own t off len=>match eD m t with
    | .live wd' rows _=>match r8 wd' wd with
      |true=>some (rows,off,len,[t])
      |false=>none
    |_=>none
  | .sl wd' rows=>match r8 wd' wd with
    |true=>some (rows,0,rows.length,[])
    |false=>none
  |.emp=>some ([],0,0,[])
  | .lit v=>match Aw v with
    |true=>some ([],0,0,[])
    |false=>none
  |_=>none
@[reducible] def IE (wd : Nat) : AV → Option (List AV × Nat × Nat × List Nat)
  | .own t off len=>match eD m t with
    | .live wd' rows false=>match r8 wd' wd with
      |true=>some (rows,off,len,[t])
      |false=>none
    |_=>none
  |.emp=>some ([],0,0,[])
  | .lit v=>match Aw v with
    |true=>some ([],0,0,[])
    |false=>none
  |_=>none
@[reducible] def JT (args : List Operand) (types : List TypeId) : Prop :=
  match args,types with
  | [y, z], [t,t2]=>match o.dst,qk Γ t,qk Γ t2 with
    | some d,some (.sl _ wd bytes),some (.sl _ _ _)=>match eD m (lI d) with
      | .free=>match IE m wd (eZ sl y),KG m wd (eZ sl z) with
        |some (rb,off,len,k),some (rs,off',len',rd)=>iT rb off len rs off' len' bytes acc sl m
            (A:=fun rows=>R (lI d::dR k rd) (.own (lI d) 0 rows.length) ((lI d,.live wd rows false)::ef (fun t=>(t,MS.dead)) k))
        |_,_=>aW P N acc sl m (o:=o) (R:=R)
      |_=>aW P N acc sl m (o:=o) (R:=R)
    |_,_,_=>aW P N acc sl m (o:=o) (R:=R)
  |_,_=>aW P N acc sl m (o:=o) (R:=R)
@[reducible] def JV (args : List Operand) (types : List TypeId) : Prop :=
  match args,types with
  | [y],[t]=>match eZ sl y with
    |.mapr k=>qW P N t (.mapr k) acc sl m (o:=o) (R:=R)
    |.fmap k=>qW P N t (.fmap k) acc sl m (o:=o) (R:=R)
    |_=>rY P N o acc sl m R (di Γ sl m o.dst o.op)
  |_,_=>rY P N o acc sl m R (di Γ sl m o.dst o.op)
@[reducible] def J4 : Option Operand → Prop
  | none=>match o.dst with
    | some d=>match eD m (lI d) with
      |.free=>R [lI d] (.mapr (lI d)) [(lI d,.live 2 [] false)] acc sl m
      |_=>aW P N acc sl m (o:=o) (R:=R)
    |none=>aW P N acc sl m (o:=o) (R:=R)
  |some _=>aW P N acc sl m (o:=o) (R:=R)
@[reducible] def Fh (c : Call) : Prop :=
  match c.callee with
  |.builtin .len=>JV P N Γ o acc sl m R c.args.toList c.argTypes.toList
  |.builtin .append=>JT P N Γ o acc sl m R c.args.toList c.argTypes.toList
  | .value f=>match f with
    |.func g=>af P N g (ef (eZ sl) c.args.toList) acc sl m (o:=o) (R:=R)
    | f=>match eZ sl f with
      |.clo (.func g) first cap=>af P N g (dR first (dR (ef (eZ sl) c.args.toList) cap)) acc sl m (o:=o) (R:=R)
      |_=>aW P N acc sl m (o:=o) (R:=R)
  |_=>aW P N acc sl m (o:=o) (R:=R)
@[reducible] def JZ (op : BinOp) (t : TypeId) (x y : AV) : Prop :=
  match op,x,y with
  |.add,.lit (.int .i64 a),.lit (.int .i64 b)=>bE (-9223372036854775808≤a+b∧a+b≤9223372036854775807) acc sl m (A:=R [] (.lit (.int .i64 (a+b))) [])
  |.sub,.lit (.int .i64 a),.lit (.int .i64 b)=>bE (-9223372036854775808≤a-b∧a-b≤9223372036854775807) acc sl m (A:=R [] (.lit (.int .i64 (a-b))) [])
  |.add,.lit (.string a),.lit (.string b)=>bE (a.size+b.size≤9223372036854775807) acc sl m (A:=R [] (.lit (.string (a++b))) [])
  | .eql,.agg cs,.agg ds=>match rJ cs,rJ ds with
    |some us,some vs=>Iq P .eql t us vs acc sl m (A:=fun b=>R [] (.lit (.bool b)) [])
    |_,_=>aW P N acc sl m (o:=o) (R:=R)
  | .neq,.agg cs,.agg ds=>match rJ cs,rJ ds with
    |some us,some vs=>Iq P .neq t us vs acc sl m (A:=fun b=>R [] (.lit (.bool b)) [])
    |_,_=>aW P N acc sl m (o:=o) (R:=R)
  |_,_,_=>rY P N o acc sl m R (di Γ sl m o.dst o.op)
@[reducible] def FO (t : TypeId) (y z : AV) : Prop :=
  match qk Γ t,y,z with
  |some .str,.lit (.string s),.lit (.int _ i)=>u7 s i acc sl m (A:=fun c=>R [] (.lit (.int .u8 c)) [])
  |_,_,_=>aW P N acc sl m (o:=o) (R:=R)
@[reducible] def F1 (src dst : TypeId) (y : AV) : Prop :=
  match y with
  |.lit v=>oh P src dst v acc sl m (A:=fun r=>R [] (.lit r) [])
  | .own tk off len=>match eD m tk with
    | .live wd rows _=>match r8 wd 1 with
      |true=>oF P src dst rows off len acc sl m (A:=fun r=>R [tk] (.lit r) [])
      |false=>aW P N acc sl m (o:=o) (R:=R)
    |_=>aW P N acc sl m (o:=o) (R:=R)
  |_=>aW P N acc sl m (o:=o) (R:=R)
@[reducible] def AZ (t : TypeId) : Prop :=
  match o.dst,qk Γ t with
  | some d,some (.ar _ _ e _ z)=>match qk Γ e with
    |some (.sl _ _ _)=>rY P N o acc sl m R (di Γ sl m o.dst o.op)
    | _=>match iZ yl z.toList,eD m (lI d) with
      |true,.free=>R [lI d] (.ptr (lI d) 0 0) [(lI d,.live 1 (ef .lit z.toList) false)] acc sl m
      |_,_=>aW P N acc sl m (o:=o) (R:=R)
  |_,_=>rY P N o acc sl m R (di Γ sl m o.dst o.op)
@[reducible] def wpOp : Prop :=
  match o.op with
  |.alloc t=>AZ P N Γ o acc sl m R t
  |.indexAddr t y z=>Je P N Γ o acc sl m R t (eZ sl y) (eZ sl z)
  |.load t y=>DX P N Γ o acc sl m R t (eZ sl y)
  |.store t y z=>Ar P N Γ o acc sl m R t (eZ sl y) (eZ sl z)
  |.slice t y lo hi mx=>Hp P N Γ o acc sl m R t (eZ sl y) lo hi mx
  |.buildSlice t len parts=>JM P N Γ o acc sl m R t len parts.toList
  |.call c=>Fh P N Γ o acc sl m R c
  |.binOp op t y z _=>JZ P N Γ o acc sl m R op t (eZ sl y) (eZ sl z)
  |.index t y z=>FO P N Γ o acc sl m R t (eZ sl y) (eZ sl z)
  |.convert src dst y=>F1 P N o acc sl m R src dst (eZ sl y)
  |.makeMap _ hint=>J4 P N o acc sl m R hint
  |.lookup t y x c=>pQ P N t c (eZ sl y) (eZ sl x) acc sl m (o:=o) (R:=R)
  |.mapUpdate t y x v=>wL P N t (eZ sl y) (eZ sl x) (eZ sl v) acc sl m (o:=o) (R:=R)
  |_=>rY P N o acc sl m R (di Γ sl m o.dst o.op)
end
section
variable {P : Program} {N : Nat} {Γ : cQ} {o : Oper} {acc : Tk} {sl : SL} {m : ML} {R : Rest}
def oM (P:Program)(N:Nat)(o:Oper)(acc:Tk)(sl:SL)(m:ML)(R:Rest):Prop:=∃rd x ups,aH P N o (St sl m) rd x ups∧R rd x ups acc sl m
theorem jr (hΓ:Γ.Good P)(hd:fR N o.dst=true)(h:rY P N o acc sl m R (di Γ sl m o.dst o.op)):oM P N o acc sl m R:=by
  cases hp:di Γ sl m o.dst o.op with
  |none=>rw[hp] at h;exact h
  | some q=>
    obtain⟨rd,x,ups⟩:=q
    rw[hp] at h
    exact⟨rd,x,ups,CQ hΓ (CP hp) (bA hd),h⟩
theorem mW:∀ {cs:List AV} {us:List Value},rJ cs=some us→lH cs=some us
  |[],us,h=>h
  | c :: r,us,h=>by
    cases c with
    | lit v=>
      simp only[rJ] at h
      split at h
      · rename_i l hl
        cases h
        simp[lH,mW hl]
      ·cases h
    |_=>simp[rJ] at h
theorem ev_eq (y:Operand):(St sl m).eval y=eZ sl y:=by rw[fA,dG]
theorem mem_eq (t:Nat):(St sl m).mem t=eD m t:=(gW m t).symm
theorem Gy (hΓ:Γ.Good P)(hd:fR N o.dst=true){t:TypeId}{y z:Operand}(ho:o.op=.indexAddr t y z)(h:Je P N Γ o acc sl m R t (eZ sl y) (eZ sl z)):oM P N o acc sl m R:=by
  unfold Je at h
  split at h
  · rename_i hz
    split at h
    · rename_i ht
      rw[eJ] at ht
      have ok:=hΓ.look ht
      obtain⟨i,z',te⟩:=ok.2.2.2.2
      split at h
      · rename_i hy
        split at h
        · rename_i hm
          split at h
          · rename_i hw
            obtain⟨k,rfl,hk,h⟩:=h
            have hw':=beq_eq (by rw[←eo];exact hw)
            subst hw'
            refine⟨_,_,_,?_,h⟩
            have:=aH.DE (P:=P) (N:=N) (σ:=St sl m) ho (by rw[ev_eq];exact hy) (by rw[ev_eq];exact hz) te.ty ok.2.2.2.1 (Int.natCast_nonneg k) (by omega) ⟨_,_,by rw[mem_eq];exact hm⟩ (bA hd)
            simpa using this
          ·exact h
        ·exact h
      · rename_i hy
        split at h
        · rename_i hw
          obtain⟨k,r,rfl,hk,h⟩:=h
          have hw':=beq_eq (by rw[←eo];exact hw)
          subst hw'
          exact⟨_,_,_,aH.Fq (P:=P) (N:=N) (σ:=St sl m) ho (by rw[ev_eq];exact hy) (by rw[ev_eq];exact hz) te.ty ok.2.2.2.1 (Int.natCast_nonneg k) (by simpa using hk) (bA hd),h⟩
        ·exact h
      ·exact h
    · rename_i ht
      rw[eJ] at ht
      have ok:=hΓ.look ht
      split at h
      · rename_i hy
        split at h
        · obtain⟨k,rfl,hk,h⟩:=h
          refine⟨_,_,_,?_,h⟩
          have:=aH.CU (P:=P) (N:=N) (σ:=St sl m) ho (by rw[ev_eq];exact hy) (by rw[ev_eq];exact hz) ok.2.2.2.1 ok.2.2.2.2 (Int.natCast_nonneg k) (by omega) (bA hd)
          simpa using this
        · split at h
          · rename_i hm
            split at h
            · rename_i hw
              obtain⟨k,rfl,hk,h⟩:=h
              have hw':=beq_eq (by rw[←eo];exact hw)
              subst hw'
              refine⟨_,_,_,?_,h⟩
              have:=aH.Ad (P:=P) (N:=N) (σ:=St sl m) ho (by rw[ev_eq];exact hy) (by rw[ev_eq];exact hz) ok.2.2.2.1 ok.2.2.2.2 (Int.natCast_nonneg k) (by omega) ⟨_,_,by rw[mem_eq];exact hm⟩ (bA hd)
              simpa[HM] using this
            ·exact h
          ·exact h
      ·exact h
    ·exact h
  ·exact h
theorem Ex (hΓ:Γ.Good P)(hd:fR N o.dst=true){t:TypeId}{y:Operand}(ho:o.op=.load t y)(h:DX P N Γ o acc sl m R t (eZ sl y)):oM P N o acc sl m R:=by
  unfold DX at h
  split at h
  · rename_i tk i k hy
    split at h
    ·exact jr hΓ hd h
    · split at h
      · rename_i hm
        obtain⟨r,hr,h⟩:=h
        rw[lZ] at h
        cases hl:rL (qk Γ t) r k with
        |none=>rw[hl] at h;exact h
        | some x=>
          rw[hl] at h
          exact⟨_,_,_,aH.xP (P:=P) (N:=N) (σ:=St sl m) ho (by rw[ev_eq];exact hy) (by rw[mem_eq];exact hm) hr (ny hΓ (by rw[←eJ,←pC];exact hl)) (bA hd),h⟩
      ·exact h
  ·exact jr hΓ hd h
theorem Cq (hΓ:Γ.Good P)(hd:fR N o.dst=true){t:TypeId}{y z:Operand}(ho:o.op=.store t y z)(h:Ar P N Γ o acc sl m R t (eZ sl y) (eZ sl z)):oM P N o acc sl m R:=by
  unfold Ar at h
  split at h
  · rename_i tk i k hy
    split at h
    ·exact jr hΓ hd h
    · split at h
      · rename_i hdst
        split at h
        · rename_i hm
          obtain⟨r,hr,h⟩:=h
          rw[lZ] at h
          cases hl:qU (qk Γ t) r k (eZ sl z) with
          |none=>rw[hl] at h;exact h
          | some r'=>
            rw[hl] at h
            have hs:=vO (P:=P) (Γ:=Γ) (t:=t) hΓ (by rw[←eJ];exact vU hl)
            exact⟨_,_,_,aH.store (P:=P) (N:=N) (σ:=St sl m) ho (by rw[ev_eq];exact hy) (by rw[ev_eq]) (by rw[mem_eq];exact hm) hr hs.1 hs.2.1 hs.2.2 hdst,h⟩
        ·exact h
      ·exact h
  ·exact h
theorem jz {d l:Int}{lo:Option Operand}(h:lP sl d lo=some l)(h0:0≤l):lo=none∧l.toNat=d.toNat∨∃z k,lo=some z∧(St sl m).eval z=.lit (.int k (l.toNat:Nat)):=by
  cases lo with
  |none=>simp only[lP,Option.some.injEq] at h;subst h;exact .inl ⟨rfl,rfl⟩
  | some z=>
    simp only[lP] at h
    split at h
    · rename_i k n he
      cases h
      exact .inr ⟨z,k,rfl,by rw[ev_eq,he,Int.toNat_of_nonneg h0]⟩
    ·cases h
theorem HE (hΓ:Γ.Good P)(hd:fR N o.dst=true){t:TypeId}{y:Operand}{lo hi mx:Option Operand}(ho:o.op=.slice t y lo hi mx)(h:Hp P N Γ o acc sl m R t (eZ sl y) lo hi mx):oM P N o acc sl m R:=by
  cases mx with
  | none =>
    simp only[Hp] at h
    split at h
    · rename_i ht
      rw[eJ] at ht
      have ok:=hΓ.look ht
      obtain⟨i,z',te⟩:=ok.2.2.2.2
      split at h
      · rename_i hy
        split at h
        · rename_i hl hh hm
          split at h
          · rename_i hw
            obtain⟨a,n,rfl,rfl,hn,h⟩:=h
            have hw':=beq_eq (by rw[←eo];exact hw)
            subst hw'
            refine⟨_,_,_,?_,h⟩
            have:=aH.Df (P:=P) (N:=N) (σ:=St sl m) (l:=a) (h:=a+n) ho (by rw[ev_eq];exact hy) (by have:=jz (m:=m) hl (Int.natCast_nonneg _);simpa using this)
              (by rw[show((a:Int)+ (n:Int))=((a+n:Nat):Int) from by omega] at hh;have:=jz (m:=m) hh (Int.natCast_nonneg _);simp only[Int.toNat_natCast] at this;exact this) (by omega) (by omega) te.ty ok.2.2.2.1 ⟨_,_,by rw[mem_eq];exact hm⟩ (bA hd)
            simpa using this
          ·exact h
        ·exact h
      · rename_i hy
        split at h
        · rename_i hl hh
          split at h
          · rename_i hw
            obtain⟨a,n,rows',rfl,rfl,hn,rfl,h⟩:=h
            have hw':=beq_eq (by rw[←eo];exact hw)
            subst hw'
            refine⟨_,_,_,?_,h⟩
            have:=aH.Ey (P:=P) (N:=N) (σ:=St sl m) (l:=a) (h:=a+n) ho (by rw[ev_eq];exact hy) (by have:=jz (m:=m) hl (Int.natCast_nonneg _);simpa using this)
              (by rw[show((a:Int)+ (n:Int))=((a+n:Nat):Int) from by omega] at hh;have:=jz (m:=m) hh (Int.natCast_nonneg _);simp only[Int.toNat_natCast] at this;exact this) (by omega) (by omega) te.ty ok.2.2.2.1 (bA hd)
            simpa using this
          ·exact h
        ·exact h
      ·exact h
    · rename_i ht
      rw[eJ] at ht
      have ok:=hΓ.look ht
      split at h
      · rename_i hy
        split at h
        · rename_i hl hh
          obtain⟨a,b,rfl,rfl,h1,h2,h⟩:=h
          exact⟨_,_,_,aH.J3 (P:=P) (N:=N) (σ:=St sl m) (a:=a) (b:=b) ho (by rw[ev_eq];exact hy) ok.2.2.2 (by have:=jz (m:=m) hl (Int.natCast_nonneg _);simpa using this) (by have:=jz (m:=m) hh (Int.natCast_nonneg _);simpa using this) h1 h2 (bA hd),h⟩
        ·exact h
      ·exact h
    ·exact h
  | some mx=>
    simp only[Hp] at h
    split at h
    · split at h
      · rename_i ht h1 h2
        rw[eJ] at ht
        have ok:=hΓ.look ht
        obtain⟨i,z',te⟩:=ok.2.2.2.2
        split at h
        · rename_i hy
          obtain⟨⟨rfl,rfl⟩,h⟩:=h
          exact⟨_,_,_,aH.slice3 (P:=P) (N:=N) (σ:=St sl m) ho (by rw[ev_eq];exact hy) (.inl ⟨_,_,_,rfl⟩) (by rw[ev_eq];exact h1) (by rw[ev_eq];exact h2) te.ty ⟨_,ok.2.2.2.1⟩ (bA hd),h⟩
        · rename_i hy
          obtain⟨⟨rfl,rfl⟩,h⟩:=h
          exact⟨_,_,_,aH.slice3 (P:=P) (N:=N) (σ:=St sl m) ho (by rw[ev_eq];exact hy) (.inr (.inl ⟨_,_,rfl⟩)) (by rw[ev_eq];exact h1) (by rw[ev_eq];exact h2) te.ty ⟨_,ok.2.2.2.1⟩ (bA hd),h⟩
        · rename_i hy
          obtain⟨⟨rfl,rfl⟩,h⟩:=h
          exact⟨_,_,_,aH.slice3 (P:=P) (N:=N) (σ:=St sl m) ho (by rw[ev_eq];exact hy) (.inr (.inr (.inl rfl))) (by rw[ev_eq];exact h1) (by rw[ev_eq];exact h2) te.ty ⟨_,ok.2.2.2.1⟩ (bA hd),h⟩
        ·exact h
      ·exact h
    ·exact h
theorem rS {wd:Nat}:∀ {k:Nat} {ps:List (Nat×AV)},qj wd k ps=true→jo wd k ps=true
  |k,[],_=>rfl
  | k, (i,x)::r,h=>by
    simp only[qj] at h
    split at h
    · rename_i h1 h2 h3
      rw[eo,c6,eS] at h2
      rw[nP] at h3
      have h4:jo wd (k+1) r=true:=rS h
      simp only[jo,bN,beq_iff_eq]
      exact⟨⟨⟨beq_eq h1,beq_eq h2⟩,h3⟩,h4⟩
    ·cases h
theorem G5 (hΓ:Γ.Good P)(hd:fR N o.dst=true){t:TypeId}{len:Nat}{parts:Array (Nat×Operand)}(ho:o.op=.buildSlice t len parts)(h:JM P N Γ o acc sl m R t len parts.toList):oM P N o acc sl m R:=by
  unfold JM at h
  split at h
  · rename_i d e wd bytes hdst ht
    rw[eJ] at ht
    have ok:=hΓ.look ht
    obtain⟨i,z',te⟩:=ok.2.2.2.2
    split at h
    · rename_i hm
      split at h
      · rename_i g1 g2 g3
        have g1':=rS g1
        rw[eB] at g1'
        rw[eo,c6] at g2
        have g2':=beq_eq g2
        have g3':len*wd≤16777216:=fO g3
        have hev:(fun p:Nat×Operand=>(p.1,eZ sl p.2))=fun p=>(p.1,(St sl m).eval p.2):=by funext p;rw[ev_eq]
        rw[hev] at g1'
        have hfi:=qd _ 0 [] g1' (by simp)
        have hmap:ef (fun(p:Nat×Operand)=>match p with|(_,y)=>eZ sl y) parts.toList=(parts.toList.map fun p=>(p.1,(St sl m).eval p.2)).map (·.2):=by
          rw[eB,List.map_map];apply List.map_congr_left;intro p _;simp[ev_eq]
        have:=aH.buildSlice (P:=P) (N:=N) (σ:=St sl m) (tk:=lI d) ho te g3' (rows:=(parts.toList.map fun p=>(p.1,(St sl m).eval p.2)).map (·.2)) (by simp[←g2']) (pG _ 0 g1')
          (by simp only[List.nil_append,bW] at hfi;rw[←g2'];exact hfi) (by rw[mem_eq];exact hm) (bA hd)
        rw[hmap] at h
        refine⟨_,_,_,?_,h⟩
        simp only[bW,g2'] at this
        exact this
      ·exact h
    ·exact h
  ·exact h
theorem H9 (hΓ:Γ.Good P)(hd:fR N o.dst=true){args:Array Operand}{types:Array TypeId}(ho:o.op=.call {callee:=.builtin .append,args:=args,argTypes:=types})(h:JT P N Γ o acc sl m R args.toList types.toList):oM P N o acc sl m R:=by
  unfold JT at h
  split at h
  · rename_i y z t t2 ea et
    obtain rfl:args= #[y,z]:=Array.ext' ea
    obtain rfl:types= #[t,t2]:=Array.ext' et
    split at h
    · rename_i d e wd bytes e2 wd2 bytes2 hdst ht ht2
      rw[eJ] at ht ht2
      have ok:=hΓ.look ht
      obtain⟨i,z',te⟩:=ok.2.2.2.2
      have ok2:=hΓ.look ht2
      obtain⟨i2,z2,te2⟩:=ok2.2.2.2.2
      split at h
      · rename_i hm
        split at h
        · rename_i rb off len k rs off' len' rd hb hx
          obtain⟨rows0,news,c1,rfl,c2,rfl,c3,c4,c5,h⟩:=h
          have hb':sk (St sl m) wd ((St sl m).eval y) ((rb.drop off).take len) k:=by
            rw[ev_eq]
            unfold IE at hb
            split at hb
            · rename_i hy
              split at hb
              · rename_i hmm
                split at hb
                ·rename_i hw;have hw':=beq_eq (by rw[←eo];exact hw);subst hw';cases hb;rw[hy];exact .own (by rw[mem_eq];exact hmm) c1
                ·cases hb
              ·cases hb
            ·rename_i hy;cases hb;rw[hy];simpa using sk.emp
            · rename_i hy
              split at hb
              ·rename_i hn;cases hb;rw[hy,nC hn];simpa using sk.nil
              ·cases hb
            ·cases hb
          have hx':Src (St sl m) wd ((St sl m).eval z) ((rs.drop off').take len') rd:=by
            rw[ev_eq]
            unfold KG at hx
            split at hx
            · rename_i hy
              split at hx
              · rename_i hmm
                split at hx
                ·rename_i hw;have hw':=beq_eq (by rw[←eo];exact hw);subst hw';cases hx;rw[hy];exact .own (by rw[mem_eq];exact hmm) c2
                ·cases hx
              ·cases hx
            · rename_i hy
              split at hx
              ·rename_i hw;have hw':=beq_eq (by rw[←eo];exact hw);subst hw';cases hx;rw[hy];simpa using Src.sl
              ·cases hx
            ·rename_i hy;cases hx;rw[hy];simpa using Src.emp
            · rename_i hy
              split at hx
              ·rename_i hn;cases hx;rw[hy,nC hn];simpa using Src.nil
              ·cases hx
            ·cases hx
          refine⟨_,_,_,?_,h⟩
          have:=aH.append (P:=P) (N:=N) (σ:=St sl m) (tn:=lI d) ho te te2.ty hb' hx' c3 c4 (by unfold maxLen;omega) (by rw[mem_eq];exact hm) (bA hd)
          rw[gT,eB]
          exact this
        ·exact h
      ·exact h
    ·exact h
  ·exact h
theorem args_eq (args:Array Operand):args.toList.map (St sl m).eval=ef (eZ sl) args.toList:=by
  rw[eB];apply List.map_congr_left;intro y _;exact ev_eq y
theorem GO (hΓ:Γ.Good P)(hd:fR N o.dst=true){args:Array Operand}{types:Array TypeId}(ho:o.op=.call {callee:=.builtin .len,args:=args,argTypes:=types})(h:JV P N Γ o acc sl m R args.toList types.toList):oM P N o acc sl m R:=by
  unfold JV at h
  split at h
  · rename_i y t ea et
    obtain rfl:args= #[y]:=Array.ext' ea
    obtain rfl:types= #[t]:=Array.ext' et
    split at h
    ·rename_i hy;exact h ⟨y,ho,by rw[ev_eq];exact hy⟩
    ·rename_i hy;exact h ⟨y,ho,by rw[ev_eq];exact hy⟩
    ·exact jr hΓ hd h
  ·exact jr hΓ hd h
theorem Gs (hd:fR N o.dst=true){t:TypeId}{hint:Option Operand}(ho:o.op=.makeMap t hint)(h:J4 P N o acc sl m R hint):oM P N o acc sl m R:=by
  cases hint with
  |some _=>exact h
  | none =>
    simp only[J4] at h
    split at h
    · rename_i d hdst
      split at h
      · rename_i hm
        exact⟨_,_,_,aH.makeMap (P:=P) (N:=N) (σ:=St sl m) (tk:=lI d) ho (by rw[mem_eq];exact hm) (bA hd),h⟩
      ·exact h
    ·exact h
theorem Fo (hΓ:Γ.Good P)(hd:fR N o.dst=true){c:Call}(ho:o.op=.call c)(h:Fh P N Γ o acc sl m R c):oM P N o acc sl m R:=by
  obtain⟨callee,args,types⟩:=c
  unfold Fh at h
  simp only at h
  split at h
  ·exact GO hΓ hd ho h
  ·exact H9 hΓ hd ho h
  · split at h
    · refine h ?_
      have:=gu.func (σ:=St sl m) ho (by rfl)
      rw[show ef (eZ sl) args.toList=args.toList.map (St sl m).eval from(args_eq args).symm]
      exact this
    · split at h
      · rename_i hy
        refine h ?_
        have:=gu.clo (σ:=St sl m) ho (by rw[ev_eq];exact hy)
        rw[gT,gT,show ef (eZ sl) args.toList=args.toList.map (St sl m).eval from(args_eq args).symm,←List.append_assoc]
        exact this
      ·exact h
  ·exact h
theorem Hg (hΓ:Γ.Good P)(hd:fR N o.dst=true){op:BinOp}{t yt:TypeId}{y z:Operand}(ho:o.op=.binOp op t y z yt)(h:JZ P N Γ o acc sl m R op t (eZ sl y) (eZ sl z)):oM P N o acc sl m R:=by
  unfold JZ at h
  split at h
  · rename_i a b hx hy
    obtain⟨hn,h⟩:=h
    refine⟨_,_,_,aH.binOp (P:=P) (N:=N) (σ:=St sl m) ho (by rw[ev_eq];exact hx) (by rw[ev_eq];exact hy) (s5 (by simp only[xb,if_true];rw[IntWalk.i64_in _ hn]) _ _ _) (bA hd),h⟩
  · rename_i a b hx hy
    obtain⟨hn,h⟩:=h
    refine⟨_,_,_,aH.binOp (P:=P) (N:=N) (σ:=St sl m) ho (by rw[ev_eq];exact hx) (by rw[ev_eq];exact hy) (s5 (by simp only[xb,if_true];rw[IntWalk.i64_in _ hn]) _ _ _) (bA hd),h⟩
  · rename_i a b hx hy
    obtain⟨hn,h⟩:=h
    refine⟨_,_,_,aH.binOp (P:=P) (N:=N) (σ:=St sl m) ho (by rw[ev_eq];exact hx) (by rw[ev_eq];exact hy) (fun w=>by simp[eqGuard,binOp,run_string_add_sum w a b hn]) (bA hd),h⟩
  · rename_i cs ds hx hy
    split at h
    · rename_i us vs h1 h2
      obtain⟨b,hr,h⟩:=h
      exact jZ.FL (R:=fun rd x ups=>R rd x ups acc sl m) ho (by rw[←dG];exact hx) (mW h1) (by rw[←dG];exact hy) (mW h2) (fun w=>hr y z w) hd h
    ·exact h
  · rename_i cs ds hx hy
    split at h
    · rename_i us vs h1 h2
      obtain⟨b,hr,h⟩:=h
      exact jZ.FL (R:=fun rd x ups=>R rd x ups acc sl m) ho (by rw[←dG];exact hx) (mW h1) (by rw[←dG];exact hy) (mW h2) (fun w=>hr y z w) hd h
    ·exact h
  ·exact jr hΓ hd h
theorem FM (hΓ:Γ.Good P)(hd:fR N o.dst=true){t:TypeId}{y z:Operand}(ho:o.op=.index t y z)(h:FO P N Γ o acc sl m R t (eZ sl y) (eZ sl z)):oM P N o acc sl m R:=by
  unfold FO at h
  split at h
  · rename_i ht hy hz
    rw[eJ] at ht
    have ok:=hΓ.look ht
    obtain⟨k,c,rfl,hc,h⟩:=h
    exact⟨_,_,_,aH.JP (P:=P) (N:=N) (σ:=St sl m) ho (by rw[ev_eq];exact hy) (by rw[ev_eq];exact hz) ok.2.2.2 hc (bA hd),h⟩
  ·exact h
theorem Ej (hd:fR N o.dst=true){src dst:TypeId}{y:Operand}(ho:o.op=.convert src dst y)(h:F1 P N o acc sl m R src dst (eZ sl y)):oM P N o acc sl m R:=by
  unfold F1 at h
  split at h
  · rename_i hy
    obtain⟨r,hr,h⟩:=h
    exact⟨_,_,_,aH.Ht (P:=P) (N:=N) (σ:=St sl m) ho (by rw[ev_eq];exact hy) hr (bA hd),h⟩
  · rename_i hy
    split at h
    · rename_i hm
      split at h
      · rename_i hw
        have hw':=beq_eq (by rw[←eo];exact hw)
        subst hw'
        obtain⟨bs,e,h1,h2,h3,h4,h5,h6,h⟩:=h
        exact⟨_,_,_,aH.D6 (P:=P) (N:=N) (σ:=St sl m) ho (by rw[ev_eq];exact hy) h1 h2 h3 (by rw[mem_eq];exact hm) h4 h5 h6 (bA hd),h⟩
      ·exact h
    ·exact h
  ·exact h
theorem DD (hΓ:Γ.Good P)(hd:fR N o.dst=true){t:TypeId}(ho:o.op=.alloc t)(h:AZ P N Γ o acc sl m R t):oM P N o acc sl m R:=by
  unfold AZ at h
  split at h
  · rename_i hdst ht
    rw[eJ] at ht
    have ok:=hΓ.look ht
    split at h
    ·exact jr hΓ hd h
    split at h
    · rename_i hs hm
      exact⟨_,_,_,aH.CV (P:=P) (N:=N) (σ:=St sl m) ho ok.2.2.1 hs (by rw[mem_eq];exact hm) (bA hd),by rw[eB] at h;exact h⟩
    ·exact h
  ·exact jr hΓ hd h
theorem GS (hΓ:Γ.Good P)(hd:fR N o.dst=true)(h:wpOp P N Γ o acc sl m R):oM P N o acc sl m R:=by
  unfold wpOp at h
  split at h
  ·rename_i ho;exact DD hΓ hd ho h
  ·rename_i ho;exact Gy hΓ hd ho h
  ·rename_i ho;exact Ex hΓ hd ho h
  ·rename_i ho;exact Cq hΓ hd ho h
  ·rename_i ho;exact HE hΓ hd ho h
  ·rename_i ho;exact G5 hΓ hd ho h
  ·rename_i ho;exact Fo hΓ hd ho h
  ·rename_i ho;exact Hg hΓ hd ho h
  ·rename_i ho;exact FM hΓ hd ho h
  ·rename_i ho;exact Ej hd ho h
  ·rename_i ho;exact Gs hd ho h
  ·rename_i ho;exact h ⟨_,_,ho,ev_eq _,ev_eq _⟩
  ·rename_i ho;exact h ⟨_,_,_,ho,ev_eq _,ev_eq _,ev_eq _⟩
  ·exact jr hΓ hd h
end
def iY (ops:Array Oper):Nat→Nat→Nat→Bool
  |0,_,_=>false
  | n+1,j,i=>match ops[j]? with
    |none=>false
    |some o=>o.after.any fun e=>Region.binds .any e&&(e.on==i||iY ops n e.on i)
def qT (ops:Array Oper)(listed:Array Bool):Prop:=∀ (m:Nat) (o:Oper),ops[m]? =some o→listed.getD m true=true→∀e∈o.after,Region.binds .any e=true→listed.getD e.on true=true
section
variable {P : Program} {N : Nat} {ops : Array Oper} {w0 : World} {W0 : Nat → Prop} {L μ : Mu} {σ : az} {a : Act} {w : World}
theorem pM {listed:Array Bool}(hc:qT ops listed):∀ (n j i:Nat) (o:Oper),ops[j]? =some o→(∀e∈o.after,Region.binds .any e=true→listed.getD e.on true=true)→iY ops n j i=true→listed.getD i true=true
  |0,_,_,_,_,_,h=>by cases h
  | n + 1,j,i,o,hj,ha,h=>by
    simp only[iY,hj] at h
    rw[Array.any_eq_true] at h
    obtain⟨k,hk,h⟩:=h
    simp only[bN,j8,beq_iff_eq] at h
    obtain⟨hb,h⟩:=h
    have hl:=ha _ (Array.getElem_mem hk) hb
    rcases h with h|h
    ·rw[←h];exact hl
    · cases hm:ops[(o.after[k]).on]? with
      | none=>cases n with
        |zero=>cases h
        |succ n=>simp[iY,hm] at h
      |some o'=>exact pM hc n _ i o' hm (hc _ o' hm hl) h
theorem qT.set {listed:Array Bool}(hc:qT ops listed){j:Nat}{o:Oper}(hj:ops[j]? =some o)(ha:∀e∈o.after,Region.binds .any e=true→listed.getD e.on true=true):qT ops (listed.setIfInBounds j true):=by
  have up:∀i,listed.getD i true=true→(listed.setIfInBounds j true).getD i true=true:=fun i h=>by
    by_cases hij:j=i
    · subst hij
      by_cases hlt:j<listed.size
      ·simp[hlt]
      ·rw[Array.getD_eq_getD_getElem?,Array.getElem?_eq_none (by simpa using hlt)];rfl
    ·rw[getD_set_ne true hij];exact h
  intro m o' hm hl e he hb
  by_cases hjm:j=m
  · subst hjm
    rw[hj] at hm;cases hm
    exact up _ (ha e he hb)
  · rw[getD_set_ne true hjm] at hl
    exact up _ (hc m o' hm hl e he hb)
theorem xS {es:List j6}{K:az→Prop}{i:Nat}{x:j6}(hf:∀ (j:Nat) (e:j6),es[j]? =some e→ops[j]? =some e.o)(hi:es[i]? =some x):
    ∀ (fuel:Nat) (listed:Array Bool) (σ:az),qT ops listed→
      (∀ (j:Nat) (y:j6),es[j]? =some y→j≠i→listed.getD j true=false→(∀e∈y.o.after,Region.binds .any e=true→e.on≠i)→(∀n,iY ops n j i=false)→x.o.apart ops y.o=true∧j0 x.toks y.toks=true)→
      i∈Region.ready .any ops listed→Holds ops x σ→
      El ops es K fuel (listed.setIfInBounds i true) (σ.app x)→El ops es K (fuel+1) listed σ:=by
  intro fuel
  induction fuel with
  | zero=>
    intro listed σ _ _ hr hy H
    refine⟨fun h=>(by rw[h] at hr;cases hr),fun j hj=>?_⟩
    by_cases hji:j=i
    ·subst hji;exact⟨x,hi,hy,H⟩
    · have:=ready_mono hj hji
      rw[H.1] at this
      cases this
  | succ fuel ih=>
    intro listed σ hcl hfree hr hy H
    refine⟨fun h=>(by rw[h] at hr;cases hr),fun j hj=>?_⟩
    by_cases hji:j=i
    ·subst hji;exact⟨x,hi,hy,H⟩
    · obtain⟨y,hy1,hy2,hy3⟩:=H.2 j (ready_mono hj hji)
      obtain⟨hjun,oj,hoj,hall⟩:=mem_ready.1 hj
      have hoj':=hf j y hy1
      rw[hoj] at hoj'
      cases hoj'
      have hiun:¬listed.getD i true=true:=fun h1=>by
        have h0:=(mem_ready.1 hr).1
        rcases Nat.lt_or_ge i listed.size with h'|h'
        ·simp[h'] at h0 h1;rw[h0] at h1;cases h1
        ·simp[Array.getElem?_eq_none h'] at h0
      have hnot:∀e∈y.o.after,Region.binds .any e=true→e.on≠i:=fun e he hb heq=>hiun (by
        have h1:=hall e he hb
        rw[heq] at h1
        rcases Nat.lt_or_ge i listed.size with h'|h'
        ·simp[h'] at h1 ⊢;exact h1
        ·simp[Array.getElem?_eq_none h'])
      have hall':∀e∈y.o.after,Region.binds .any e=true→listed.getD e.on true=true:=fun e he hb=>by
        have h1:=hall e he hb
        rcases Nat.lt_or_ge e.on listed.size with h'|h'
        ·simp[h'] at h1 ⊢;exact h1
        ·simp[Array.getElem?_eq_none h']
      have hnr:∀n,iY ops n j i=false:=fun n=>by
        cases hB:iY ops n j i with
        |false=>rfl
        |true=>exact absurd (pM hcl n j i y.o hoj hall' hB) hiun
      obtain⟨hap,htok⟩:=hfree j y hy1 hji hjun hnot hnr
      obtain⟨s1,s2,s3⟩:=Oper.apart_spec hap
      obtain⟨t1,t2,t3⟩:=og htok
      have hyσ:Holds ops y σ:=(Holds.app (x:=x) s1 t1).1 hy2
      refine⟨y,hy1,hyσ,?_⟩
      refine ih (listed.setIfInBounds j true) (σ.app y) (hcl.set hoj hall') (fun k z hk hki hun hno hnr=>?_) (ready_mono hr (Ne.symm hji)) ((Holds.app (x:=y) (y:=x) s3 t3).2 hy) ?_
      · refine hfree k z hk hki ?_ hno hnr
        by_cases hjk:j=k
        ·subst hjk;exact hjun
        ·rw[getD_set_ne true hjk] at hun;exact hun
      · rw[←Ez s2 htok,Array.setIfInBounds_comm _ _ hji]
        exact hy3
def jc (ops:Array Oper)(ts:List (List Nat×List Nat)):Bool:=
  (List.range ts.length).all fun j=>(List.range j).all fun i=>
    j0 (ts.getD i ([],[])) (ts.getD j ([],[]))||(iY ops 4 j i||iY ops 9 j i)
theorem zf {es:List j6}(h:jc ops (es.map j6.toks)=true){i j:Nat}{x y:j6}(hij:i<j)(hx:es[i]? =some x)(hy:es[j]? =some y)
    (hno:∀n,iY ops n j i=false):j0 x.toks y.toks=true:=by
  unfold jc at h
  have hj:j<es.length:=(aY hy).1
  have:=List.all_eq_true.1 h j (by simpa using hj)
  have:=List.all_eq_true.1 this i (by simpa using hij)
  simp only[List.getD_eq_getElem?_getD,fI,hx,hy,Option.map_some,Option.getD_some,j8] at this
  rcases this with h'|h'|h'
  ·exact h'
  ·rw[hno] at h';cases h'
  ·rw[hno] at h';cases h'
theorem vz {es:List j6}{K:az→Prop}{l:List Oper}(hl:ops.toList=l)(hlen:es.length=l.length)(hf:∀ (i:Nat) (e:j6),es[i]? =some e→ops[i]? =some e.o)
    (hchain:∀ (k:Nat) (e e':j6),es[k]? =some e→es[k+1]? =some e'→e'.σ=e.σ.app e) (hlast:∀e,es.getLast? =some e→K (e.σ.app e))
    (htok:jc ops (es.map j6.toks)=true):
    ∀ (n k:Nat) (listed:Array Bool) (σ:az),qT ops listed→n+k=es.length→(∀e,es[k]? =some e→e.σ=σ)→(n=0→K σ)→(∀j,j<k→listed.getD j true=true)→listed.size=ops.size→Region.lexFrom .any ops n k listed=true→
      El ops es K n listed σ
  |0,k,listed,σ,hcl,hn,hσ,hK,hlst,hsz,hB=>⟨by simpa[Region.lexFrom] using hB,hK rfl⟩
  | n + 1, k,listed,σ,hcl,hn,hσ,hK,hlst,hsz,hB=>by
    simp only[Region.lexFrom,bN] at hB
    obtain⟨⟨hr,hfr⟩,hB'⟩:=hB
    have hk:k<es.length:=by omega
    obtain⟨e,he⟩:∃e,es[k]? =some e:=⟨es[k],by simp[hk]⟩
    have hσe:=hσ e he
    have h0:=hf k e he
    have hall':∀d∈e.o.after,Region.binds .any d=true→listed.getD d.on true=true:=fun d hd hb=>by
      obtain⟨_,o1,ho1,hall⟩:=mem_ready.1 (show k∈Region.ready .any ops listed by simpa using hr)
      rw[h0] at ho1;cases ho1
      have h1:=hall d hd hb
      rcases Nat.lt_or_ge d.on listed.size with h'|h'
      ·simp[h'] at h1 ⊢;exact h1
      ·simp[Array.getElem?_eq_none h']
    refine xS hf he n listed σ hcl (fun j y hy hjk hun hno hnr=>⟨Region.free_spec h0 hfr j y.o (hf j y hy) hjk hun hno,?_⟩) (by simpa using hr) (by rw[←hσe];exact Holds.self) ?_
    · have hkj:k<j:=by
        rcases Nat.lt_trichotomy j k with h|h|h
        ·rw[hlst j h] at hun;cases hun
        ·exact absurd h hjk
        ·exact h
      exact zf htok hkj he hy hnr
    · refine vz hl hlen hf hchain hlast htok n (k+1) _ _ (hcl.set h0 hall') (by omega) (fun e' he'=>by rw[hchain k e e' he he',hσe]) (fun hn0=>?_) (fun j hj=>?_) (by simp[hsz]) hB'
      · rw[←hσe]
        refine hlast e ?_
        rw[List.getLast?_eq_getElem?,show es.length-1=k from by omega];exact he
      · by_cases hjk:k=j
        · subst hjk
          have:k<listed.size:=by
            have:=(Array.getElem?_eq_some_iff.1 h0).1
            omega
          simp[this]
        ·rw[getD_set_ne true hjk];exact hlst j (by omega)
theorem iR.AS {rd:Option Nat}{Q:Exit→Act→World→Prop}{l:List Oper}{id:Nat}{K:az→Prop}(hp:rd=none∨l.all nc=true)(hm:P.follows .mixedOrders=true)(hB:Region.lexB .any l.toArray=true)
    (h:iR P N l.toArray l σ (fun es σ'=>jc l.toArray (es.map j6.toks)=true∧K σ')) (hs:cB P N w0 W0 L μ σ a w)
    (hK:∀σ',K σ'→∀μ' a' w',cB P N w0 W0 L μ' σ' a' w'→Q .normal a' w'):(Code.region id l.toArray true).wpIn (j3 rd) 0 P Q a w:=by
  simp only[Region.lexB,bN] at hB
  obtain⟨es,σ',⟨htok,hk⟩,h2,h3,_,h5,h6,h7,h8⟩:=iR.trace h
  refine wpIn_region_any hm ?_
  have hf:∀ (i:Nat) (e:j6),es[i]? =some e→l.toArray[i]? =some e.o:=fun i e he=>by simpa using(h3 i e he).1
  refine pR (es:=es) (K:=K) (hp.imp (fun h=>h) fun h i o ho=>List.all_eq_true.1 h o (bO (by simpa using ho))) (fun i e he=>⟨hf i e he,(h3 i e he).2⟩) hK _ _ σ μ a _ ?_ (hs.drawn _)
  have hsize:l.toArray.size=es.length:=by simp[h2]
  rw[hsize]
  refine vz (l:=l) (by simp) h2 hf h5 (fun e he=>by rw[←h7 e he];exact hk) htok es.length 0 _ σ (fun m o hm hl=>?_) (by omega) (fun e he=>h6 e he) (fun h0=>?_) (fun j hj=>by omega) (by simp[h2]) (by rw[←hsize];exact hB.2)
  · have hlt:=(Array.getElem?_eq_some_iff.1 hm).1
    simp at hl
    have:m<es.length:=by rw[h2];simpa using hlt
    simp[this] at hl
  ·rw[←h8 (List.eq_nil_of_length_eq_zero h0)];exact hk
theorem ga.AS {nL:Nat}{Q:Exit→az→Prop}{id:Nat}{l:List Oper}(hm:P.follows .mixedOrders=true)(hB:Region.lexB .any l.toArray=true)
    (h:iR P N l.toArray l σ (fun es σ'=>jc l.toArray (es.map j6.toks)=true∧Q .normal σ')):ga P N nL (.region id l.toArray true) Q σ:=by
  intro rd hp w0 W0 L μ a w hL hs
  exact iR.AS (hp.imp (fun h=>h) fun h=>by simpa[dz] using h) hm hB h hs fun σ' hq μ' a' w' hs'=>⟨μ',σ',hq,hs'⟩
end
theorem Db {ops:Array Oper}{ts:List (List Nat×List Nat)}(h:(zI ops ts||jc ops ts)=true):jc ops ts=true:=by
  rcases j8 _ _▸h with h|h
  · unfold zI at h
    unfold jc
    rw[List.all_eq_true] at h ⊢
    intro j hj
    have h1:=h j hj
    rw[List.all_eq_true] at h1 ⊢
    intro i hi
    have h2:=h1 i hi
    rw[j8] at h2
    rcases h2 with h2|h2
    · have h3:iY ops 4 j i=true:=by
        cases ho:ops[j]? with
        |none=>rw[ho] at h2;cases h2
        | some o=>
          rw[ho] at h2
          simp only[iY,ho]
          rw[Array.any_eq_true] at h2 ⊢
          obtain⟨k,hk,h4⟩:=h2
          refine⟨k,hk,?_⟩
          rw[bN] at h4 ⊢
          exact⟨h4.1,by rw[h4.2];rfl⟩
      rw[h3];simp
    ·rw[h2];rfl
  ·exact h
@[reducible] def kZ (N : Nat) : Option Nat → Bool
  |none=>true
  |some d=>Nat.ble (Nat.add d 1) N
theorem BD {N:Nat}{d:Option Nat}(h:kZ N d=true):fR N d=true:=by
  cases d with
  |none=>rfl
  |some d=>simp only[kZ] at h;simp only[fR,bH];exact fO h
@[reducible] def o6 (l : List Nat) (k : Nat) : Bool :=
  match l with
  |[]=>false
  | x::r=>match Nat.beq x k with
    |true=>true
    |false=>o6 r k
@[reducible] def Ml : Bool → Bool → Bool
  |true,true=>true
  |false,false=>true
  |_,_=>false
theorem By {a b:Bool}:Ml a b=(a==b):=by cases a<;>cases b<;>rfl
@[reducible] def pI (dr : Bool) (acc : Tk) (rd : List Nat) (ups : ML) : Tk :=
  match dr with
  |true=>dR acc [(rd,ef Prod.fst ups)]
  |false=>acc
def bK (acc:Tk)(sl:SL)(m:ML){A:Tk→SL→ML→Prop}:Prop:=A acc sl m
@[reducible] def my (rest : List Oper) (acc : Tk) (sl : SL) (m : ML) (F : Tk → SL → ML → Prop) : Prop :=
  match Nat.beq (Nat.mod (eV rest) 4) 3 with
  |true=>bK acc sl m (A:=F)
  |false=>F acc sl m
theorem wj {rest:List Oper}{acc:Tk}{sl:SL}{m:ML}{F:Tk→SL→ML→Prop}(h:my rest acc sl m F):F acc sl m:=by
  unfold my at h
  split at h<;>exact h
section
variable (P : Program) (N : Nat) (Γ : cQ) (ds : List (Option Nat)) (dr : Bool)
@[reducible] def wpOps : List Oper → List Nat → Tk → SL → ML → (Tk → SL → ML → Prop) → Prop
  |[],_,acc,sl,m,K=>K acc sl m
  | o :: rest, gs, acc,sl,m,K=>match kZ N o.dst with
    |false=>False
    | true => match o.guard with
      |none=>wpOp P N Γ o acc sl m (fun rd x ups acc sl m=>my rest (pI dr acc rd ups) (pushB o.dst x sl) (uF ups m) (fun acc sl m=>wpOps rest gs acc sl m K))
      | some (j, b)=>match iA ds j with
        | some (some d)=>match Nat.ble (Nat.add d 1) N with
          |false=>False
          | true =>match uI sl d with
            | .lit (.bool c)=>match o6 gs j with
              | true=>match Ml c b with
                |true=>wpOp P N Γ o acc sl m (fun rd x ups acc sl m=>my rest (pI dr acc rd ups) (pushB o.dst x sl) (uF ups m) (fun acc sl m=>wpOps rest gs acc sl m K))
                |false=>my rest (pI dr acc [] []) (pushB o.dst (.lit (.tuple #[])) sl) m (fun acc sl m=>wpOps rest gs acc sl m K)
              | false=>aX c acc sl m
                (A :=fun acc sl m=>match b with
                  |true=>wpOp P N Γ o acc (pg d (.lit (.bool true)) sl) m (fun rd x ups acc sl m=>my rest (pI dr acc rd ups) (pushB o.dst x sl) (uF ups m) (fun acc sl m=>wpOps rest (j::gs) acc sl m K))
                  |false=>my rest (pI dr acc [] []) (pushB o.dst (.lit (.tuple #[])) (pg d (.lit (.bool true)) sl)) m (fun acc sl m=>wpOps rest (j::gs) acc sl m K))
                (B :=fun acc sl m=>match b with
                  |false=>wpOp P N Γ o acc (pg d (.lit (.bool false)) sl) m (fun rd x ups acc sl m=>my rest (pI dr acc rd ups) (pushB o.dst x sl) (uF ups m) (fun acc sl m=>wpOps rest (j::gs) acc sl m K))
                  |true=>my rest (pI dr acc [] []) (pushB o.dst (.lit (.tuple #[])) (pg d (.lit (.bool false)) sl)) m (fun acc sl m=>wpOps rest (j::gs) acc sl m K))
            |.lit (.tuple _)=>my rest (pI dr acc [] []) (pushB o.dst (.lit (.tuple #[])) sl) m (fun acc sl m=>wpOps rest gs acc sl m K)
            |_=>False
        |_=>False
end
def aI (P:Program){l:List Oper}(acc:Tk)(sl:SL)(m:ML){A:SL→ML→Prop}:Prop:=
  P.follows .mixedOrders=true∧Region.lexB .any l.toArray=true∧(zI l.toArray acc||jc l.toArray acc)=true∧A sl m
def bL (sl:SL)(m:ML){A:SL→ML→Prop}:Prop:=A sl m
def mO (p q:Prop)(sl:SL)(m:ML){A B:SL→ML→Prop}:Prop:=(p→A sl m)∧(q→B sl m)
def Kh (Q:Exit→SL→ML→Prop):Exit→az→Prop:=fun e σ=> ∃sl m,σ=St sl m∧Q e sl m
def bX (P:Program)(N nL:Nat)(sl:SL)(m:ML){c:Code}{Q:Exit→SL→ML→Prop}:Prop:=ga P N nL c (Kh Q) (St sl m)
section
variable (P : Program) (N nL : Nat) (Γ : cQ)
@[reducible] def tI : Code → SL → ML → (Exit → SL → ML → Prop) → Prop
  |.skip,sl,m,Q=>Q .normal sl m
  | .region _ ops dr,sl,m,Q=>wpOps P N Γ (ef Oper.dst ops.toList) dr ops.toList [] [] sl m (fun acc sl m=>match dr with
    |false=>Q .normal sl m
    |true=>aI P (l:=ops.toList) acc sl m (A:=Q .normal))
  | .seq a b,sl,m,Q=>tI a sl m (fun e sl m=>match e with
    |.normal=>bL sl m (A:=fun sl m=>tI b sl m Q)
    |e=>Q e sl m)
  | .cond x a b,sl,m,Q=>match eZ sl x with
    |.lit (.bool c)=>aX c [] sl m (A:=fun _ sl m=>tI a sl m Q) (B:=fun _ sl m=>tI b sl m Q)
    |.guess p q=>mO p q sl m (A:=fun sl m=>tI a sl m Q) (B:=fun sl m=>tI b sl m Q)
    |_=>False
  | .block id c,sl,m,Q=>tI c sl m (fun e sl m=>match e with
    | .exit j=>match Nat.beq j id with
      |true=>Q .normal sl m
      |false=>Q (.exit j) sl m
    |e=>Q e sl m)
  |.exit i,sl,m,Q=>Q (.exit i) sl m
  |.ret,sl,m,Q=>Q .ret sl m
  |.label _,sl,m,Q=>Q .normal sl m
  |c,sl,m,Q=>bX P N nL sl m (c:=c) (Q:=Q)
end
section
variable {P : Program} {N nL : Nat} {Γ : cQ} {ds : List (Option Nat)} {dr : Bool} {ops : Array Oper}
theorem yF {sl:SL}{m:ML}{d:Nat}{x:AV}(h:uI sl d=x):St (pg d x sl) m=St sl m:=by
  unfold St
  congr 1
  funext i
  rw[nI]
  simp only[ct]
  by_cases hi:i=d
  ·subst hi;simp[←h,gS]
  · have:(i==d)=false:=by simpa using hi
    rw[this];rfl
def KA (dr:Bool)(acc:Tk)(K:Tk→SL→ML→Prop):List j6→az→Prop:=fun es σ'=> ∃sl m,σ'=St sl m∧K (if dr then acc++es.map j6.toks else acc) sl m
theorem tH (hΓ:Γ.Good P)(hds:∀j:Nat,(ops[j]?).bind (·.dst)=(ds[j]?).bind id):∀ (l:List Oper) (gs:List Nat) (acc:Tk) (sl:SL) (m:ML) (K:Tk→SL→ML→Prop),wpOps P N Γ ds dr l gs acc sl m K→
    iR P N ops l (St sl m) (KA dr acc K)
  | [],gs,acc,sl,m,K,h=>by
    simp only[iR,KA,List.map_nil,List.append_nil,ite_self]
    exact⟨sl,m,rfl,h⟩
  | o :: rest, gs,acc,sl,m,K,h=>by
    unfold wpOps at h
    split at h
    ·exact h.elim
    rename_i hd0
    have hd:=BD hd0
    have toks:∀ (rd:List Nat) (x:AV) (ups:ML) (w:Bool) (sl1:SL) (es:List j6),(if dr then pI dr acc rd ups++es.map j6.toks else pI dr acc rd ups)=(if dr then acc++ (j6.mk o w (St sl1 m) rd x ups::es).map j6.toks else acc):=by
      intro rd x ups w sl1 es
      cases dr with
      |true=>simp[pI,gT,eB,j6.toks]
      |false=>simp[pI]
    have go:∀ (sl:SL) (gs:List Nat),iX N ops o (St sl m) true→wpOp P N Γ o acc sl m (fun rd x ups acc sl m=>my rest (pI dr acc rd ups) (pushB o.dst x sl) (uF ups m) (fun acc sl m=>wpOps P N Γ ds dr rest gs acc sl m K))→
        iR P N ops (o::rest) (St sl m) (KA dr acc K):=by
      intro sl gs hw h
      obtain⟨rd,x,ups,h1,h2⟩:=GS hΓ hd h
      refine⟨⟨o,true,St sl m,rd,x,ups⟩,rfl,rfl,⟨hw,bA hd,fun _=>h1,fun h=>by cases h⟩,?_⟩
      have:=tH hΓ hds rest _ _ _ _ _ (wj h2)
      rw[show az.app (St sl m) ⟨o,true,St sl m,rd,x,ups⟩=St (pushB o.dst x sl) (uF ups m) from(uA sl m ups o.dst x).trans (sL _ _ _ _ _)]
      unfold KA at this ⊢
      simp only[toks rd x ups true sl] at this
      exact this
    have skip:∀ (sl:SL) (gs:List Nat),iX N ops o (St sl m) false→my rest (pI dr acc [] []) (pushB o.dst (.lit (.tuple #[])) sl) m (fun acc sl m=>wpOps P N Γ ds dr rest gs acc sl m K)→iR P N ops (o::rest) (St sl m) (KA dr acc K):=by
      intro sl gs hw h
      refine⟨⟨o,false,St sl m,[],.lit undef,[]⟩,rfl,rfl,⟨hw,bA hd,(fun h=>by cases h),fun _=>⟨rfl,rfl⟩⟩,?_⟩
      have:=tH hΓ hds rest _ _ _ _ _ (wj h)
      rw[show az.app (St sl m) ⟨o,false,St sl m,[],.lit undef,[]⟩=St (pushB o.dst (.lit (.tuple #[])) sl) m from(uA sl m [] o.dst _).trans (sL _ _ _ _ _)]
      unfold KA at this ⊢
      simp only[toks [] (.lit (.tuple #[])) [] false sl] at this
      exact this
    split at h
    · rename_i hg
      exact go sl gs (by simp[iX,hg]) h
    · rename_i j b hg
      split at h
      · rename_i d hj
        rw[ij] at hj
        split at h
        ·exact h.elim
        · rename_i hN
          have hdN:d<N:=fO hN
          split at h
          · rename_i c hc
            have hw:∀c',c=c'→∀sl',uI sl' d=.lit (.bool c')→iX N ops o (St sl' m) (c'==b):=by
              intro c' _ sl' hl
              simp only[iX,hg]
              exact⟨d,.bool c',by rw[hds,hj];rfl,hdN,by show ct sl' d=_;rw[←gS];exact hl,rfl⟩
            have hput:∀x,uI (pg d x sl) d=x:=fun x=>by rw[gS,nI];simp[ct]
            split at h
            · split at h
              · rename_i he
                rw[By] at he
                exact go sl gs (by have:=hw c rfl sl hc;rwa [he] at this) h
              · rename_i he
                rw[By] at he
                exact skip sl gs (by have:=hw c rfl sl hc;rwa [he] at this) h
            · cases c with
              | true=>
                have h:=h.1 rfl
                rw[←yF (m:=m) hc]
                cases b with
                |true=>exact go _ _ (hw true rfl _ (hput _)) h
                |false=>exact skip _ _ (hw true rfl _ (hput _)) h
              | false=>
                have h:=h.2 rfl
                rw[←yF (m:=m) hc]
                cases b with
                |true=>exact skip _ _ (hw false rfl _ (hput _)) h
                |false=>exact go _ _ (hw false rfl _ (hput _)) h
          · rename_i vs hc
            refine skip sl gs ?_ h
            simp only[iX,hg]
            exact⟨d,.tuple vs,by rw[hds,hj];rfl,hdN,by show ct sl d=_;rw[←gS];exact hc,rfl⟩
          ·exact h.elim
      ·exact h.elim
theorem iR.post {l:List Oper}:∀ {σ:az} {K K':List j6→az→Prop},(∀es σ',K es σ'→K' es σ')→iR P N ops l σ K→iR P N ops l σ K':=by
  induction l with
  |nil=>intro σ K K' hk h;exact hk _ _ h
  | cons o rest ih=>
    intro σ K K' hk h
    obtain⟨e,h1,h2,h3,h4⟩:=h
    exact⟨e,h1,h2,h3,ih (fun es σ' h=>hk _ _ h) h4⟩
theorem mN (hΓ:Γ.Good P):∀ (c:Code) (sl:SL) (m:ML) (Q:Exit→SL→ML→Prop),tI P N nL Γ c sl m Q→ga P N nL c (Kh Q) (St sl m):=by
  have reg:∀ (id:Nat) (ops:Array Oper) (dr:Bool) (sl:SL) (m:ML) (Q:Exit→SL→ML→Prop),tI P N nL Γ (.region id ops dr) sl m Q→ga P N nL (.region id ops dr) (Kh Q) (St sl m):=by
    intro id ops dr sl m Q h
    unfold tI at h
    have h1:=tH (ops:=ops) hΓ (fun j=>by simp[eB,fI,Option.bind_map]) ops.toList [] [] sl m _ h
    obtain⟨l⟩:=ops
    cases dr with
    | false=>
      refine ga.region (iR.post ?_ h1)
      rintro es σ' ⟨sl',m',rfl,hk⟩
      exact⟨sl',m',rfl,hk⟩
    | true=>
      have hh:iR P N l.toArray l (St sl m) (fun es σ'=>P.follows .mixedOrders=true∧Region.lexB .any l.toArray=true∧jc l.toArray (es.map j6.toks)=true∧Kh Q .normal σ'):=by
        refine iR.post ?_ h1
        rintro es σ' ⟨sl',m',rfl,k1,k2,k3,k4⟩
        exact⟨k1,k2,Db (by simpa using k3),sl',m',rfl,k4⟩
      obtain⟨es,σ',⟨k1,k2,_,_⟩,_⟩:=hh.trace
      exact ga.AS k1 k2 (iR.post (fun es σ' h=>⟨h.2.2.1,h.2.2.2⟩) hh)
  intro c
  induction c with
  |skip=>intro sl m Q h;exact ga.skip ⟨sl,m,rfl,h⟩
  |region id ops dr=>intro sl m Q h;exact reg id ops dr sl m Q h
  | seq a b iha ihb=>
    intro sl m Q h
    refine ga.seq ((iha sl m _ h).mono ?_)
    rintro e σ ⟨sl',m',rfl,h'⟩
    cases e with
    |normal=>exact ihb sl' m' Q h'
    |_=>exact⟨sl',m',rfl,h'⟩
  | cond x a b iha ihb=>
    intro sl m Q h
    unfold tI at h
    split at h
    · rename_i c hc
      exact ga.cond (by rw[ev_eq];exact hc) (fun hb=>iha sl m Q (h.1 hb)) (fun hb=>ihb sl m Q (h.2 hb))
    · rename_i p q hc
      exact ga.DO (by rw[ev_eq];exact hc) (fun hb=>iha sl m Q (h.1 hb)) (fun hb=>ihb sl m Q (h.2 hb))
    ·exact h.elim
  | block id c ih=>
    intro sl m Q h
    refine ga.block ((ih sl m _ h).mono ?_)
    rintro e σ ⟨sl',m',rfl,h'⟩
    cases e with
    | exit j=>
      simp only at h'
      simp only[uz]
      split at h'
      ·rename_i hj;rw[if_pos (beq_eq hj)];exact⟨sl',m',rfl,h'⟩
      · rename_i hj
        rw[if_neg (fun e=>by rw[e,Nat.beq_refl] at hj;cases hj)]
        exact⟨sl',m',rfl,h'⟩
    |_=>exact⟨sl',m',rfl,h'⟩
  |exit i=>intro sl m Q h;exact ga.exit ⟨sl,m,rfl,h⟩
  |ret=>intro sl m Q h;exact ga.ret ⟨sl,m,rfl,h⟩
  |label l=>intro sl m Q h;exact ga.label ⟨sl,m,rfl,h⟩
  |_=>intros;assumption
end
end Go.Am
