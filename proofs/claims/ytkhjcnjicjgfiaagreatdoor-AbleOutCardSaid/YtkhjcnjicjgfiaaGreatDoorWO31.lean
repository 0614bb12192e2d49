/- Walks of functions by unfolding over abstract states; runs of functions by an evaluator that is proved. By an AI agent. -/
import Derived.Test.YtkhjcnjicjgfiaaGreatDoorWO30
set_option linter.unusedSimpArgs false
set_option linter.unusedVariables false
namespace Go.Am
open Go Go.RowKit Go.Lib MapKept
structure l9 where
  Γ:bZ
  Δ:uz
  fns:List (Nat×Func)
  kinds:List (Nat×IntKind)
  orc:jM
  ifs:List Nat
def MZ:List (Nat×Func)→Nat→Option Func
  |[],_=>none
  | (k,f)::r,g=>match Nat.beq g k with
    |true=>some f
    |false=>MZ r g
def Md:List (Nat×IntKind)→Nat→Option IntKind
  |[],_=>none
  | (k,f)::r,g=>match Nat.beq g k with
    |true=>some f
    |false=>Md r g
structure l9.Good (P:Program) (E:l9):Prop where
  Γ:E.Γ.Good P
  Δ:E.Δ.Good P
  fns:∀p∈E.fns,P.funcs[p.1]? =some p.2∧ak P p.1
  kinds:∀p∈E.kinds,P.underlying p.1=some (.int p.2)
  orc:∀g ins args outs res,E.orc g ins args=some (outs,res)→an P g ins args outs res∧ak P g
  orders:P.follows .mixedOrders=true
  ifs:∀t∈E.ifs,∃ms,P.underlying t=some (.interface ms)
theorem C4:∀ {l:List (Nat×Func)} {g:Nat} {f:Func},MZ l g=some f→(g,f)∈l
  |[],_,_,h=>by cases h
  | (k,f0)::r,g,f,h=>by
    simp only[MZ] at h
    split at h
    ·rename_i hb;cases h;rw[beq_eq hb];exact dJ ..
    ·exact c7 _ (C4 h)
theorem xN:∀ {l:List (Nat×IntKind)} {g:Nat} {f:IntKind},Md l g=some f→(g,f)∈l
  |[],_,_,h=>by cases h
  | (k,f0)::r,g,f,h=>by
    simp only[Md] at h
    split at h
    ·rename_i hb;cases h;rw[beq_eq hb];exact dJ ..
    ·exact c7 _ (xN h)
def FH (E:l9)(S:ES)(src dst:TypeId)(y:Operand):Option ER:=
  match Md E.kinds src,Md E.kinds dst,jd S y with
  | some _,some k',.lit (.int _ n)=>match decide (k'.wrap n=n) with
    |true=>some ([],.lit (.int k' n),[],S.nx)
    |false=>none
  |_,_,_=>none
def JA:List Nat→Nat→Bool
  |[],_=>false
  | x::r,t=>match Nat.beq x t with
    |true=>true
    |false=>JA r t
theorem Cr:∀ {l:List Nat} {t:Nat},JA l t=true→t∈l
  |[],_,h=>by cases h
  | x::r,t,h=>by
    simp only[JA] at h
    split at h
    ·rename_i hb;rw[Nat.eq_of_beq_eq_true hb];exact dJ ..
    ·exact c7 _ (Cr h)
def Ml:Operand→Bool
  |.const .nilIface=>true
  |_=>false
def AK:Value→Bool
  |.nilIface=>true
  |_=>false
def Kq (ifs:List Nat)(S:ES)(op:BinOp)(t:TypeId)(y z:Operand):Option ER:=
  match JA ifs t,jd S y,Ml z with
  | true,.lit v,true=>match AK v,op with
    |true,.eql=>some ([],.lit (.bool true),[],S.nx)
    |true,.neq=>some ([],.lit (.bool false),[],S.nx)
    |_,_=>none
  |_,_,_=>none
def Ac (E:l9)(cG:jM)(S:ES)(o:Oper):Option ER:=
  match o.op with
  |.indexAddr t y z=>Kx E.Γ S t y z
  |.slice t y lo hi mx=>Jd E.Γ S t y lo hi mx
  |.buildSlice t len parts=>KX E.Γ S t len parts.toList
  |.alloc t=>BL E.Γ S t
  |.box _ y=>K4 S y
  | .makeMap _ hint=>match hint with
    |none=>Bh S
    |some _=>none
  |.lookup t y x c=>F8 E.Δ S t y x c
  |.mapUpdate t y x v=>xA E.Δ S t y x v
  |.index t y z=>EP E.Γ S t y z
  |.convert src dst y=>FH E S src dst y
  | .binOp op t y z _=>match Kq E.ifs S op t y z with
    |some q=>some q
    |none=>KV E.Γ S o op t y z
  | .call c=>match c.callee with
    | .value f=>match f with
      |.func g=>zP cG S g (c.args.toList.map (jd S))
      | f =>match jd S f with
        |.clo (.func g) first cap=>zP cG S g (first++c.args.toList.map (jd S)++cap)
        | .lit (.func (.func g) a b)=>match a.toList,b.toList with
          |[],[]=>zP cG S g (c.args.toList.map (jd S))
          |_,_=>none
        |_=>none
    | .builtin .append=>match c.args.toList,c.argTypes.toList with
      |[y,z],[t,t2]=>LK E.Γ S y z t t2
      |_,_=>none
    | .builtin .len=>match c.args.toList,c.argTypes.toList with
      | [y],[t]=>match Fh E.Δ S t y with
        |some q=>some q
        |none=>j4 E.Γ S o
      |_,_=>none
    |_=>j4 E.Γ S o
  |_=>j4 E.Γ S o
def zk (E : l9)(cG:jM)(N:Nat)(ds:List (Option Nat)):List Oper→Tk→ES→Option (Tk×ES)
  |[],acc,S=>some (acc,S)
  | o :: rest, acc,S=>match j9 N o.dst with
    |false=>none
    | true => match o.guard with
      | none=>match Ac E cG S o with
        |some (rd,x,ups,nx)=>zk E cG N ds rest (acc++ [(rd,ups.map Prod.fst)]) (oy S o.dst x ups nx)
        |none=>none
      | some (j,b)=>match gd ds j with
        | some (some d)=>match Nat.ble (d+1) N,jd S (.tmp d) with
          | true,.lit v=>match gv v b with
            | true=>match Ac E cG S o with
              |some (rd,x,ups,nx)=>zk E cG N ds rest (acc++ [(rd,ups.map Prod.fst)]) (oy S o.dst x ups nx)
              |none=>none
            |false=>zk E cG N ds rest (acc++ [([],[])]) (oy S o.dst (.lit undef) [] S.nx)
          |_,_=>none
        |_=>none
def gE (E:l9)(cG:jM)(N:Nat):Nat→Code→ES→Option (Exit×ES)
  |0,_,_=>none
  | n + 1, c,S=>match c with
    |.skip=>some (.normal,S)
    | .region _ ops dr=>match zk E cG N (ops.toList.map Oper.dst) ops.toList [] S with
      | some (acc,S')=>match dr with
        |false=>some (.normal,S')
        | true=>match Region.lexB .any ops,ik ops acc with
          |true,true=>some (.normal,S')
          |_,_=>none
      |none=>none
    | .seq a b=>match gE E cG N n a S with
      |some (.normal,S')=>gE E cG N n b S'
      |r=>r
    | .cond x a b=>match jd S x with
      |.lit (.bool true)=>gE E cG N n a S
      |.lit (.bool false)=>gE E cG N n b S
      |_=>none
    | .block id c=>match gE E cG N n c S with
      | some (.exit j,S')=>match Nat.beq j id with
        |true=>some (.normal,S')
        |false=>some (.exit j,S')
      |r=>r
    |.exit i=>some (.exit i,S)
    |.ret=>some (.ret,S)
    |.label _=>some (.normal,S)
    | .loop c=>match gE E cG N n c S with
      |some (.normal,S')=>gE E cG N n (.loop c) S'
      |r=>r
    |_=>none
theorem Bl (E:l9)(cG:jM)(N n:Nat)(c:Code)(S:ES):gE E cG N (n+1) (.loop c) S=match gE E cG N n c S with
      |some (.normal,S')=>gE E cG N n (.loop c) S'
      |r=>r:=rfl
def Ff (Γ:bZ)(S:ES):ResultVar→Option AV
  |.tmp t=>some (jd S (.tmp t))
  | .cell a t=>match jd S (.tmp a) with
    | .ptr tk i k=>match mE S tk with
      | .live _ rows _=>match gd rows i with
        |some r=>pD (kN Γ t) r k
        |none=>none
      |_=>none
    |_=>none
def IN (Γ:bZ)(S:ES):List ResultVar→Option (List AV)
  |[]=>some []
  | rv::r=>match Ff Γ S rv,IN Γ S r with
    |some x,some xs=>some (x::xs)
    |_,_=>none
def CX (S:ES)(f:Nat→Option Nat):List Nat→Option (List MS)
  |[]=>some []
  | t ::r=>match CX S f r with
    |none=>none
    | some l=>match mE S t with
      |.live wd rows false=>some (.live wd (uT f rows) false::l)
      |.live _ _ true=>some (.dead::l)
      |.dead=>some (.dead::l)
      |.free=>none
def Cm:Nat→Nat→List Nat→Bool
  |0,_,_=>true
  | k+1,i,t::r=>match Nat.beq t i with
    |true=>Cm k (i+1) r
    |false=>false
  |_+1,_,[]=>false
def G5 (Γ:bZ)(nL:Nat)(rvs:List ResultVar)(S:ES):Option (List MS×AV):=
  match IN Γ S rvs with
  |none=>none
  | some xs=>match qz 1000 S 0 (KJ S (rX xs) (List.range nL)) with
    | ns=>match CX S (og ns 0) ns,oR ns,Cm nL 0 ns with
      |some outs,true,true=>some (outs,AP (og ns 0) (rX xs))
      |_,_,_=>none
def uf:Nat→List AV→Tr AV
  |_,[]=>.nil
  |k,x::r=>(uf (k+1) r).put k x
def uA:Nat→List MS→Tr MS
  |_,[]=>.nil
  |k,x::r=>(uA (k+1) r).put k x
def Az (E:l9)(fuel:Nat):Nat→jM
  |0=>fun _ _ _=>none
  | n + 1 =>fun g ins args=>match E.orc g ins args with
    |some r=>some r
    | none =>match MZ E.fns g with
      |none=>none
      | some fn=>match fn.body,Nat.ble args.length fn.ntmps with
        | some c,true=>match gE E (Az E fuel n) fn.ntmps fuel c ⟨uf 0 args,uA 0 ins,ins.length⟩ with
          |some (.normal,S)=>G5 E.Γ ins.length fn.results.toList S
          |some (.ret,S)=>G5 E.Γ ins.length fn.results.toList S
          |_=>none
        |_,_=>none
section
variable {P : Program} {E : l9} {cG : jM} {N : Nat}
def ji (P:Program)(cG:jM):Prop:=∀g ins args outs res,cG g ins args=some (outs,res)→an P g ins args outs res∧ak P g
theorem Fy {o:Oper}{S:ES}{q:ER}(hE:E.Good P)(hd:cM N o.dst=true){src dst:TypeId}{y:Operand}(ho:o.op=.convert src dst y)(h:FH E S src dst y=some q):jJ P N o S q:=by
  unfold FH at h
  split at h
  · rename_i k0 k' k n h1 h2 hy
    split at h
    · rename_i hn
      cases h
      have hn':=of_decide_eq_true hn
      have hs:=hE.kinds _ (xN h1)
      have hdd:=hE.kinds _ (xN h2)
      refine aD.Ch (P:=P) (N:=N) (σ:=den S) ho (by rw[bL];exact hy) (fun w=>?_) (aJ hd)
      have hk:P.intKind dst=k':=by simp[Program.intKind,hdd]
      have:=run_convert_int (P:=P) w src dst k n (by rw[hs];rfl) (by rw[hk];exact hdd)
      rw[hk,hn'] at this
      exact this
    ·cases h
  ·cases h
theorem HL {o:Oper}{S:ES}{q:ER}(hE:E.Good P)(hd:cM N o.dst=true){op:BinOp}{t yt:TypeId}{y z:Operand}(ho:o.op=.binOp op t y z yt)(h:Kq E.ifs S op t y z=some q):jJ P N o S q:=by
  unfold Kq at h
  split at h
  · rename_i v hm hy hz
    obtain⟨ms,hi⟩:=hE.ifs t (Cr hm)
    have hz':z=.const .nilIface:=by
      unfold Ml at hz
      split at hz
      ·rfl
      ·cases hz
    subst hz'
    have heq:∀ (d:Nat) w,(Op.equalIn (d+1) t .nilIface .nilIface).run P w=.ok true w:=fun d w=>by simp[Op.equalIn,run_underlying hi]
    have hb:∀op' r,op'=BinOp.eql∧r=true∨op'=BinOp.neq∧r=false→∀w,((do eqGuard op' t y (.const .nilIface) .nilIface .nilIface;binOp op' t .nilIface .nilIface:Sem Value)).run P w=.ok (.bool r) w:=by
      rintro op' r (⟨rfl,rfl⟩|⟨rfl,rfl⟩) w<;>simp only[eqGuard,binOp]<;>simp[Op.equal,Op.maxDepth,heq 9999]
    split at h
    · rename_i hv
      have hv':v=.nilIface:=by
        unfold AK at hv
        split at hv
        ·rfl
        ·cases hv
      subst hv'
      cases h
      exact aD.binOp (P:=P) (N:=N) (σ:=den S) ho (by rw[bL];exact hy) rfl (hb _ _ (.inl ⟨rfl,rfl⟩)) (aJ hd)
    · rename_i hv
      have hv':v=.nilIface:=by
        unfold AK at hv
        split at hv
        ·rfl
        ·cases hv
      subst hv'
      cases h
      exact aD.binOp (P:=P) (N:=N) (σ:=den S) ho (by rw[bL];exact hy) rfl (hb _ _ (.inr ⟨rfl,rfl⟩)) (aJ hd)
    ·cases h
  ·cases h
theorem tw (S:ES)(args:Array Operand):args.toList.map (den S).eval=args.toList.map (jd S):=by
  apply List.map_congr_left;intro y _;exact bL S y
theorem Fa {o:Oper}{S:ES}{q:ER}(hE:E.Good P)(hF:ji P cG)(hd:cM N o.dst=true)(h:Ac E cG S o=some q):jJ P N o S q:=by
  unfold Ac at h
  split at h
  ·rename_i ho;exact Jn hE.Γ hd ho h
  ·rename_i ho;exact JF hE.Γ hd ho h
  ·rename_i ho;exact Ji hE.Γ hd ho h
  ·rename_i ho;exact DU hE.Γ hd ho h
  ·rename_i ho;exact Iq hd ho h
  · rename_i ho
    split at h
    ·exact DT hd ho h
    ·cases h
  ·rename_i ho;exact GH hE.Δ hd ho h
  ·rename_i ho;exact AR hE.Δ hd ho h
  ·rename_i ho;exact FM hE.Γ hd ho h
  ·rename_i ho;exact Fy hE hd ho h
  · rename_i ho
    split at h
    ·rename_i hn;cases h;exact HL hE hd ho hn
    ·exact Ie hE.Γ hd ho h
  · rename_i c ho
    obtain⟨callee,args,types⟩:=c
    simp only at h
    split at h
    · split at h
      · rw[←tw] at h
        exact tq hF hd (.func ho rfl) h
      · split at h
        · rename_i f hne g first cap hy
          rw[←tw] at h
          exact tq hF hd (.clo ho (by rw[bL];exact hy)) h
        · rename_i f hne g a b hy
          split at h
          · rename_i ha hb
            obtain rfl:a= #[]:=Array.ext' ha
            obtain rfl:b= #[]:=Array.ext' hb
            rw[←tw] at h
            exact tq hF hd (.func ho (by rw[bL];exact hy)) h
          ·cases h
        ·cases h
    · split at h
      · rename_i y z t t2 ea et
        obtain rfl:args= #[y,z]:=Array.ext' ea
        obtain rfl:types= #[t,t2]:=Array.ext' et
        exact HI hE.Γ hd ho h
      ·cases h
    · split at h
      · rename_i y t ea et
        obtain rfl:args= #[y]:=Array.ext' ea
        obtain rfl:types= #[t]:=Array.ext' et
        split at h
        · rename_i q' hq
          cases h
          exact Gw hE.Δ hd ho hq
        ·exact gH hE.Γ hd h
      ·cases h
    ·exact gH hE.Γ hd h
  ·exact gH hE.Γ hd h
theorem xb (hE:E.Good P)(hF:ji P cG){ops:Array Oper}:∀ (l:List Oper) (acc:Tk) (S:ES) (acc':Tk) (S':ES),zk E cG N (ops.toList.map Oper.dst) l acc S=some (acc',S')→gb P N ops l (den S) (fun es σ'=>σ'=den S'∧acc'=acc++es.map iV.toks)
  | [],acc,S,acc',S',h=>by
    cases h
    exact⟨rfl,by simp⟩
  | o :: rest, acc,S,acc',S',h=>by
    unfold zk at h
    split at h
    ·cases h
    · rename_i hd0
      have hd:=yg hd0
      have go:fJ N ops o (den S) true→∀ {q:ER},Ac E cG S o=some q→zk E cG N (ops.toList.map Oper.dst) rest (acc++ [(q.1,q.2.2.1.map Prod.fst)]) (oy S o.dst q.2.1 q.2.2.1 q.2.2.2)=some (acc',S')→
          gb P N ops (o::rest) (den S) (fun es σ'=>σ'=den S'∧acc'=acc++es.map iV.toks):=by
        intro hw q hq hr
        refine⟨⟨o,true,den S,q.1,q.2.1,q.2.2.1⟩,rfl,rfl,⟨hw,aJ hd,fun _=>Fa hE hF hd hq,fun h=>by cases h⟩,?_⟩
        have:=xb hE hF rest _ _ _ _ hr
        rw[wu] at this
        refine gb.post ?_ this
        rintro es σ' ⟨h1,h2⟩
        exact⟨h1,by rw[h2];simp[iV.toks]⟩
      have skip:fJ N ops o (den S) false→zk E cG N (ops.toList.map Oper.dst) rest (acc++ [([],[])]) (oy S o.dst (.lit undef) [] S.nx)=some (acc',S')→
          gb P N ops (o::rest) (den S) (fun es σ'=>σ'=den S'∧acc'=acc++es.map iV.toks):=by
        intro hw hr
        refine⟨⟨o,false,den S,[],.lit undef,[]⟩,rfl,rfl,⟨hw,aJ hd,(fun h=>by cases h),fun _=>⟨rfl,rfl⟩⟩,?_⟩
        have:=xb hE hF rest _ _ _ _ hr
        rw[wu] at this
        refine gb.post ?_ this
        rintro es σ' ⟨h1,h2⟩
        exact⟨h1,by rw[h2];simp[iV.toks]⟩
      split at h
      · rename_i hg
        split at h
        · rename_i rd x ups nx hq
          exact go (by simp[fJ,hg]) hq h
        ·cases h
      · rename_i j b hg
        split at h
        · rename_i d hj
          rw[eU,fH] at hj
          have hj':(ops[j]?).bind (·.dst)=some d:=by
            rw[←Array.getElem?_toList]
            cases ho:ops.toList[j]? with
            |none=>rw[ho] at hj;cases hj
            |some o'=>rw[ho] at hj;simpa using hj
          split at h
          · rename_i v hN hv
            have hw:fJ N ops o (den S) (gv v b):=by
              simp only[fJ,hg]
              exact⟨d,v,hj',cr hN,hv,rfl⟩
            split at h
            · rename_i hb
              rw[hb] at hw
              split at h
              · rename_i rd x ups nx hq
                exact go hw hq h
              ·cases h
            · rename_i hb
              rw[hb] at hw
              exact skip hw h
          ·cases h
        ·cases h
def Ox (e:Exit)(S:ES):Exit→aA→Prop:=fun e' σ=>e'=e∧σ=den S
theorem GJ (hE:E.Good P)(hF:ji P cG){nL:Nat}:∀ (n:Nat) (c:Code) (S:ES) (e:Exit) (S':ES),gE E cG N n c S=some (e,S')→eH P N nL c (Ox e S') (den S):=by
  intro n
  induction n using Nat.strongRecOn with
  | _ n ih =>
    intro c S e S' h
    cases n with
    |zero=>cases h
    | succ n =>
      have ihn:=ih n (Nat.lt_succ_self n)
      unfold gE at h
      split at h
      ·cases h;exact eH.skip ⟨rfl,rfl⟩
      · rename_i id ops dr
        split at h
        · rename_i acc S1 hops
          have h1:=xb hE hF (ops:=ops) ops.toList [] S acc S1 hops
          obtain⟨l⟩:=ops
          split at h
          · cases h
            refine eH.region (gb.post ?_ h1)
            rintro es σ' ⟨h2,_⟩
            exact⟨rfl,h2⟩
          · split at h
            · rename_i g1 g2
              cases h
              refine eH.xD hE.orders g1 (gb.post ?_ h1)
              rintro es σ' ⟨h2,h3⟩
              refine⟨?_,rfl,h2⟩
              simp only[List.nil_append] at h3
              rw[←h3];exact g2
            ·cases h
        ·cases h
      · rename_i a b
        refine eH.seq ?_
        split at h
        · rename_i S1 h1
          refine(ihn a S _ _ h1).mono ?_
          rintro e' σ ⟨rfl,rfl⟩
          exact ihn b S1 _ _ h
        · rename_i hne
          cases hr:gE E cG N n a S with
          |none=>rw[hr] at h;cases h
          | some p=>
            obtain⟨e1,S1⟩:=p
            rw[hr] at h
            cases h
            refine(ihn a S _ _ hr).mono ?_
            rintro e' σ ⟨rfl,rfl⟩
            cases e' with
            |normal=>exact absurd hr (hne _)
            |_=>exact⟨rfl,rfl⟩
      · rename_i x a b
        split at h
        · rename_i hx
          exact eH.cond (by rw[bL];exact hx) (fun _=>ihn a S _ _ h) (fun hb=>by cases hb)
        · rename_i hx
          exact eH.cond (by rw[bL];exact hx) (fun hb=>by cases hb) (fun _=>ihn b S _ _ h)
        ·cases h
      · rename_i id c
        refine eH.block ?_
        split at h
        · rename_i j S1 h1
          refine(ihn c S _ _ h1).mono ?_
          rintro e' σ ⟨rfl,rfl⟩
          simp only[pZ]
          split at h
          ·rename_i hj;cases h;rw[if_pos (beq_eq hj)];exact⟨rfl,rfl⟩
          · rename_i hj
            cases h
            rw[if_neg (fun e=>by rw[e,Nat.beq_refl] at hj;cases hj)]
            exact⟨rfl,rfl⟩
        · rename_i hne
          cases hr:gE E cG N n c S with
          |none=>rw[hr] at h;cases h
          | some p=>
            obtain⟨e1,S1⟩:=p
            rw[hr] at h
            cases h
            refine(ihn c S _ _ hr).mono ?_
            rintro e' σ ⟨rfl,rfl⟩
            cases e' with
            |exit j=>exact absurd hr (hne j _)
            |_=>exact⟨rfl,rfl⟩
      ·cases h;exact eH.exit ⟨rfl,rfl⟩
      ·cases h;exact eH.ret ⟨rfl,rfl⟩
      ·cases h;exact eH.label ⟨rfl,rfl⟩
      · rename_i c
        have h':gE E cG N (n+1) (.loop c) S=some (e,S'):=by unfold gE;exact h
        refine eH.loop (I:=fun k σ=>k≤n+1∧∃S1,σ=den S1∧gE E cG N k (.loop c) S1=some (e,S')) ⟨n+1,Nat.le_refl _,S,rfl,h'⟩ ?_
        rintro k σ ⟨hk,S1,rfl,hk1⟩
        cases k with
        |zero=>cases hk1
        | succ k=>
          rw[Bl] at hk1
          have ihk:=ih k (by omega)
          split at hk1
          · rename_i S2 h2
            refine(ihk c S1 _ _ h2).mono ?_
            rintro e' σ ⟨rfl,rfl⟩
            exact⟨k,Nat.lt_succ_self k,by omega,S2,rfl,hk1⟩
          · rename_i hne
            cases hr:gE E cG N k c S1 with
            |none=>rw[hr] at hk1;cases hk1
            | some p=>
              obtain⟨e1,S2⟩:=p
              rw[hr] at hk1
              cases hk1
              refine(ihk c S1 _ _ hr).mono ?_
              rintro e' σ ⟨rfl,rfl⟩
              cases e' with
              |normal=>exact absurd hr (hne _)
              |_=>exact⟨rfl,rfl⟩
      ·cases h
end
section
variable {P : Program} {E : l9} {N : Nat}
theorem wh:∀ (l:List AV) (k i:Nat),(uf k l).get i=if k≤i then l[i-k]? else none
  |[],k,i=>by simp[uf,Tr.get]
  | x ::r,k,i=>by
    simp only[uf,Tr.sr,wh r (k+1) i]
    by_cases h:i=k
    ·subst h;simp
    · rw[if_neg h]
      by_cases h2:k≤i
      ·rw[if_pos h2,if_pos (by omega),show i-k=(i- (k+1))+1 by omega];rfl
      ·rw[if_neg h2,if_neg (by omega)]
theorem wR:∀ (l:List MS) (k i:Nat),(uA k l).get i=if k≤i then l[i-k]? else none
  |[],k,i=>by simp[uA,Tr.get]
  | x ::r,k,i=>by
    simp only[uA,Tr.sr,wR r (k+1) i]
    by_cases h:i=k
    ·subst h;simp
    · rw[if_neg h]
      by_cases h2:k≤i
      ·rw[if_pos h2,if_pos (by omega),show i-k=(i- (k+1))+1 by omega];rfl
      ·rw[if_neg h2,if_neg (by omega)]
theorem FT (args:List AV)(ins:List MS)(nx:Nat):den ⟨uf 0 args,uA 0 ins,nx⟩=⟨fun i=>args.getD i .any,aH ins⟩:=by
  unfold den
  congr 1
  · funext i
    simp only[jd,wh,Nat.zero_le,if_true,Nat.sub_zero,List.getD_eq_getElem?_getD]
    cases args[i]? <;>rfl
  · funext t
    simp only[mE,wR,Nat.zero_le,if_true,Nat.sub_zero,aH]
    cases ins[t]? <;>rfl
theorem Df (hΓ:E.Γ.Good P){S:ES}:∀ {rvs:List ResultVar} {xs:List AV},IN E.Γ S rvs=some xs→xC P (den S) rvs xs
  |[],xs,h=>by cases h;trivial
  | rv :: rvs, xs,h=>by
    simp only[IN] at h
    split at h
    · rename_i x ys h1 h2
      cases h
      refine⟨?_,Df hΓ h2⟩
      cases rv with
      | tmp t=>
        simp only[Ff,Option.some.injEq] at h1
        exact h1
      | cell a t=>
        simp only[Ff] at h1
        split at h1
        · rename_i tk i k ha
          split at h1
          · rename_i wd rows ro hm
            split at h1
            · rename_i r hr
              rw[eU] at hr
              exact⟨tk,i,k,wd,rows,ro,r,ha,hm,hr,kR hΓ (by rw[←cw,←nn];exact h1)⟩
            ·cases h1
          ·cases h1
        ·cases h1
    ·cases h
theorem yZ {S:ES}{f:Nat→Option Nat}:∀ {ns:List Nat} {outs:List MS},CX S f ns=some outs→outs.length=ns.length∧∀ (k:Nat) (s:MS) (t:Nat),outs[k]? =some s→ns[k]? =some t→
    (∃wd rows,s=.live wd (uT f rows) false∧mE S t=.live wd rows false)∨(s=.dead∧mE S t≠ .free)
  |[],outs,h=>by cases h;exact⟨rfl,by simp⟩
  | t :: r,outs,h=>by
    simp only[CX] at h
    split at h
    ·cases h
    · rename_i l hl
      obtain⟨h1,h2⟩:=yZ hl
      have cons:∀s0,((∃wd rows,s0=.live wd (uT f rows) false∧mE S t=.live wd rows false)∨(s0=.dead∧mE S t≠ .free))→(s0::l).length=(t::r).length∧∀ (k:Nat) (s:MS) (u:Nat),(s0::l)[k]? =some s→(t::r)[k]? =some u→
          (∃wd rows,s=.live wd (uT f rows) false∧mE S u=.live wd rows false)∨(s=.dead∧mE S u≠ .free):=by
        intro s0 h0
        refine⟨by simp[h1],fun k s u hs hu=>?_⟩
        cases k with
        |zero=>simp at hs hu;subst hs;subst hu;exact h0
        |succ k=>exact h2 k s u (by simpa using hs) (by simpa using hu)
      split at h
      ·rename_i wd rows hm;cases h;exact cons _ (.inl ⟨wd,rows,rfl,hm⟩)
      ·rename_i wd rows hm;cases h;exact cons _ (.inr ⟨rfl,by rw[hm];simp⟩)
      ·rename_i hm;cases h;exact cons _ (.inr ⟨rfl,by rw[hm];simp⟩)
      ·cases h
theorem yO:∀ {k i:Nat} {ns:List Nat},Cm k i ns=true→∀j,j<k→ns[j]? =some (i+j)
  |0,_,_,_,j,hj=>by omega
  |k+1,i,[],h,_,_=>by cases h
  | k + 1,i,t::r,h,j,hj=>by
    simp only[Cm] at h
    split at h
    · rename_i hb
      have:=beq_eq hb
      subst this
      cases j with
      |zero=>rfl
      | succ j=>
        have:=yO h j (by omega)
        rw[show t+ (j+1)=t+1+j by omega]
        exact this
    ·cases h
theorem IW (hΓ:E.Γ.Good P){S:ES}{nL:Nat}{fn:Func}{outs:List MS}{res:AV}(h:G5 E.Γ nL fn.results.toList S=some (outs,res)){w0:World}{W0:Nat→Prop}{L μ:Mu}{a:Act}{w:World}(hL:∀t,nL≤t→t<iY→L t=none)(hs:ck P N w0 W0 L μ (den S) a w):
    ∃v,(results fn a.tmps).run P w=.ok v w∧∃μ',ck P 0 w0 W0 L μ' (bare outs) gi w∧ct (Wr W0 μ' (aH outs)) μ' w res v:=by
  unfold G5 at h
  split at h
  ·cases h
  · rename_i xs hxs
    generalize qz 1000 S 0 (KJ S (rX xs) (List.range nL))=ns at h
    simp only at h
    split at h
    · rename_i outs' g1 g2 g3
      cases h
      have hres:=(Df hΓ hxs).get
      obtain⟨v,v1,v2⟩:=mJ hs hres.1 hres.2
      refine⟨v,v1,?_⟩
      obtain⟨o1,o2⟩:=yZ g1
      have hnd:=kE g2
      have hhd:∀j,j<nL→ns[j]? =some j:=fun j hj=>by have:=yO g3 j hj;simpa using this
      have hlive:∀t,aH outs t≠ .free→∃u,ns[t]? =some u:=fun t ht=>by
        unfold aH at ht
        cases ho:outs[t]? with
        |none=>rw[ho] at ht;exact absurd rfl ht
        | some s=>
          have:t<ns.length:=by rw[←o1];exact(bg ho).1
          exact⟨_,bz this⟩
      have hget:∀t u,ns[t]? =some u→ns.getD t 0=u:=fun t u h=>by rw[List.getD_eq_getElem?_getD,h];rfl
      have hnf:∀t u,ns[t]? =some u→aH outs t≠ .free:=fun t u hu=>by
        have hlt:t<outs.length:=by rw[o1];exact(bg hu).1
        unfold aH
        rw[bz hlt]
        rcases o2 t _ u (bz hlt) hu with⟨wd,rows,e,_⟩|⟨e,_⟩
        ·rw[e];simp
        ·rw[e];simp
      have hf:∀t u,og ns 0 t=some u→aH outs u≠ .free∧ns.getD u 0=t:=fun t u hu=>by
        obtain⟨_,h2⟩:=uG hu
        rw[Nat.sub_zero] at h2
        exact⟨hnf u t h2,hget u t h2⟩
      have hw :lE nL (fun t=>ns.getD t 0) (fun _=>False) (bare outs) (den S):=by
        refine⟨fun i=>.any,fun t=>?_,fun t t' wd rows wd' rows' ro' g1 g2 he=>?_,fun s h=>h.elim,fun t ht hne=>?_⟩
        · by_cases hfr:aH outs t=.free
          ·exact .inl hfr
          · right
            obtain⟨u,hu⟩:=hlive t hfr
            have hlt:t<outs.length:=by rw[o1];exact(bg hu).1
            have hmem:(bare outs).mem t=outs[t]:=by show aH outs t=_;unfold aH;rw[bz hlt];rfl
            have hden:(den S).mem (ns.getD t 0)=mE S u:=by rw[hget t u hu];rfl
            rcases o2 t _ u (bz hlt) hu with⟨wd,rows,e1,e2⟩|⟨e1,e2⟩
            · right
              refine⟨wd,uT (og ns 0) rows,rows,false,false,by rw[hmem];exact e1,by rw[hden];exact e2,id,?_,lO hf rows⟩
              obtain⟨B,_,hB⟩:=hs.objs u wd rows false e2
              exact tY hB.wide
            · left
              exact⟨by rw[hmem];exact e1,by rw[hden];exact e2⟩
        · obtain⟨u,hu⟩:=hlive t (fun e=>by rw[show aH outs t=.live wd rows false from g1] at e;cases e)
          obtain⟨u',hu'⟩:=hlive t' (fun e=>by rw[show aH outs t'=.live wd' rows' ro' from g2] at e;cases e)
          have he':u=u':=by
            have h3:=hget t u hu
            have h4:=hget t' u' hu'
            rw[←h3,←h4]
            exact he
          subst he'
          have e1:=rC hnd hu
          have e2:=rC hnd hu'
          rw[←e1,e2]
        · have h1:=hhd t ht
          exact⟨hget t t h1,hnf t t h1⟩
      obtain⟨μ',hs',hrep⟩:=hw.Gc hL hs (N':=0) (a':=gi) (.inr ⟨fun _=>rfl,rfl,rfl⟩)
      exact⟨μ',hs',hrep _ _ _ (AU hf _) v2⟩
    ·cases h
theorem xF (hE :E.Good P)(fuel:Nat):∀n,ji P (Az E fuel n)
  |0=>fun g ins args outs res h=>by cases h
  | n + 1 => fun g ins args outs res h=>by
    unfold Az at h
    split at h
    · rename_i r ho
      cases h
      exact hE.orc _ _ _ _ _ ho
    · split at h
      ·cases h
      · rename_i fn hfn
        obtain⟨hf,hc⟩:=hE.fns _ (C4 hfn)
        refine⟨?_,hc⟩
        split at h
        · rename_i c hb hlen0
          have hlen:=cr hlen0
          have run : ∀e S,gE E (Az E fuel n) fn.ntmps fuel c ⟨uf 0 args,uA 0 ins,ins.length⟩=some (e,S)→(e=.normal∨e=.ret)→G5 E.Γ ins.length fn.results.toList S=some (outs,res)→an P g ins args outs res:=by
            intro e S hcode he hend
            intro w W0 L vs hL hs hr
            have h1:=GJ (nL:=ins.length) hE (xF hE fuel n) _ _ _ _ _ hcode
            rw[FT] at h1
            have hsim:ck P fn.ntmps w W0 L L ⟨fun i=>args.getD i .any,aH ins⟩ {tmps:=vs.toArray++Array.replicate (fn.ntmps-vs.toArray.size) undef,defers:=[]} w:=by
              refine⟨?_,.nil,hs.os,hs.tape,hs.output,hs.hsize,hs.shp,hs.keep,hs.w0lt,hs.lentμ,hs.free,fun i=>?_,hs.objs,hs.inj,hs.out,hs.tabs⟩
              ·simp[hr.1];omega
              · by_cases hi:i<args.length
                · have h1:args[i]? =some args[i]:=bz hi
                  have h2:vs[i]? =some (vs[i]'(by rw[hr.1];exact hi)):=bz _
                  have:=hr.2 i _ _ h1 h2
                  have hv:(vs.toArray++Array.replicate (fn.ntmps-vs.toArray.size) undef).getD i undef=vs[i]'(by rw[hr.1];exact hi):=by
                    rw[Array.getD_eq_getD_getElem?,Array.getElem?_append_left (by simp;rw[hr.1];exact hi)]
                    simp[h2]
                  simp only[hv,List.getD_eq_getElem?_getD,h1,Option.getD_some]
                  exact this
                · simp only[List.getD_eq_getElem?_getD,ni (Nat.le_of_not_lt hi),Option.getD_none]
                  exact .any
            refine lz hf hb h1 (fun t ht=>hL t (by omega)) hsim (fun e' σ' ⟨he',_⟩=>he'▸he) ?_
            rintro e' σ' μ' a' w' ⟨rfl,rfl⟩ hs' hd
            obtain⟨v,v1,μ'',h3,h4⟩:=IW hE.Γ hend (fun t ht _=>hL t ht) hs'
            exact⟨v,v1,v,μ'',rfl,h3,h4⟩
          split at h
          ·rename_i S hcode;exact run _ _ hcode (.inl rfl) h
          ·rename_i S hcode;exact run _ _ hcode (.inr rfl) h
          ·cases h
        ·cases h
theorem an.run (hE:E.Good P)(fuel n:Nat){g:FuncId}{ins outs:List MS}{args:List AV}{res:AV}(h:Az E fuel n g ins args=some (outs,res)):an P g ins args outs res:=(xF hE fuel n _ _ _ _ _ h).1
end
end Go.Am
namespace Go.Am
open Go
def Ek:List Nat→List Nat→Bool
  |[],[]=>true
  | x::xs,y::ys=>match Nat.beq x y with
    |true=>Ek xs ys
    |false=>false
  |_,_=>false
theorem sF:∀ {a b:List Nat},Ek a b=true→a=b
  |[],[],_=>rfl
  | x::xs,y::ys,h=>by
    simp only[Ek] at h
    split at h
    ·rename_i hb;rw[Nat.eq_of_beq_eq_true hb,sF h]
    ·cases h
  |[],_::_,h=>by cases h
  |_::_,[],h=>by cases h
def NS:Value→Value→Bool
  | .bool a,.bool b=>match a,b with
    |true,true=>true
    |false,false=>true
    |_,_=>false
  | .int k a,.int l b=>match decide (k=l) with
    |true=>decide (a=b)
    |false=>false
  |.string a,.string b=>Ek (a.data.toList.map UInt8.toNat) (b.data.toList.map UInt8.toNat)
  |.pointer none,.pointer none=>true
  | .slice none a b,.slice none c d=>match Nat.beq a c with
    |true=>Nat.beq b d
    |false=>false
  |.map none,.map none=>true
  |.nilFunc,.nilFunc=>true
  |.nilIface,.nilIface=>true
  |_,_=>false
theorem K5:∀ {a b:Value},NS a b=true→a=b:=by
  intro a b h
  unfold NS at h
  split at h
  ·rename_i a b;cases a<;>cases b<;>first|rfl|cases h
  · split at h
    ·rename_i hk;rw[of_decide_eq_true hk,of_decide_eq_true h]
    ·cases h
  · rename_i a b
    have h1:=sF h
    have h2:a.data.toList=b.data.toList:=List.map_inj_right (fun x y=>UInt8.toNat_inj.1)|>.1 h1
    have h3:a.data=b.data:=Array.ext' h2
    cases a;cases b;simp only at h3;rw[h3]
  ·rfl
  · split at h
    ·rename_i hk;rw[Nat.eq_of_beq_eq_true hk,Nat.eq_of_beq_eq_true h]
    ·cases h
  ·rfl
  ·rfl
  ·rfl
  ·cases h
mutual
def AM:AV→AV→Bool
  | .lit a,y=>match y with
    |.lit b=>NS a b
    |_=>false
  | .ptr a b c,y=>match y with
    |.ptr d e f=>Ek [a,b,c] [d,e,f]
    |_=>false
  | .own a b c,y=>match y with
    |.own d e f=>Ek [a,b,c] [d,e,f]
    |_=>false
  | .mapr a,y=>match y with
    |.mapr b=>Nat.beq a b
    |_=>false
  | .agg a,y=>match y with
    |.agg b=>yj a b
    |_=>false
  | .tup a,y=>match y with
    |.tup b=>yj a b
    |_=>false
  |_,_=>false
def yj:List AV→List AV→Bool
  | [],y=>match y with
    |[]=>true
    |_=>false
  | x ::xs,y=>match y with
    | y::ys=>match AM x y with
      |true=>yj xs ys
      |false=>false
    |_=>false
end
mutual
theorem Lx:∀ (a b:AV),AM a b=true→a=b
  | .lit a,b,h=>by
    unfold AM at h
    split at h
    ·rw[K5 h]
    ·cases h
  | .ptr a b c,y,h=>by
    unfold AM at h
    split at h
    ·have:=sF h;simp at this;rw[this.1,this.2.1,this.2.2]
    ·cases h
  | .own a b c,y,h=>by
    unfold AM at h
    split at h
    ·have:=sF h;simp at this;rw[this.1,this.2.1,this.2.2]
    ·cases h
  | .mapr a,y,h=>by
    unfold AM at h
    split at h
    ·rw[Nat.eq_of_beq_eq_true h]
    ·cases h
  | .agg a,y,h=>by
    unfold AM at h
    split at h
    ·rw[nQ _ _ h]
    ·cases h
  | .tup a,y,h=>by
    unfold AM at h
    split at h
    ·rw[nQ _ _ h]
    ·cases h
  |.any,_,h=>by simp[AM] at h
  |.emp,_,h=>by simp[AM] at h
  |.guess _ _,_,h=>by simp[AM] at h
  |.sl _ _,_,h=>by simp[AM] at h
  |.fptr _ _,_,h=>by simp[AM] at h
  |.clo _ _ _,_,h=>by simp[AM] at h
  |.fmap _,_,h=>by simp[AM] at h
theorem nQ:∀ (a b:List AV),yj a b=true→a=b
  | [],y,h=>by
    unfold yj at h
    split at h
    ·rfl
    ·cases h
  | x ::xs,y,h=>by
    unfold yj at h
    split at h
    · split at h
      ·rename_i hx;rw[Lx _ _ hx,nQ _ _ h]
      ·cases h
    ·cases h
end
def Nh:MS→MS→Bool
  |.free,.free=>true
  |.dead,.dead=>true
  | .live a r x,.live b s y=>match Nat.beq a b with
    | true=>match x,y with
      |true,true=>yj r s
      |false,false=>yj r s
      |_,_=>false
    |false=>false
  |_,_=>false
theorem LB {a b:MS}(h:Nh a b=true):a=b:=by
  unfold Nh at h
  split at h
  ·rfl
  ·rfl
  · split at h
    · rename_i hb
      have:=Nat.eq_of_beq_eq_true hb
      split at h
      ·rw[this,nQ _ _ h]
      ·rw[this,nQ _ _ h]
      ·cases h
    ·cases h
  ·cases h
def Ia:List MS→List MS→Bool
  |[],[]=>true
  | x::xs,y::ys=>match Nh x y with
    |true=>Ia xs ys
    |false=>false
  |_,_=>false
theorem Ca:∀ {a b:List MS},Ia a b=true→a=b
  |[],[],_=>rfl
  | x::xs,y::ys,h=>by
    simp only[Ia] at h
    split at h
    ·rename_i hb;rw[LB hb,Ca h]
    ·cases h
  |[],_::_,h=>by cases h
  |_::_,[],h=>by cases h
structure yu where
  g:FuncId
  ins:List MS
  args:List AV
  outs:List MS
  res:AV
def EA (orc:jM):List yu→jM
  |[]=>orc
  | r :: rest=>fun g ins args=>match Nat.beq r.g g with
    | true=>match Ia r.ins ins with
      | true=>match yj r.args args with
        |true=>some (r.outs,r.res)
        |false=>EA orc rest g ins args
      |false=>EA orc rest g ins args
    |false=>EA orc rest g ins args
def yu.OK (P:Program)(r:yu):Prop:=an P r.g r.ins r.args r.outs r.res∧ak P r.g
theorem Cj {P:Program}{orc:jM}(ho:ji P orc):∀ {l:List yu},(∀r∈l,r.OK P)→ji P (EA orc l)
  |[],_=>ho
  | r :: rest,h=>by
    intro g ins args outs res hq
    have ih:=Cj ho (l:=rest) (fun x hx=>h x (c7 _ hx))
    simp only[EA] at hq
    split at hq
    · rename_i h1
      split at hq
      · rename_i h2
        split at hq
        · rename_i h3
          cases hq
          have h0:=h r (dJ ..)
          unfold yu.OK at h0
          rw[Nat.eq_of_beq_eq_true h1,Ca h2,nQ _ _ h3] at h0
          exact h0
        ·exact ih _ _ _ _ _ hq
      ·exact ih _ _ _ _ _ hq
    ·exact ih _ _ _ _ _ hq
def l9.more (E:l9)(l:List yu):l9:=⟨E.Γ,E.Δ,E.fns,E.kinds,EA E.orc l,E.ifs⟩
theorem l9.Dl {P:Program}{E:l9}(hE:E.Good P){l:List yu}(h:∀r∈l,r.OK P):(E.more l).Good P:=⟨hE.Γ,hE.Δ,hE.fns,hE.kinds,Cj (fun _ _ _ _ _ h=>hE.orc _ _ _ _ _ h) h,hE.orders,hE.ifs⟩
theorem yu.of {P:Program}{E:l9}(hE:E.Good P){fuel n:Nat}{r:yu}(h:Az E fuel n r.g r.ins r.args=some (r.outs,r.res)):r.OK P:=xF hE fuel n _ _ _ _ _ h
theorem yu.cons {P:Program}{r:yu}{l:List yu}(h:r.OK P)(hl:∀r∈l,r.OK P):∀x∈r::l,x.OK P:=List.forall_mem_cons.2 ⟨h,hl⟩
end Go.Am
