/- Walks of functions by unfolding over abstract states; runs of functions by an evaluator that is proved. By an AI agent. -/
import Derived.Test.YtkhjcnjicjgfiaaGreatDoorWD17
set_option linter.unusedSimpArgs false
set_option linter.unusedVariables false
namespace Go.Am
open Go Go.RowKit Go.Lib MapKept
structure l9 where
  Γ:bL
  Δ:tw
  fns:List (Nat×Func)
  kinds:List (Nat×IntKind)
  orc:j2
  ifs:List Nat
def NP:List (Nat×Func)→Nat→Option Func
  |[],_=>none
  | (k,f)::r,g=>match Nat.beq g k with
    |true=>some f
    |false=>NP r g
def MA:List (Nat×IntKind)→Nat→Option IntKind
  |[],_=>none
  | (k,f)::r,g=>match Nat.beq g k with
    |true=>some f
    |false=>MA r g
structure l9.Good (P:Program) (E:l9):Prop where
  Γ:E.Γ.Good P
  Δ:E.Δ.Good P
  fns:∀p∈E.fns,P.funcs[p.1]? =some p.2∧af P p.1
  kinds:∀p∈E.kinds,P.underlying p.1=some (.int p.2)
  orc:∀g ins args outs res,E.orc g ins args=some (outs,res)→an P g ins args outs res∧af P g
  orders:P.follows .mixedOrders=true
  ifs:∀t∈E.ifs,∃ms,P.underlying t=some (.interface ms)
theorem Ct:∀ {l:List (Nat×Func)} {g:Nat} {f:Func},NP l g=some f→(g,f)∈l
  |[],_,_,h=>by cases h
  | (k,f0)::r,g,f,h=>by
    simp only[NP] at h
    split at h
    ·rename_i hb;cases h;rw[beq_eq hb];exact jC ..
    ·exact gy _ (Ct h)
theorem xo:∀ {l:List (Nat×IntKind)} {g:Nat} {f:IntKind},MA l g=some f→(g,f)∈l
  |[],_,_,h=>by cases h
  | (k,f0)::r,g,f,h=>by
    simp only[MA] at h
    split at h
    ·rename_i hb;cases h;rw[beq_eq hb];exact jC ..
    ·exact gy _ (xo h)
def Gh (E:l9)(S:ES)(src dst:TypeId)(y:Operand):Option ER:=
  match MA E.kinds src,MA E.kinds dst,jd S y with
  | some _,some k',.lit (.int _ n)=>match decide (k'.wrap n=n) with
    |true=>some ([],.lit (.int k' n),[],S.nx)
    |false=>none
  |_,_,_=>none
def Jv:List Nat→Nat→Bool
  |[],_=>false
  | x::r,t=>match Nat.beq x t with
    |true=>true
    |false=>Jv r t
theorem Cb:∀ {l:List Nat} {t:Nat},Jv l t=true→t∈l
  |[],_,h=>by cases h
  | x::r,t,h=>by
    simp only[Jv] at h
    split at h
    ·rename_i hb;rw[Nat.eq_of_beq_eq_true hb];exact jC ..
    ·exact gy _ (Cb h)
def M4:Operand→Bool
  |.const .nilIface=>true
  |_=>false
def AO:Value→Bool
  |.nilIface=>true
  |_=>false
def Ln (ifs:List Nat)(S:ES)(op:BinOp)(t:TypeId)(y z:Operand):Option ER:=
  match Jv ifs t,jd S y,M4 z with
  | true,.lit v,true=>match AO v,op with
    |true,.eql=>some ([],.lit (.bool true),[],S.nx)
    |true,.neq=>some ([],.lit (.bool false),[],S.nx)
    |_,_=>none
  |_,_,_=>none
def zh (E:l9)(cu:j2)(S:ES)(o:Oper):Option ER:=
  match o.op with
  |.indexAddr t y z=>K8 E.Γ S t y z
  |.slice t y lo hi mx=>Je E.Γ S t y lo hi mx
  |.buildSlice t len parts=>KU E.Γ S t len parts.toList
  |.alloc t=>BN E.Γ S t
  |.box _ y=>LJ S y
  | .makeMap _ hint=>match hint with
    |none=>Bf S
    |some _=>none
  |.lookup t y x c=>GS E.Δ S t y x c
  |.mapUpdate t y x v=>xX E.Δ S t y x v
  |.index t y z=>Ft E.Γ S t y z
  |.convert src dst y=>Gh E S src dst y
  | .binOp op t y z _=>match Ln E.ifs S op t y z with
    |some q=>some q
    |none=>Mp E.Γ S o op t y z
  | .call c=>match c.callee with
    | .value f=>match f with
      |.func g=>zX cu S g (c.args.toList.map (jd S))
      | f =>match jd S f with
        |.clo (.func g) first cap=>zX cu S g (first++c.args.toList.map (jd S)++cap)
        | .lit (.func (.func g) a b)=>match a.toList,b.toList with
          |[],[]=>zX cu S g (c.args.toList.map (jd S))
          |_,_=>none
        |_=>none
    | .builtin .append=>match c.args.toList,c.argTypes.toList with
      |[y,z],[t,t2]=>K3 E.Γ S y z t t2
      |_,_=>none
    | .builtin .len=>match c.args.toList,c.argTypes.toList with
      | [y],[t]=>match Fe E.Δ S t y with
        |some q=>some q
        |none=>kD E.Γ S o
      |_,_=>none
    |_=>kD E.Γ S o
  |_=>kD E.Γ S o
def zO (E : l9)(cu:j2)(N:Nat)(ds:List (Option Nat)):List Oper→Tk→ES→Option (Tk×ES)
  |[],acc,S=>some (acc,S)
  | o :: rest, acc,S=>match jS N o.dst with
    |false=>none
    | true => match o.guard with
      | none=>match zh E cu S o with
        |some (rd,x,ups,nx)=>zO E cu N ds rest (acc++ [(rd,ups.map Prod.fst)]) (oC S o.dst x ups nx)
        |none=>none
      | some (j,b)=>match gh ds j with
        | some (some d)=>match Nat.ble (d+1) N,jd S (.tmp d) with
          | true,.lit v=>match gv v b with
            | true=>match zh E cu S o with
              |some (rd,x,ups,nx)=>zO E cu N ds rest (acc++ [(rd,ups.map Prod.fst)]) (oC S o.dst x ups nx)
              |none=>none
            |false=>zO E cu N ds rest (acc++ [([],[])]) (oC S o.dst (.lit undef) [] S.nx)
          |_,_=>none
        |_=>none
def gE (E:l9)(cu:j2)(N:Nat):Nat→Code→ES→Option (Exit×ES)
  |0,_,_=>none
  | n + 1, c,S=>match c with
    |.skip=>some (.normal,S)
    | .region _ ops dr=>match zO E cu N (ops.toList.map Oper.dst) ops.toList [] S with
      | some (acc,S')=>match dr with
        |false=>some (.normal,S')
        | true=>match Region.lexB .any ops,ij ops acc with
          |true,true=>some (.normal,S')
          |_,_=>none
      |none=>none
    | .seq a b=>match gE E cu N n a S with
      |some (.normal,S')=>gE E cu N n b S'
      |r=>r
    | .cond x a b=>match jd S x with
      |.lit (.bool true)=>gE E cu N n a S
      |.lit (.bool false)=>gE E cu N n b S
      |_=>none
    | .block id c=>match gE E cu N n c S with
      | some (.exit j,S')=>match Nat.beq j id with
        |true=>some (.normal,S')
        |false=>some (.exit j,S')
      |r=>r
    |.exit i=>some (.exit i,S)
    |.ret=>some (.ret,S)
    |.label _=>some (.normal,S)
    | .loop c=>match gE E cu N n c S with
      |some (.normal,S')=>gE E cu N n (.loop c) S'
      |r=>r
    |_=>none
theorem A8 (E:l9)(cu:j2)(N n:Nat)(c:Code)(S:ES):gE E cu N (n+1) (.loop c) S=match gE E cu N n c S with
      |some (.normal,S')=>gE E cu N n (.loop c) S'
      |r=>r:=rfl
def Hp (Γ:bL)(S:ES):ResultVar→Option AV
  |.tmp t=>some (jd S (.tmp t))
  | .cell a t=>match jd S (.tmp a) with
    | .ptr tk i k=>match mE S tk with
      | .live _ rows _=>match gh rows i with
        |some r=>pV (kH Γ t) r k
        |none=>none
      |_=>none
    |_=>none
def IJ (Γ:bL)(S:ES):List ResultVar→Option (List AV)
  |[]=>some []
  | rv::r=>match Hp Γ S rv,IJ Γ S r with
    |some x,some xs=>some (x::xs)
    |_,_=>none
def Co (S:ES)(f:Nat→Option Nat):List Nat→Option (List MS)
  |[]=>some []
  | t ::r=>match Co S f r with
    |none=>none
    | some l=>match mE S t with
      |.live wd rows false=>some (.live wd (uU f rows) false::l)
      |.live _ _ true=>some (.dead::l)
      |.dead=>some (.dead::l)
      |.free=>none
def CO:Nat→Nat→List Nat→Bool
  |0,_,_=>true
  | k+1,i,t::r=>match Nat.beq t i with
    |true=>CO k (i+1) r
    |false=>false
  |_+1,_,[]=>false
def GC (Γ:bL)(nL:Nat)(rvs:List ResultVar)(S:ES):Option (List MS×AV):=
  match IJ Γ S rvs with
  |none=>none
  | some xs=>match qI 1000 S 0 (Lb S (rJ xs) (List.range nL)) with
    | ns=>match Co S (oh ns 0) ns,oO ns,CO nL 0 ns with
      |some outs,true,true=>some (outs,AY (oh ns 0) (rJ xs))
      |_,_,_=>none
def s7:Nat→List AV→Tr AV
  |_,[]=>.nil
  |k,x::r=>(s7 (k+1) r).put k x
def sL:Nat→List MS→Tr MS
  |_,[]=>.nil
  |k,x::r=>(sL (k+1) r).put k x
def yz (E:l9)(fuel:Nat):Nat→j2
  |0=>fun _ _ _=>none
  | n + 1 =>fun g ins args=>match E.orc g ins args with
    |some r=>some r
    | none =>match NP E.fns g with
      |none=>none
      | some fn=>match fn.body,Nat.ble args.length fn.ntmps with
        | some c,true=>match gE E (yz E fuel n) fn.ntmps fuel c ⟨s7 0 args,sL 0 ins,ins.length⟩ with
          |some (.normal,S)=>GC E.Γ ins.length fn.results.toList S
          |some (.ret,S)=>GC E.Γ ins.length fn.results.toList S
          |_=>none
        |_,_=>none
section
variable {P : Program} {E : l9} {cu : j2} {N : Nat}
def jv (P:Program)(cu:j2):Prop:=∀g ins args outs res,cu g ins args=some (outs,res)→an P g ins args outs res∧af P g
theorem Fs {o:Oper}{S:ES}{q:ER}(hE:E.Good P)(hd:cB N o.dst=true){src dst:TypeId}{y:Operand}(ho:o.op=.convert src dst y)(h:Gh E S src dst y=some q):jT P N o S q:=by
  unfold Gh at h
  split at h
  · rename_i k0 k' k n h1 h2 hy
    split at h
    · rename_i hn
      cases h
      have hn':=of_decide_eq_true hn
      have hs:=hE.kinds _ (xo h1)
      have hdd:=hE.kinds _ (xo h2)
      refine az.C7 (P:=P) (N:=N) (σ:=den S) ho (by rw[bG];exact hy) (fun w=>?_) (aG hd)
      have hk:P.intKind dst=k':=by simp[Program.intKind,hdd]
      have:=run_convert_int (P:=P) w src dst k n (by rw[hs];rfl) (by rw[hk];exact hdd)
      rw[hk,hn'] at this
      exact this
    ·cases h
  ·cases h
theorem Is {o:Oper}{S:ES}{q:ER}(hE:E.Good P)(hd:cB N o.dst=true){op:BinOp}{t yt:TypeId}{y z:Operand}(ho:o.op=.binOp op t y z yt)(h:Ln E.ifs S op t y z=some q):jT P N o S q:=by
  unfold Ln at h
  split at h
  · rename_i v hm hy hz
    obtain⟨ms,hi⟩:=hE.ifs t (Cb hm)
    have hz':z=.const .nilIface:=by
      unfold M4 at hz
      split at hz
      ·rfl
      ·cases hz
    subst hz'
    have heq:∀ (d:Nat) w,(Op.equalIn (d+1) t .nilIface .nilIface).run P w=.ok true w:=fun d w=>by simp[Op.equalIn,run_underlying hi]
    have hb:∀op' r,op'=BinOp.eql∧r=true∨op'=BinOp.neq∧r=false→∀w,((do eqGuard op' t y (.const .nilIface) .nilIface .nilIface;binOp op' t .nilIface .nilIface:Sem Value)).run P w=.ok (.bool r) w:=by
      rintro op' r (⟨rfl,rfl⟩|⟨rfl,rfl⟩) w<;>simp only[eqGuard,binOp]<;>simp[Op.equal,Op.maxDepth,heq 9999]
    split at h
    · rename_i hv
      have hv':v=.nilIface:=by
        unfold AO at hv
        split at hv
        ·rfl
        ·cases hv
      subst hv'
      cases h
      exact az.binOp (P:=P) (N:=N) (σ:=den S) ho (by rw[bG];exact hy) rfl (hb _ _ (.inl ⟨rfl,rfl⟩)) (aG hd)
    · rename_i hv
      have hv':v=.nilIface:=by
        unfold AO at hv
        split at hv
        ·rfl
        ·cases hv
      subst hv'
      cases h
      exact az.binOp (P:=P) (N:=N) (σ:=den S) ho (by rw[bG];exact hy) rfl (hb _ _ (.inr ⟨rfl,rfl⟩)) (aG hd)
    ·cases h
  ·cases h
theorem sF (S:ES)(args:Array Operand):args.toList.map (den S).eval=args.toList.map (jd S):=by
  apply List.map_congr_left;intro y _;exact bG S y
theorem GB {o:Oper}{S:ES}{q:ER}(hE:E.Good P)(hF:jv P cu)(hd:cB N o.dst=true)(h:zh E cu S o=some q):jT P N o S q:=by
  unfold zh at h
  split at h
  ·rename_i ho;exact IU hE.Γ hd ho h
  ·rename_i ho;exact JM hE.Γ hd ho h
  ·rename_i ho;exact Iv hE.Γ hd ho h
  ·rename_i ho;exact EE hE.Γ hd ho h
  ·rename_i ho;exact Ji hd ho h
  · rename_i ho
    split at h
    ·exact EI hd ho h
    ·cases h
  ·rename_i ho;exact Fb hE.Δ hd ho h
  ·rename_i ho;exact AT hE.Δ hd ho h
  ·rename_i ho;exact Gk hE.Γ hd ho h
  ·rename_i ho;exact Fs hE hd ho h
  · rename_i ho
    split at h
    ·rename_i hn;cases h;exact Is hE hd ho hn
    ·exact Ie hE.Γ hd ho h
  · rename_i c ho
    obtain⟨callee,args,types⟩:=c
    simp only at h
    split at h
    · split at h
      · rw[←sF] at h
        exact uj hF hd (.func ho rfl) h
      · split at h
        · rename_i f hne g first cap hy
          rw[←sF] at h
          exact uj hF hd (.clo ho (by rw[bG];exact hy)) h
        · rename_i f hne g a b hy
          split at h
          · rename_i ha hb
            obtain rfl:a= #[]:=Array.ext' ha
            obtain rfl:b= #[]:=Array.ext' hb
            rw[←sF] at h
            exact uj hF hd (.func ho (by rw[bG];exact hy)) h
          ·cases h
        ·cases h
    · split at h
      · rename_i y z t t2 ea et
        obtain rfl:args= #[y,z]:=Array.ext' ea
        obtain rfl:types= #[t,t2]:=Array.ext' et
        exact JA hE.Γ hd ho h
      ·cases h
    · split at h
      · rename_i y t ea et
        obtain rfl:args= #[y]:=Array.ext' ea
        obtain rfl:types= #[t]:=Array.ext' et
        split at h
        · rename_i q' hq
          cases h
          exact F9 hE.Δ hd ho hq
        ·exact gD hE.Γ hd h
      ·cases h
    ·exact gD hE.Γ hd h
  ·exact gD hE.Γ hd h
theorem w6 (hE:E.Good P)(hF:jv P cu){ops:Array Oper}:∀ (l:List Oper) (acc:Tk) (S:ES) (acc':Tk) (S':ES),zO E cu N (ops.toList.map Oper.dst) l acc S=some (acc',S')→fW P N ops l (den S) (fun es σ'=>σ'=den S'∧acc'=acc++es.map iN.toks)
  | [],acc,S,acc',S',h=>by
    cases h
    exact⟨rfl,by simp⟩
  | o :: rest, acc,S,acc',S',h=>by
    unfold zO at h
    split at h
    ·cases h
    · rename_i hd0
      have hd:=ye hd0
      have go:fu N ops o (den S) true→∀ {q:ER},zh E cu S o=some q→zO E cu N (ops.toList.map Oper.dst) rest (acc++ [(q.1,q.2.2.1.map Prod.fst)]) (oC S o.dst q.2.1 q.2.2.1 q.2.2.2)=some (acc',S')→
          fW P N ops (o::rest) (den S) (fun es σ'=>σ'=den S'∧acc'=acc++es.map iN.toks):=by
        intro hw q hq hr
        refine⟨⟨o,true,den S,q.1,q.2.1,q.2.2.1⟩,rfl,rfl,⟨hw,aG hd,fun _=>GB hE hF hd hq,fun h=>by cases h⟩,?_⟩
        have:=w6 hE hF rest _ _ _ _ hr
        rw[vQ] at this
        refine fW.post ?_ this
        rintro es σ' ⟨h1,h2⟩
        exact⟨h1,by rw[h2];simp[iN.toks]⟩
      have skip:fu N ops o (den S) false→zO E cu N (ops.toList.map Oper.dst) rest (acc++ [([],[])]) (oC S o.dst (.lit undef) [] S.nx)=some (acc',S')→
          fW P N ops (o::rest) (den S) (fun es σ'=>σ'=den S'∧acc'=acc++es.map iN.toks):=by
        intro hw hr
        refine⟨⟨o,false,den S,[],.lit undef,[]⟩,rfl,rfl,⟨hw,aG hd,(fun h=>by cases h),fun _=>⟨rfl,rfl⟩⟩,?_⟩
        have:=w6 hE hF rest _ _ _ _ hr
        rw[vQ] at this
        refine fW.post ?_ this
        rintro es σ' ⟨h1,h2⟩
        exact⟨h1,by rw[h2];simp[iN.toks]⟩
      split at h
      · rename_i hg
        split at h
        · rename_i rd x ups nx hq
          exact go (by simp[fu,hg]) hq h
        ·cases h
      · rename_i j b hg
        split at h
        · rename_i d hj
          rw[eN,dM] at hj
          have hj':(ops[j]?).bind (·.dst)=some d:=by
            rw[←Array.getElem?_toList]
            cases ho:ops.toList[j]? with
            |none=>rw[ho] at hj;cases hj
            |some o'=>rw[ho] at hj;simpa using hj
          split at h
          · rename_i v hN hv
            have hw:fu N ops o (den S) (gv v b):=by
              simp only[fu,hg]
              exact⟨d,v,hj',bT hN,hv,rfl⟩
            split at h
            · rename_i hb
              rw[hb] at hw
              split at h
              · rename_i rd x ups nx hq
                exact go hw hq h
              ·cases h
            · rename_i hb
              rw[hb] at hw
              exact skip hw h
          ·cases h
        ·cases h
def Pt (e:Exit)(S:ES):Exit→au→Prop:=fun e' σ=>e'=e∧σ=den S
theorem E4 (hE:E.Good P)(hF:jv P cu){nL:Nat}:∀ (n:Nat) (c:Code) (S:ES) (e:Exit) (S':ES),gE E cu N n c S=some (e,S')→ek P N nL c (Pt e S') (den S):=by
  intro n
  induction n using Nat.strongRecOn with
  | _ n ih =>
    intro c S e S' h
    cases n with
    |zero=>cases h
    | succ n =>
      have ihn:=ih n (Nat.lt_succ_self n)
      unfold gE at h
      split at h
      ·cases h;exact ek.skip ⟨rfl,rfl⟩
      · rename_i id ops dr
        split at h
        · rename_i acc S1 hops
          have h1:=w6 hE hF (ops:=ops) ops.toList [] S acc S1 hops
          obtain⟨l⟩:=ops
          split at h
          · cases h
            refine ek.region (fW.post ?_ h1)
            rintro es σ' ⟨h2,_⟩
            exact⟨rfl,h2⟩
          · split at h
            · rename_i g1 g2
              cases h
              refine ek.xz hE.orders g1 (fW.post ?_ h1)
              rintro es σ' ⟨h2,h3⟩
              refine⟨?_,rfl,h2⟩
              simp only[List.nil_append] at h3
              rw[←h3];exact g2
            ·cases h
        ·cases h
      · rename_i a b
        refine ek.seq ?_
        split at h
        · rename_i S1 h1
          refine(ihn a S _ _ h1).mono ?_
          rintro e' σ ⟨rfl,rfl⟩
          exact ihn b S1 _ _ h
        · rename_i hne
          cases hr:gE E cu N n a S with
          |none=>rw[hr] at h;cases h
          | some p=>
            obtain⟨e1,S1⟩:=p
            rw[hr] at h
            cases h
            refine(ihn a S _ _ hr).mono ?_
            rintro e' σ ⟨rfl,rfl⟩
            cases e' with
            |normal=>exact absurd hr (hne _)
            |_=>exact⟨rfl,rfl⟩
      · rename_i x a b
        split at h
        · rename_i hx
          exact ek.cond (by rw[bG];exact hx) (fun _=>ihn a S _ _ h) (fun hb=>by cases hb)
        · rename_i hx
          exact ek.cond (by rw[bG];exact hx) (fun hb=>by cases hb) (fun _=>ihn b S _ _ h)
        ·cases h
      · rename_i id c
        refine ek.block ?_
        split at h
        · rename_i j S1 h1
          refine(ihn c S _ _ h1).mono ?_
          rintro e' σ ⟨rfl,rfl⟩
          simp only[pU]
          split at h
          ·rename_i hj;cases h;rw[if_pos (beq_eq hj)];exact⟨rfl,rfl⟩
          · rename_i hj
            cases h
            rw[if_neg (fun e=>by rw[e,Nat.beq_refl] at hj;cases hj)]
            exact⟨rfl,rfl⟩
        · rename_i hne
          cases hr:gE E cu N n c S with
          |none=>rw[hr] at h;cases h
          | some p=>
            obtain⟨e1,S1⟩:=p
            rw[hr] at h
            cases h
            refine(ihn c S _ _ hr).mono ?_
            rintro e' σ ⟨rfl,rfl⟩
            cases e' with
            |exit j=>exact absurd hr (hne j _)
            |_=>exact⟨rfl,rfl⟩
      ·cases h;exact ek.exit ⟨rfl,rfl⟩
      ·cases h;exact ek.ret ⟨rfl,rfl⟩
      ·cases h;exact ek.label ⟨rfl,rfl⟩
      · rename_i c
        have h':gE E cu N (n+1) (.loop c) S=some (e,S'):=by unfold gE;exact h
        refine ek.loop (I:=fun k σ=>k≤n+1∧∃S1,σ=den S1∧gE E cu N k (.loop c) S1=some (e,S')) ⟨n+1,Nat.le_refl _,S,rfl,h'⟩ ?_
        rintro k σ ⟨hk,S1,rfl,hk1⟩
        cases k with
        |zero=>cases hk1
        | succ k=>
          rw[A8] at hk1
          have ihk:=ih k (by omega)
          split at hk1
          · rename_i S2 h2
            refine(ihk c S1 _ _ h2).mono ?_
            rintro e' σ ⟨rfl,rfl⟩
            exact⟨k,Nat.lt_succ_self k,by omega,S2,rfl,hk1⟩
          · rename_i hne
            cases hr:gE E cu N k c S1 with
            |none=>rw[hr] at hk1;cases hk1
            | some p=>
              obtain⟨e1,S2⟩:=p
              rw[hr] at hk1
              cases hk1
              refine(ihk c S1 _ _ hr).mono ?_
              rintro e' σ ⟨rfl,rfl⟩
              cases e' with
              |normal=>exact absurd hr (hne _)
              |_=>exact⟨rfl,rfl⟩
      ·cases h
end
section
variable {P : Program} {E : l9} {N : Nat}
theorem vw:∀ (l:List AV) (k i:Nat),(s7 k l).get i=if k≤i then l[i-k]? else none
  |[],k,i=>by simp[s7,Tr.get]
  | x ::r,k,i=>by
    simp only[s7,Tr.rZ,vw r (k+1) i]
    by_cases h:i=k
    ·subst h;simp
    · rw[if_neg h]
      by_cases h2:k≤i
      ·rw[if_pos h2,if_pos (by omega),show i-k=(i- (k+1))+1 by omega];rfl
      ·rw[if_neg h2,if_neg (by omega)]
theorem wo:∀ (l:List MS) (k i:Nat),(sL k l).get i=if k≤i then l[i-k]? else none
  |[],k,i=>by simp[sL,Tr.get]
  | x ::r,k,i=>by
    simp only[sL,Tr.rZ,wo r (k+1) i]
    by_cases h:i=k
    ·subst h;simp
    · rw[if_neg h]
      by_cases h2:k≤i
      ·rw[if_pos h2,if_pos (by omega),show i-k=(i- (k+1))+1 by omega];rfl
      ·rw[if_neg h2,if_neg (by omega)]
theorem G4 (args:List AV)(ins:List MS)(nx:Nat):den ⟨s7 0 args,sL 0 ins,nx⟩=⟨fun i=>args.getD i .any,aD ins⟩:=by
  unfold den
  congr 1
  · funext i
    simp only[jd,vw,Nat.zero_le,if_true,Nat.sub_zero,List.getD_eq_getElem?_getD]
    cases args[i]? <;>rfl
  · funext t
    simp only[mE,wo,Nat.zero_le,if_true,Nat.sub_zero,aD]
    cases ins[t]? <;>rfl
theorem CF (hΓ:E.Γ.Good P){S:ES}:∀ {rvs:List ResultVar} {xs:List AV},IJ E.Γ S rvs=some xs→xL P (den S) rvs xs
  |[],xs,h=>by cases h;trivial
  | rv :: rvs, xs,h=>by
    simp only[IJ] at h
    split at h
    · rename_i x ys h1 h2
      cases h
      refine⟨?_,CF hΓ h2⟩
      cases rv with
      | tmp t=>
        simp only[Hp,Option.some.injEq] at h1
        exact h1
      | cell a t=>
        simp only[Hp] at h1
        split at h1
        · rename_i tk i k ha
          split at h1
          · rename_i wd rows ro hm
            split at h1
            · rename_i r hr
              rw[eN] at hr
              exact⟨tk,i,k,wd,rows,ro,r,ha,hm,hr,kR hΓ (by rw[←ck,←mB];exact h1)⟩
            ·cases h1
          ·cases h1
        ·cases h1
    ·cases h
theorem AF {S:ES}{f:Nat→Option Nat}:∀ {ns:List Nat} {outs:List MS},Co S f ns=some outs→outs.length=ns.length∧∀ (k:Nat) (s:MS) (t:Nat),outs[k]? =some s→ns[k]? =some t→
    (∃wd rows,s=.live wd (uU f rows) false∧mE S t=.live wd rows false)∨(s=.dead∧mE S t≠ .free)
  |[],outs,h=>by cases h;exact⟨rfl,by simp⟩
  | t :: r,outs,h=>by
    simp only[Co] at h
    split at h
    ·cases h
    · rename_i l hl
      obtain⟨h1,h2⟩:=AF hl
      have cons:∀s0,((∃wd rows,s0=.live wd (uU f rows) false∧mE S t=.live wd rows false)∨(s0=.dead∧mE S t≠ .free))→(s0::l).length=(t::r).length∧∀ (k:Nat) (s:MS) (u:Nat),(s0::l)[k]? =some s→(t::r)[k]? =some u→
          (∃wd rows,s=.live wd (uU f rows) false∧mE S u=.live wd rows false)∨(s=.dead∧mE S u≠ .free):=by
        intro s0 h0
        refine⟨by simp[h1],fun k s u hs hu=>?_⟩
        cases k with
        |zero=>simp at hs hu;subst hs;subst hu;exact h0
        |succ k=>exact h2 k s u (by simpa using hs) (by simpa using hu)
      split at h
      ·rename_i wd rows hm;cases h;exact cons _ (.inl ⟨wd,rows,rfl,hm⟩)
      ·rename_i wd rows hm;cases h;exact cons _ (.inr ⟨rfl,by rw[hm];simp⟩)
      ·rename_i hm;cases h;exact cons _ (.inr ⟨rfl,by rw[hm];simp⟩)
      ·cases h
theorem yG:∀ {k i:Nat} {ns:List Nat},CO k i ns=true→∀j,j<k→ns[j]? =some (i+j)
  |0,_,_,_,j,hj=>by omega
  |k+1,i,[],h,_,_=>by cases h
  | k + 1,i,t::r,h,j,hj=>by
    simp only[CO] at h
    split at h
    · rename_i hb
      have:=beq_eq hb
      subst this
      cases j with
      |zero=>rfl
      | succ j=>
        have:=yG h j (by omega)
        rw[show t+ (j+1)=t+1+j by omega]
        exact this
    ·cases h
theorem IZ (hΓ:E.Γ.Good P){S:ES}{nL:Nat}{fn:Func}{outs:List MS}{res:AV}(h:GC E.Γ nL fn.results.toList S=some (outs,res)){w0:World}{W0:Nat→Prop}{L μ:Mu}{a:Act}{w:World}(hL:∀t,nL≤t→t<jf→L t=none)(hs:bV P N w0 W0 L μ (den S) a w):
    ∃v,(results fn a.tmps).run P w=.ok v w∧∃μ',bV P 0 w0 W0 L μ' (bare outs) gl w∧cm (Wr W0 μ' (aD outs)) μ' w res v:=by
  unfold GC at h
  split at h
  ·cases h
  · rename_i xs hxs
    generalize qI 1000 S 0 (Lb S (rJ xs) (List.range nL))=ns at h
    simp only at h
    split at h
    · rename_i outs' g1 g2 g3
      cases h
      have hres:=(CF hΓ hxs).get
      obtain⟨v,v1,v2⟩:=iF hs hres.1 hres.2
      refine⟨v,v1,?_⟩
      obtain⟨o1,o2⟩:=AF g1
      have hnd:=k7 g2
      have hhd:∀j,j<nL→ns[j]? =some j:=fun j hj=>by have:=yG g3 j hj;simpa using this
      have hlive:∀t,aD outs t≠ .free→∃u,ns[t]? =some u:=fun t ht=>by
        unfold aD at ht
        cases ho:outs[t]? with
        |none=>rw[ho] at ht;exact absurd rfl ht
        | some s=>
          have:t<ns.length:=by rw[←o1];exact(br ho).1
          exact⟨_,bh this⟩
      have hget:∀t u,ns[t]? =some u→ns.getD t 0=u:=fun t u h=>by rw[List.getD_eq_getElem?_getD,h];rfl
      have hnf:∀t u,ns[t]? =some u→aD outs t≠ .free:=fun t u hu=>by
        have hlt:t<outs.length:=by rw[o1];exact(br hu).1
        unfold aD
        rw[bh hlt]
        rcases o2 t _ u (bh hlt) hu with⟨wd,rows,e,_⟩|⟨e,_⟩
        ·rw[e];simp
        ·rw[e];simp
      have hf:∀t u,oh ns 0 t=some u→aD outs u≠ .free∧ns.getD u 0=t:=fun t u hu=>by
        obtain⟨_,h2⟩:=s6 hu
        rw[Nat.sub_zero] at h2
        exact⟨hnf u t h2,hget u t h2⟩
      have hw :lB nL (fun t=>ns.getD t 0) (fun _=>False) (bare outs) (den S):=by
        refine⟨fun i=>.any,fun t=>?_,fun t t' wd rows wd' rows' ro' g1 g2 he=>?_,fun s h=>h.elim,fun t ht hne=>?_⟩
        · by_cases hfr:aD outs t=.free
          ·exact .inl hfr
          · right
            obtain⟨u,hu⟩:=hlive t hfr
            have hlt:t<outs.length:=by rw[o1];exact(br hu).1
            have hmem:(bare outs).mem t=outs[t]:=by show aD outs t=_;unfold aD;rw[bh hlt];rfl
            have hden:(den S).mem (ns.getD t 0)=mE S u:=by rw[hget t u hu];rfl
            rcases o2 t _ u (bh hlt) hu with⟨wd,rows,e1,e2⟩|⟨e1,e2⟩
            · right
              refine⟨wd,uU (oh ns 0) rows,rows,false,false,by rw[hmem];exact e1,by rw[hden];exact e2,id,?_,lP hf rows⟩
              obtain⟨B,_,hB⟩:=hs.objs u wd rows false e2
              exact tF hB.wide
            · left
              exact⟨by rw[hmem];exact e1,by rw[hden];exact e2⟩
        · obtain⟨u,hu⟩:=hlive t (fun e=>by rw[show aD outs t=.live wd rows false from g1] at e;cases e)
          obtain⟨u',hu'⟩:=hlive t' (fun e=>by rw[show aD outs t'=.live wd' rows' ro' from g2] at e;cases e)
          have he':u=u':=by
            have h3:=hget t u hu
            have h4:=hget t' u' hu'
            rw[←h3,←h4]
            exact he
          subst he'
          have e1:=qC hnd hu
          have e2:=qC hnd hu'
          rw[←e1,e2]
        · have h1:=hhd t ht
          exact⟨hget t t h1,hnf t t h1⟩
      obtain⟨μ',hs',hrep⟩:=hw.E1 hL hs (N':=0) (a':=gl) (.inr ⟨fun _=>rfl,rfl,rfl⟩)
      exact⟨μ',hs',hrep _ _ _ (B7 hf _) v2⟩
    ·cases h
theorem xb (hE :E.Good P)(fuel:Nat):∀n,jv P (yz E fuel n)
  |0=>fun g ins args outs res h=>by cases h
  | n + 1 => fun g ins args outs res h=>by
    unfold yz at h
    split at h
    · rename_i r ho
      cases h
      exact hE.orc _ _ _ _ _ ho
    · split at h
      ·cases h
      · rename_i fn hfn
        obtain⟨hf,hc⟩:=hE.fns _ (Ct hfn)
        refine⟨?_,hc⟩
        split at h
        · rename_i c hb hlen0
          have hlen:=bT hlen0
          have run : ∀e S,gE E (yz E fuel n) fn.ntmps fuel c ⟨s7 0 args,sL 0 ins,ins.length⟩=some (e,S)→(e=.normal∨e=.ret)→GC E.Γ ins.length fn.results.toList S=some (outs,res)→an P g ins args outs res:=by
            intro e S hcode he hend
            intro w W0 L vs hL hs hr
            have h1:=E4 (nL:=ins.length) hE (xb hE fuel n) _ _ _ _ _ hcode
            rw[G4] at h1
            have hsim:bV P fn.ntmps w W0 L L ⟨fun i=>args.getD i .any,aD ins⟩ {tmps:=vs.toArray++Array.replicate (fn.ntmps-vs.toArray.size) undef,defers:=[]} w:=by
              refine⟨?_,.nil,hs.os,hs.tape,hs.output,hs.hsize,hs.shp,hs.keep,hs.w0lt,hs.lentμ,hs.free,fun i=>?_,hs.objs,hs.inj,hs.out,hs.tabs⟩
              ·simp[hr.1];omega
              · by_cases hi:i<args.length
                · have h1:args[i]? =some args[i]:=bh hi
                  have h2:vs[i]? =some (vs[i]'(by rw[hr.1];exact hi)):=bh _
                  have:=hr.2 i _ _ h1 h2
                  have hv:(vs.toArray++Array.replicate (fn.ntmps-vs.toArray.size) undef).getD i undef=vs[i]'(by rw[hr.1];exact hi):=by
                    rw[Array.getD_eq_getD_getElem?,Array.getElem?_append_left (by simp;rw[hr.1];exact hi)]
                    simp[h2]
                  simp only[hv,List.getD_eq_getElem?_getD,h1,Option.getD_some]
                  exact this
                · simp only[List.getD_eq_getElem?_getD,mg (Nat.le_of_not_lt hi),Option.getD_none]
                  exact .any
            refine gR hf hb h1 (fun t ht=>hL t (by omega)) hsim (fun e' σ' ⟨he',_⟩=>he'▸he) ?_
            rintro e' σ' μ' a' w' ⟨rfl,rfl⟩ hs' hd
            obtain⟨v,v1,μ'',h3,h4⟩:=IZ hE.Γ hend (fun t ht _=>hL t ht) hs'
            exact⟨v,v1,v,μ'',rfl,h3,h4⟩
          split at h
          ·rename_i S hcode;exact run _ _ hcode (.inl rfl) h
          ·rename_i S hcode;exact run _ _ hcode (.inr rfl) h
          ·cases h
        ·cases h
theorem an.run (hE:E.Good P)(fuel n:Nat){g:FuncId}{ins outs:List MS}{args:List AV}{res:AV}(h:yz E fuel n g ins args=some (outs,res)):an P g ins args outs res:=(xb hE fuel n _ _ _ _ _ h).1
end
end Go.Am
namespace Go.Am
open Go
def Ek:List Nat→List Nat→Bool
  |[],[]=>true
  | x::xs,y::ys=>match Nat.beq x y with
    |true=>Ek xs ys
    |false=>false
  |_,_=>false
theorem rW:∀ {a b:List Nat},Ek a b=true→a=b
  |[],[],_=>rfl
  | x::xs,y::ys,h=>by
    simp only[Ek] at h
    split at h
    ·rename_i hb;rw[Nat.eq_of_beq_eq_true hb,rW h]
    ·cases h
  |[],_::_,h=>by cases h
  |_::_,[],h=>by cases h
def OZ:Value→Value→Bool
  | .bool a,.bool b=>match a,b with
    |true,true=>true
    |false,false=>true
    |_,_=>false
  | .int k a,.int l b=>match decide (k=l) with
    |true=>decide (a=b)
    |false=>false
  |.string a,.string b=>Ek (a.data.toList.map UInt8.toNat) (b.data.toList.map UInt8.toNat)
  |.pointer none,.pointer none=>true
  | .slice none a b,.slice none c d=>match Nat.beq a c with
    |true=>Nat.beq b d
    |false=>false
  |.map none,.map none=>true
  |.nilFunc,.nilFunc=>true
  |.nilIface,.nilIface=>true
  |_,_=>false
theorem LU:∀ {a b:Value},OZ a b=true→a=b:=by
  intro a b h
  unfold OZ at h
  split at h
  ·rename_i a b;cases a<;>cases b<;>first|rfl|cases h
  · split at h
    ·rename_i hk;rw[of_decide_eq_true hk,of_decide_eq_true h]
    ·cases h
  · rename_i a b
    have h1:=rW h
    have h2:a.data.toList=b.data.toList:=List.map_inj_right (fun x y=>UInt8.toNat_inj.1)|>.1 h1
    have h3:a.data=b.data:=Array.ext' h2
    cases a;cases b;simp only at h3;rw[h3]
  ·rfl
  · split at h
    ·rename_i hk;rw[Nat.eq_of_beq_eq_true hk,Nat.eq_of_beq_eq_true h]
    ·cases h
  ·rfl
  ·rfl
  ·rfl
  ·cases h
mutual
def Bu:AV→AV→Bool
  | .lit a,y=>match y with
    |.lit b=>OZ a b
    |_=>false
  | .ptr a b c,y=>match y with
    |.ptr d e f=>Ek [a,b,c] [d,e,f]
    |_=>false
  | .own a b c,y=>match y with
    |.own d e f=>Ek [a,b,c] [d,e,f]
    |_=>false
  | .mapr a,y=>match y with
    |.mapr b=>Nat.beq a b
    |_=>false
  | .agg a,y=>match y with
    |.agg b=>xq a b
    |_=>false
  | .tup a,y=>match y with
    |.tup b=>xq a b
    |_=>false
  |_,_=>false
def xq:List AV→List AV→Bool
  | [],y=>match y with
    |[]=>true
    |_=>false
  | x ::xs,y=>match y with
    | y::ys=>match Bu x y with
      |true=>xq xs ys
      |false=>false
    |_=>false
end
mutual
theorem LM:∀ (a b:AV),Bu a b=true→a=b
  | .lit a,b,h=>by
    unfold Bu at h
    split at h
    ·rw[LU h]
    ·cases h
  | .ptr a b c,y,h=>by
    unfold Bu at h
    split at h
    ·have:=rW h;simp at this;rw[this.1,this.2.1,this.2.2]
    ·cases h
  | .own a b c,y,h=>by
    unfold Bu at h
    split at h
    ·have:=rW h;simp at this;rw[this.1,this.2.1,this.2.2]
    ·cases h
  | .mapr a,y,h=>by
    unfold Bu at h
    split at h
    ·rw[Nat.eq_of_beq_eq_true h]
    ·cases h
  | .agg a,y,h=>by
    unfold Bu at h
    split at h
    ·rw[nH _ _ h]
    ·cases h
  | .tup a,y,h=>by
    unfold Bu at h
    split at h
    ·rw[nH _ _ h]
    ·cases h
  |.any,_,h=>by simp[Bu] at h
  |.emp,_,h=>by simp[Bu] at h
  |.guess _ _,_,h=>by simp[Bu] at h
  |.sl _ _,_,h=>by simp[Bu] at h
  |.fptr _ _,_,h=>by simp[Bu] at h
  |.clo _ _ _,_,h=>by simp[Bu] at h
  |.fmap _,_,h=>by simp[Bu] at h
theorem nH:∀ (a b:List AV),xq a b=true→a=b
  | [],y,h=>by
    unfold xq at h
    split at h
    ·rfl
    ·cases h
  | x ::xs,y,h=>by
    unfold xq at h
    split at h
    · split at h
      ·rename_i hx;rw[LM _ _ hx,nH _ _ h]
      ·cases h
    ·cases h
end
def O4:MS→MS→Bool
  |.free,.free=>true
  |.dead,.dead=>true
  | .live a r x,.live b s y=>match Nat.beq a b with
    | true=>match x,y with
      |true,true=>xq r s
      |false,false=>xq r s
      |_,_=>false
    |false=>false
  |_,_=>false
theorem LB {a b:MS}(h:O4 a b=true):a=b:=by
  unfold O4 at h
  split at h
  ·rfl
  ·rfl
  · split at h
    · rename_i hb
      have:=Nat.eq_of_beq_eq_true hb
      split at h
      ·rw[this,nH _ _ h]
      ·rw[this,nH _ _ h]
      ·cases h
    ·cases h
  ·cases h
def II:List MS→List MS→Bool
  |[],[]=>true
  | x::xs,y::ys=>match O4 x y with
    |true=>II xs ys
    |false=>false
  |_,_=>false
theorem Cs:∀ {a b:List MS},II a b=true→a=b
  |[],[],_=>rfl
  | x::xs,y::ys,h=>by
    simp only[II] at h
    split at h
    ·rename_i hb;rw[LB hb,Cs h]
    ·cases h
  |[],_::_,h=>by cases h
  |_::_,[],h=>by cases h
structure yl where
  g:FuncId
  ins:List MS
  args:List AV
  outs:List MS
  res:AV
def DS (orc:j2):List yl→j2
  |[]=>orc
  | r :: rest=>fun g ins args=>match Nat.beq r.g g with
    | true=>match II r.ins ins with
      | true=>match xq r.args args with
        |true=>some (r.outs,r.res)
        |false=>DS orc rest g ins args
      |false=>DS orc rest g ins args
    |false=>DS orc rest g ins args
def yl.OK (P:Program)(r:yl):Prop:=an P r.g r.ins r.args r.outs r.res∧af P r.g
theorem CL {P:Program}{orc:j2}(ho:jv P orc):∀ {l:List yl},(∀r∈l,r.OK P)→jv P (DS orc l)
  |[],_=>ho
  | r :: rest,h=>by
    intro g ins args outs res hq
    have ih:=CL ho (l:=rest) (fun x hx=>h x (gy _ hx))
    simp only[DS] at hq
    split at hq
    · rename_i h1
      split at hq
      · rename_i h2
        split at hq
        · rename_i h3
          cases hq
          have h0:=h r (jC ..)
          unfold yl.OK at h0
          rw[Nat.eq_of_beq_eq_true h1,Cs h2,nH _ _ h3] at h0
          exact h0
        ·exact ih _ _ _ _ _ hq
      ·exact ih _ _ _ _ _ hq
    ·exact ih _ _ _ _ _ hq
def l9.more (E:l9)(l:List yl):l9:=⟨E.Γ,E.Δ,E.fns,E.kinds,DS E.orc l,E.ifs⟩
theorem l9.DC {P:Program}{E:l9}(hE:E.Good P){l:List yl}(h:∀r∈l,r.OK P):(E.more l).Good P:=⟨hE.Γ,hE.Δ,hE.fns,hE.kinds,CL (fun _ _ _ _ _ h=>hE.orc _ _ _ _ _ h) h,hE.orders,hE.ifs⟩
theorem yl.of {P:Program}{E:l9}(hE:E.Good P){fuel n:Nat}{r:yl}(h:yz E fuel n r.g r.ins r.args=some (r.outs,r.res)):r.OK P:=xb hE fuel n _ _ _ _ _ h
theorem yl.cons {P:Program}{r:yl}{l:List yl}(h:r.OK P)(hl:∀r∈l,r.OK P):∀x∈r::l,x.OK P:=List.forall_mem_cons.2 ⟨h,hl⟩
end Go.Am
