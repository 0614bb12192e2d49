/- Walks of functions by unfolding over abstract states; runs of functions by an evaluator that is proved. By an AI agent. -/
import Derived.Test.YtciccajdpmahiaaGreatDoorW3
set_option linter.unusedSimpArgs false
set_option linter.unusedVariables false
namespace Go.Am
open Go
set_option maxHeartbeats 2000000 in
/-- **A loop over a function**, with what holds of the rounds that are over. S: what the frame's slots hold, in each round; M k: the objects when k rounds are over; those with names below r keep their names. -/
theorem gz.Eb {P:Program}{N nL:Nat}{σ:az}{Q:Exit→az→Prop}{f:Operand}{ps:Array Tmp}{assign body:Code}{g:FuncId}{caps:List AV}{n:Nat}{enc:Nat→List AV}
    (r:Nat) (S:SL) (M:Nat→ML) (I:Nat→Prop) (hI0:I 0) (hit:Dd P g caps n enc) (hg:ae P g) (h0:iI P nL σ (St S (M 0))) (hf:(St S (M 0)).eval f=.clo (.func g) [] caps)
    (hnL:nL≤r) (hr:r≤jK) (hlive:∀k,k≤n→∀t,t<r→∃wd rows,aR (M k) t=.live wd rows false) (hS:∀i,nX r (bR S i)=true)
    (henc:∀k,k<n→(enc k).length=ps.size) (hnd:ps.toList.Nodup) (hlt:∀p∈ps.toList,p<N) (hpa:cG assign=true) (hpb:cG body=true)
    (hround:∀k,k<n→I k→gz P N r assign (fun e σ'=>e=.normal∧(∀t,t<r→∃wd rows,σ'.mem t=.live wd rows false)∧gz P N r body (fun e σ2=>Cx P r S (M (k+1)) Q e σ2∧(e=.normal→I (k+1))) σ') (St (wL ps.toList (enc k) S) (M k)))
    (hdone:I n→Q .normal (St S (M n))):gz P N nL (.rangeFunc f ps assign body) Q σ:=by
  intro rd hp w0 W0 L μ a w hL hs
  have hrd:rd=none:=hp.resolve_right (by simp[cG])
  subst hrd
  obtain⟨μ0,hs0⟩:=h0 N w0 W0 L μ a w (fun t h1 h2=>hL.1 t h1 (.inl h2)) hs
  have hLr:∀t,r≤t→L t=none:=fun t h=>hL.1 t (Nat.le_trans hnL h) (.inr rfl)
  have hdr:=hL.2 rfl
  have hfk:∀m,(St S m).eval f=.clo (.func g) [] caps:=fun m=>hf
  obtain⟨vals,hval⟩:=uW (by have:=hs0.eval f;rw[hfk] at this;exact this)
  refine wpIn_rangeFunc (F:=iZ none) ?_
  intro fn _
  obtain⟨rec,hrec⟩:∃rec:LoopState→Option Code→Loop,rec=fun st pe=>{state:=st,pending:=pe,fn,tmps:=a.tmps,params:=ps,assign,body,defers:=w.heap.size}:=⟨_,rfl⟩
  obtain⟨W1,hW1⟩:∃W1,(w.alloc (.deferred (some []))).alloc (.loop (rec .ready none))=W1:=⟨_,rfl⟩
  have hmore:jF w W1:=by rw[←hW1];exact(jF.alloc _).trans (jF.alloc _)
  have hl1:W1.heap[w.heap.size+1]? =some (.loop (rec .ready none)):=by
    rw[←hW1];have:=World.alloc_heap_new (w.alloc (.deferred (some []))) (.loop (rec .ready none));rwa [World.size_alloc] at this
  have hD1:W1.heap[w.heap.size]? =some (.deferred (some [])):=by
    rw[←hW1,(jF.alloc (w:=w.alloc (.deferred (some []))) (.loop (rec .ready none))).blk _ (by simp)]
    exact World.alloc_heap_new w _
  have hDge:w0.heap.size≤w.heap.size:=hs0.hsize
  let J:Nat→(Nat→Prop)→World→Prop:=fun k Wn W=> ∃μk,bW P N w0 W0 L μk (St S (M k)) a W∧Wn=Wr W0 μk (aR (M k))∧W.heap[w.heap.size+1]? =some (.loop (rec .ready none))∧W.heap[w.heap.size]? =some (.deferred (some []))∧k≤n∧I k
  let Jx:World→Prop:=fun W=> ∃c e m μk,bW P N w0 W0 L μk (St S m) a W∧W.heap[w.heap.size+1]? =some (.loop (rec .done (some c)))∧W.heap[w.heap.size]? =some (.deferred (some []))∧(c=.ret∧e=.ret∨∃id,c=.exit id∧e=.exit id)∧Q e (St S m)
  have hcaps:∀k Wn W,J k Wn W→(∃μ,bT Wn μ W caps vals)∧k7 P W fun _=>none:=by
    rintro k Wn W ⟨μk,h1,rfl,_⟩
    have h2:=h1.eval f
    rw[hfk,hval] at h2
    have h3:bT (Wr W0 μk (St S (M k)).mem) μk W caps vals:=by simpa using(sy h2).2
    exact⟨⟨μk,h3⟩,h1.pL fun b h=>by obtain⟨_,_,h,_⟩:=h;cases h⟩
  have hbk:∀ {W W':World} {b:Nat} {o:Obj},jF W W'→W.heap[b]? =some o→W'.heap[b]? =some o:=fun m h=>by rw[m.blk _ (Array.getElem?_eq_some_iff.1 h).1];exact h
  have key:=hit vals (w.heap.size+1) J Jx hcaps
    (by rintro k Wn W W' ⟨μk,h1,h2,h3,h4,h5⟩ m;exact⟨μk,h1.more m,h2,hbk m h3,hbk m h4,h5⟩)
    (by rintro W W' ⟨c,e,m',μk,h1,h2,h3,h4⟩ m;exact⟨c,e,m',μk,h1.more m,hbk m h2,hbk m h3,h4⟩)
    (by rintro k Wn W ⟨μk,h1,rfl,_⟩ b hb;exact h1.OV hb)
    ?round _ W1 ⟨μ0,hs0.more hmore,rfl,hl1,hD1,Nat.zero_le _,hI0⟩
  case round =>
    rintro k Wn W vs hk ⟨μk,hsk,rfl,hl,hD,hkn,hIk⟩ hvs
    have hrep:bT (Wr W0 μk (aR (M k))) μk W (enc k) vs:=by
      refine hvs _ _ ?_
      have h2:=hsk.eval f
      rw[hfk,hval] at h2
      have h3:bT (Wr W0 μk (St S (M k)).mem) μk W caps vals:=by simpa using(sy h2).2
      exact h3
    have hvl:vs.length=ps.toList.length:=by rw[hrep.1,henc k hk];simp
    obtain⟨hget,hsz⟩:=tY ps.toList vs a.tmps hvl.symm hnd (fun p hp=>by rw[hsk.tsize];exact hlt p hp)
    have hfold:(ps.zip vs.toArray).foldl (fun tmps (t,a)=>tmps.setIfInBounds t a) a.tmps=(ps.toList.zip vs).foldl (fun t (x:Tmp×Value)=>t.setIfInBounds x.1 x.2) a.tmps:=by
      rw[←Array.foldl_toList];simp
    have hlk:∀t,t<r→∃wd rows,(St S (M k)).mem t=.live wd rows false:=hlive k hkn
    have hreb:=hsk.Bv (sl:=(St (wL ps.toList (enc k) S) (M k)).slots) (a':={tmps:=(ps.toList.zip vs).foldl (fun t (x:Tmp×Value)=>t.setIfInBounds x.1 x.2) a.tmps,defers:=[]}) hr hlk
      (by rw [hsz];exact hsk.tsize) rfl (fun i=>by
        show cq _ _ _ (bR (wL ps.toList (enc k) S) i) _
        rw[tG _ _ _ _ (by rw[←hvl,hrep.1]) hnd,hget i]
        cases hj:ps.toList.idxOf? i with
        |none=>exact hsk.slots i
        | some j=>
          simp only
          rcases Nat.lt_or_ge j (enc k).length with h|h
          · rw[List.getD_eq_getElem?_getD,List.getElem?_eq_getElem h,List.getD_eq_getElem?_getD,List.getElem?_eq_getElem (by rw[hrep.1];exact h)]
            exact hrep.2 j _ _ (List.getElem?_eq_getElem h) (List.getElem?_eq_getElem _)
          ·rw[List.getD_eq_getElem?_getD,List.getElem?_eq_none h];exact .any)
    have hargs:vs.toArray.size=(rec .ready none).params.size:=by rw[hrec];simpa using hvl
    have hy:=run_yield (P:=P) (args:=vs.toArray) hl hargs
    rw[hrec] at hy
    simp only at hy
    rw[hfold] at hy
    refine⟨fn,_,assign,body,hy,roundIn_of_wpIn trivial ?_⟩
    have hrebL:∀t,r≤t→(t<jK∨(some (w.heap.size+1):Option Nat)=none)→kK r μk (aR (M k)) t=none:=fun t h1 h2=>by
      unfold kK
      rcases h2 with h2|h2
      ·rw[if_neg (by omega),if_neg (by omega)]
      ·cases h2
    have ha:=hround k hk hIk (some (w.heap.size+1)) (.inr hpa) {W with drawn:=1} W0 (kK r μk (aR (M k))) μk _ W ⟨hrebL,fun h=>by cases h⟩ hreb
    refine wpIn_mono (F:=iZ (some (w.heap.size+1))) ha ?_
    rintro e a1 Wa ⟨μ1,σ1,⟨rfl,hlive1,hb⟩,hs1⟩
    have U1:=hsk.sr hLr hr hlk hs1
    have hd1:a1.defers=[]:=hs1.defers.1 (Nat.succ_ne_zero 0)
    have notMine:∀ {b:Nat} {o:Obj} {μ':Mu} {σ':az} {a':Act} {W':World},bW P N w0 W0 L μ' σ' a' W'→W'.heap[b]? =some o→zM o=true→¬iH μ' σ'.mem b:=by
      rintro b o μ' σ' a' W' hs' ho hbo ⟨t,B,wd,rows,m1,m2,rfl,hv⟩
      obtain⟨B',hB',hobj⟩:=hs'.objs t wd rows false m1
      rw[m2] at hB';cases hB'
      cases hmp:B.mp with
      |false=>obtain⟨C,e,fz,h3,_⟩:=hobj.blk hv hmp;rw[ho] at h3;cases h3;cases hbo
      |true=>obtain⟨es,clock,h3,_⟩:=hobj.map hmp;rw[ho] at h3;cases h3;cases hbo
    have ltOf:∀ {b:Nat} {o:Obj} {W':World},W'.heap[b]? =some o→b<W'.heap.size:=fun h=>(Array.getElem?_eq_some_iff.1 h).1
    have hla:Wa.heap[w.heap.size+1]? =some (.loop (rec .ready none)):=by rw[U1.keep _ (ltOf hl) (notMine hsk hl rfl)];exact hl
    have hDa:Wa.heap[w.heap.size]? =some (.deferred (some [])):=by rw[U1.keep _ (ltOf hD) (notMine hsk hD rfl)];exact hD
    -- what the frame itself holds
    have out1:∀i,cq (Wr W0 μ1 σ1.mem) μ1 Wa (bR S i) (a.tmps.getD i undef):=fun i=>(hsk.slots i).ER U1.grow (hS i)
    have mk1:Marks w0 a.defers Wa:=hsk.defers.keep fun E _ h2=>by rw[U1.keep E (ltOf h2) (notMine hsk h2 rfl)];exact h2
    have sa:bW P N w0 W0 L μ1 ⟨bR S,σ1.mem⟩ a Wa:=U1.Kx _ a hsk.tsize mk1 out1
    -- the round is on
    have tb:dg (w.heap.size+1) Wa (Wa.putObj (w.heap.size+1) (.loop {rec .ready none with state:=.busy})):=dg.put hla rfl
    obtain⟨Wb,hWb⟩:∃Wb,Wa.putObj (w.heap.size+1) (.loop {rec .ready none with state:=.busy})=Wb:=⟨_,rfl⟩
    rw[hWb] at tb
    have hlb:Wb.heap[w.heap.size+1]? =some (.loop {rec .ready none with state:=.busy}):=by rw[←hWb];exact World.putObj_heap_same (ltOf hla)
    have hDb:Wb.heap[w.heap.size]? =some (.deferred (some [])):=by rw[tb.blk _ (by omega)];exact hDa
    refine⟨Wb,by rw[←hWb];exact run_beginRound hla (by rw[hrec]),?_⟩
    have mkb:Marks w0 a.defers Wb:=mk1.keep fun E h1 h2=>by
      rw[tb.blk E (fun e=>by rw[e,hla] at h2;cases h2)];exact h2
    have sb:bW P N w0 W0 L μ1 ⟨bR S,σ1.mem⟩ a Wb:=sa.og tb (by omega) mkb
    have slot1:∀i,cq (Wr W0 μ1 σ1.mem) μ1 Wb (σ1.slots i) (a1.tmps.getD i undef):=fun i=>(hs1.slots i).og tb
    have hrb:=sb.Bv (sl:=σ1.slots) (a':=a1) hr hlive1 hs1.tsize hd1 slot1
    have hrebL1:∀t,r≤t→(t<jK∨(some (w.heap.size+1):Option Nat)=none)→kK r μ1 σ1.mem t=none:=fun t h1 h2=>by
      unfold kK
      rcases h2 with h2|h2
      ·rw[if_neg (by omega),if_neg (by omega)]
      ·cases h2
    refine wpIn_mono (F:=iZ (some (w.heap.size+1))) (hb (some (w.heap.size+1)) (.inr hpb) {Wb with drawn:=1} W0 (kK r μ1 σ1.mem) μ1 a1 Wb ⟨hrebL1,fun h=>by cases h⟩ hrb) ?_
    rintro e a2 Wc ⟨μ2,σ2,⟨he,hIn⟩,hs2⟩
    -- the round is over
    have fin:∀ (mm:ML),iI P r σ2 (St S mm)→∃μ3,(∀b,b<Wb.heap.size→¬iH μ1 σ1.mem b→Wc.heap[b]? =Wb.heap[b]?)∧(∀b,b<Wb.heap.size→Wr W0 μ3 (aR mm) b→Wr W0 μ1 σ1.mem b)∧
        Wc.heap[w.heap.size+1]? =some (.loop {rec .ready none with state:=.busy})∧Wc.heap[w.heap.size]? =some (.deferred (some []))∧bW P N w0 W0 L μ3 (St S mm) a Wc∧Wb.heap.size≤Wc.heap.size:=by
      intro mm hsits
      obtain⟨μ3,hs3⟩:=hsits N _ W0 (kK r μ1 σ1.mem) μ2 a2 Wc (fun t h1 h2=>hrebL1 t h1 (.inl h2)) hs2
      have U2:=sb.sr hLr hr hlive1 hs3
      have hDc:Wc.heap[w.heap.size]? =some (.deferred (some [])):=by rw[U2.keep _ (ltOf hDb) (notMine sb hDb rfl)];exact hDb
      refine⟨μ3,U2.keep,U2.grow.wr,by rw[U2.keep _ (ltOf hlb) (notMine sb hlb rfl)];exact hlb,hDc,?_,U2.grow.size⟩
      exact U2.Kx _ a hsk.tsize (mkb.keep fun E _ h2=>by rw[U2.keep E (ltOf h2) (notMine sb h2 rfl)];exact h2) (fun i=>((out1 i).og tb).ER U2.grow (hS i))
    have over:∀ (jump:Option Code) (mm:ML),iI P r σ2 (St S mm)→∃μ3 Wd,(Instr.endRound (w.heap.size+1) jump).run P Wc=.ok (.bool jump.isNone) Wd∧bW P N w0 W0 L μ3 (St S mm) a Wd∧
        Wd.heap[w.heap.size+1]? =some (.loop (rec (if jump.isNone then .ready else .done) jump))∧Wd.heap[w.heap.size]? =some (.deferred (some []))∧
        (jump=none→DR (Wr W0 μk (aR (M k))) W (Wr W0 μ3 (aR mm)) Wd):=by
      intro jump mm hsits
      obtain⟨μ3,keep2,wr2,hlc,hDc,s3,hsz3⟩:=fin mm hsits
      have hend:=run_endRound (P:=P) jump hlc
      have td:dg (w.heap.size+1) Wc (Wc.putObj (w.heap.size+1) (.loop { {rec .ready none with state:=.busy} with state:=if jump.isNone then .ready else .done,pending:=jump})):=dg.put hlc rfl
      obtain⟨Wd,hWd⟩:∃Wd,Wc.putObj (w.heap.size+1) (.loop { {rec .ready none with state:=.busy} with state:=if jump.isNone then .ready else .done,pending:=jump})=Wd:=⟨_,rfl⟩
      rw[hWd] at td
      have hld:Wd.heap[w.heap.size+1]? =some (.loop (rec (if jump.isNone then .ready else .done) jump)):=by
        rw[←hWd,World.putObj_heap_same (ltOf hlc),hrec]
      refine⟨μ3,Wd,by rw[←hWd];exact hend,s3.og td (by omega) (s3.defers.keep fun E h1 h2=>?_),hld,by rw[td.blk _ (by omega)];exact hDc,fun hj=>?_⟩
      ·rw[td.blk E (fun e=>by rw[e,hlc] at h2;cases h2)];exact h2
      · have hsz1:W.heap.size≤Wa.heap.size:=hs1.hsize
        have hsz2:Wb.heap.size=Wa.heap.size:=tb.size
        refine⟨by rw[td.size];omega,fun b hb hn=>?_,fun b hb hw=>?_⟩
        · by_cases hbl:b=w.heap.size+1
          · subst hbl
            rw[hld,hl,hj];rfl
          · have h1:¬iH μk (aR (M k)) b:=fun h=>hn (.inr h)
            have h2:¬iH μ1 σ1.mem b:=fun h=>hn (U1.grow.wr b hb (.inr h))
            rw[td.blk b hbl,keep2 b (by omega) h2,tb.blk b hbl,U1.keep b hb h1]
        ·exact U1.grow.wr b hb (wr2 b (by omega) hw)
    cases e with
    | normal=>
      obtain⟨μ3,Wd,h1,h2,h3,h4,h5⟩:=over none (M (k+1)) he
      exact⟨_,Wd,h1,.inl ⟨rfl,_,⟨μ3,h2,rfl,h3,h4,hk,hIn rfl⟩,h5 rfl⟩⟩
    | ret=>
      obtain⟨mm,hm,hq⟩:=he
      obtain⟨μ3,Wd,h1,h2,h3,h4,h5⟩:=over (some .ret) mm hm
      exact⟨_,Wd,h1,.inr ⟨rfl,.ret,.ret,mm,μ3,h2,h3,h4,.inl ⟨rfl,rfl⟩,hq⟩⟩
    | exit id=>
      obtain⟨mm,hm,hq⟩:=he
      obtain⟨μ3,Wd,h1,h2,h3,h4,h5⟩:=over (some (.exit id)) mm hm
      exact⟨_,Wd,h1,.inr ⟨rfl,.exit id,.exit id,mm,μ3,h2,h3,h4,.inr ⟨id,rfl,rfl⟩,hq⟩⟩
    |goto t=>exact he.elim
    |panic c=>exact he.elim
    |outgrown=>exact he.elim
  have hres:(resolve a.eval (rangeCall f (w.heap.size+1)) 0).run P W1=.ok {target:=.fn (.func g) vals.toArray,args:= #[.func (.yield (w.heap.size+1)) #[] #[]]} W1:=by
    simp only[resolve,hval]
    simp[go_sem]
  refine⟨w.heap.size+1,[{target:=.collected w.heap.size,args:= #[]}],W1,{target:=.fn (.func g) vals.toArray,args:= #[.func (.yield (w.heap.size+1)) #[] #[]]},W1,g,
    #[.func (.yield (w.heap.size + 1)) #[] #[]] ++ vals.toArray, W1, ?_, hres, fun _ _ => trivial, ?_, fun h => (by cases h), ?_⟩
  ·rw[←hW1,hrec];exact run_enterLoop_outer _ _ _ _ _
  ·simp[invoke,go_sem,hg _ _]
  have eargs:(#[.func (.yield (w.heap.size+1)) #[] #[]]++vals.toArray:Array Value)=(.func (.yield (w.heap.size+1)) #[] #[]::vals).toArray:=by simp
  rw[eargs]
  refine l8 (key.mono ?_)
  have hmark:∀ {W W':World} {μ':Mu} {σ':az},bW P N w0 W0 L μ' σ' a W→dg (w.heap.size+1) W W'→W.heap[w.heap.size]? =some (.deferred (some []))→(∃o,W.heap[w.heap.size+1]? =some (.loop o))→
      bW P N w0 W0 L μ' σ' {a with defers:=[{target:=.collected w.heap.size,args:= #[]}]++a.defers} W':=by
    rintro W W' μ' σ' h t hD ⟨o,hl⟩
    refine h.og t (by omega) ⟨fun h0=>absurd hdr h0,?_⟩
    obtain⟨_,Ds,d1,d2,d3⟩:=hs.defers
    obtain⟨_,Es,e1,e2,e3⟩:=h.defers
    have hE:Es=Ds:=by
      have:Es.map mK=Ds.map mK:=by rw[←e1,←d1]
      exact(List.map_inj_right (fun x y hxy=>by simpa[mK] using hxy)).1 this
    refine⟨w.heap.size::Ds,by rw[d1];rfl,List.nodup_cons.2 ⟨fun hm=>?_,d2⟩,fun D hD'=>?_⟩
    ·have:=(Array.getElem?_eq_some_iff.1 (d3 _ hm).2).1;omega
    · rcases List.mem_cons.1 hD' with rfl|hm
      ·exact⟨hDge,by rw[t.blk _ (by omega)];exact hD⟩
      · have h3:=e3 D (by rw[hE];exact hm)
        exact⟨h3.1,by rw[t.blk D (fun e=>by rw[e,hl] at h3;cases h3.2)];exact h3.2⟩
  rintro e W2 ⟨⟨v,rfl⟩,⟨Wn',μk,h1,_,h3,h4,_,hIk⟩|⟨c,e',mm,μk,h1,h2,h3,h4,h5⟩⟩
  · have hend:=run_endLoop (P:=P) h3 (by rw[hrec];simp)
    have e0:(rec .ready none).pending=none:=by rw[hrec]
    rw[e0] at hend
    refine⟨none,_,hend,μk,_,hdone hIk,hmark h1 (dg.put h3 rfl) h4 ⟨_,h3⟩⟩
  · have hend:=run_endLoop (P:=P) h2 (by rw[hrec];simp)
    have e0:(rec .done (some c)).pending=some c:=by rw[hrec]
    rw[e0] at hend
    refine⟨some c,_,hend,?_⟩
    have hsim:=fun o'=>hmark h1 (dg.put h2 (o':=o') rfl) h3 ⟨_,h2⟩
    rcases h4 with⟨rfl,rfl⟩|⟨id,rfl,rfl⟩
    ·exact wpIn_ret ⟨μk,_,h5,hsim _⟩
    ·exact wpIn_exit ⟨μk,_,h5,hsim _⟩
def Fl (nL:Nat)(sl:SL)(m:ML)(S:SL)(m':ML)(A:Prop):Prop:=Fit nL sl m S m'∧A
theorem Fl.mk {nL:Nat}{sl:SL}{m:ML}{S:SL}{m':ML}{A:Prop}(h:Fit nL sl m S m')(ha:A):Fl nL sl m S m' A:=⟨h,ha⟩
@[reducible] def NR (r : Nat) (S : SL) (m' : ML) (A : Prop) (Q : Exit → SL → ML → Prop) (e : Exit) (sl : SL) (m : ML) : Prop :=
  match e with
  |.normal=>Fl r sl m S m' A
  |.ret=>xJ r sl m S (A:=fun m'=>Q .ret S m')
  |.exit id=>xJ r sl m S (A:=fun m'=>Q (.exit id) S m')
  |_=>False
theorem aU.Eb {P:Program}{N nL:Nat}{sl:SL}{m:ML}{f:Operand}{ps:Array Tmp}{assign body:Code}{Q:Exit→SL→ML→Prop}{g:FuncId}{caps:List AV}{n:Nat}{enc:Nat→List AV}(Γ:cM)(hΓ:Γ.Good P)
    (r:Nat) (S:SL) (M:Nat→ML) (I:Nat→Prop) (hI0:I 0) (hit:Dd P g caps n enc) (hg:ae P g) (h0:Fit nL sl m S (M 0)) (hf:fe S f=.clo (.func g) [] caps)
    (hr:(Nat.ble nL r=true∧Nat.ble r jK=true)∧Jn r S=true) (hlive:∀k,k≤n→wj (M k) r=true) (henc:∀k,k<n→fq (enc k)=fq ps.toList)
    (hps:(tO ps.toList=true∧wZ N ps.toList=true)∧cG assign=true∧cG body=true)
    (round:∀k,k<n→I k→Bw P N r Γ assign (Ji ps.toList (enc k) S) (M k) (fun e sl m=>match e with
      |.normal=>wS r sl m (A:=fun sl m=>Bw P N r Γ body sl m (NR r S (M (k+1)) (I (k+1)) Q))
      |_=>False))
    (hdone:I n→Q .normal S (M n)):aU P N nL sl m (c:=.rangeFunc f ps assign body) (Q:=Q):=by
  refine gz.Eb r S M I hI0 hit hg h0.xq ?_ (fu hr.1.1) (fu hr.1.2) (fun k hk t ht=>oy (hlive k hk) t ht) (AK hr.2) (fun k hk=>?_) (qe hps.1.1) (uf hps.1.2) hps.2.1 hps.2.2 (fun k hk hik=>?_) (fun hin=>⟨S,M n,rfl,hdone hin⟩)
  ·rw[ev_eq];exact hf
  · have:=henc k hk
    rw[cP,cP] at this
    simpa using this
  · rw [←Ap]
    refine(qK hΓ _ _ _ _ (round k hk hik)).mono ?_
    rintro e σ ⟨sl',m',rfl,h⟩
    cases e with
    | normal=>
      refine⟨rfl,fun t ht=>oy h.1 t ht,(qK hΓ _ _ _ _ h.2).mono ?_⟩
      rintro e σ ⟨sl2,m2,rfl,h2⟩
      cases e with
      |normal=>exact⟨Fit.xq h2.1,fun _=>h2.2⟩
      |ret=>obtain⟨m3,h3,h4⟩:=h2;exact⟨⟨m3,h3.xq,S,m3,rfl,h4⟩,fun e=>by cases e⟩
      |exit id=>obtain⟨m3,h3,h4⟩:=h2;exact⟨⟨m3,h3.xq,S,m3,rfl,h4⟩,fun e=>by cases e⟩
      |goto t=>exact h2.elim
      |panic c=>exact h2.elim
      |outgrown=>exact h2.elim
    |ret=>exact h.elim
    |exit id=>exact h.elim
    |goto t=>exact h.elim
    |panic c=>exact h.elim
    |outgrown=>exact h.elim
end Go.Am
