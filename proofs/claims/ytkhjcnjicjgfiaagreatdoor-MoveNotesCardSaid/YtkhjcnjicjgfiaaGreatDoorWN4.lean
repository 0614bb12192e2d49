/- Abstract values and what they say of memory; rules of code over them. By an AI agent. -/
import Derived.Test.YtkhjcnjicjgfiaaGreatDoorWN3
set_option linter.unusedSimpArgs false
set_option linter.unusedVariables false
namespace Go.Am
mutual
/-- Nothing of it lies in memory. -/
def kx:AV→Bool
  |.any=>true
  |.guess _ _=>true
  |.lit _=>true
  |.agg cs=>qE cs
  |.tup cs=>qE cs
  |_=>false
def qE:List AV→Bool
  |[]=>true
  |x::xs=>kx x&&qE xs
end
theorem tX {l:List AV}:qE l=true↔ ∀x∈l,kx x=true:=by
  induction l with
  |nil=>simp[qE]
  |cons x xs ih=>simp[qE,ih]
theorem cE.plain {W W':Nat→Prop}{μ μ':Mu}{w w':World}{x:AV}{v:Value}(h:cE W μ w x v)(hx:kx x=true):cE W' μ' w' x v:=by
  induction h with
  |any=>exact .any
  |guess h1 h2=>exact .guess h1 h2
  |lit=>exact .lit
  |agg a _ ih=>exact .agg a (fun j c v h1 h2=>ih j c v h1 h2 (tX.1 (by simpa[kx] using hx) c (bO h1)))
  |tup a _ ih=>exact .tup a (fun j c v h1 h2=>ih j c v h1 h2 (tX.1 (by simpa[kx] using hx) c (bO h1)))
  |_=>simp[kx] at hx
def aq (P:Program)(f:FuncId):Prop:=∀args w,(callFunc f args).run P w=.ok (.enter f args) w
inductive gu (σ:az) (o:Oper) (f:FuncId):List AV→Prop
  |func {c:Operand} {args:Array Operand} {ts:Array TypeId}:o.op=.call {callee:=.value c,args:=args,argTypes:=ts}→σ.eval c=.lit (.func (.func f) #[] #[])→gu σ o f (args.toList.map σ.eval)
  |clo {c:Operand} {args:Array Operand} {ts:Array TypeId} {first cap:List AV}:o.op=.call {callee:=.value c,args:=args,argTypes:=ts}→σ.eval c=.clo (.func f) first cap→gu σ o f (first++args.toList.map σ.eval++cap)
section
variable {P : Program} {N : Nat} {σ : az} {o : Oper}
theorem gu.run {f:FuncId}{ys:List AV}(h:gu σ o f ys)(hc:aq P f){σ2:az}(he:∀x∈o.op.operands,σ2.eval x=σ.eval x){w0:World}{W0:Nat→Prop}{L μ:Mu}{a:Act}{w:World}
    (hs:cB P N w0 W0 L μ σ2 a w):∃vs:List Value,cH (Wr W0 μ σ2.mem) μ w ys vs∧(execOp a.eval o).run P w=.ok (.enter f vs.toArray) w:=by
  have hargs:∀ (c:Operand) (args:Array Operand) (ts:Array TypeId),o.op=.call {callee:=.value c,args:=args,argTypes:=ts}→cH (Wr W0 μ σ2.mem) μ w (args.toList.map σ.eval) (args.toList.map a.eval):=by
    intro c args ts ho
    refine⟨by simp,fun j x v h1 h2=>?_⟩
    simp only[fI,Option.map_eq_some_iff] at h1 h2
    obtain⟨p,h3,rfl⟩:=h1
    obtain⟨q,h4,rfl⟩:=h2
    rw[h3] at h4;cases h4
    rw[←he p (by simp[ho,Op.operands,Call.operands];exact .inr (by simpa using bO h3))]
    exact hs.eval p
  cases h with
  | @func c args ts ho hcv=>
    refine⟨args.toList.map a.eval,hargs c args ts ho,?_⟩
    have h1:=hs.eval c
    rw[he c (by simp[ho,Op.operands,Call.operands]),hcv] at h1
    have:(args.toList.map a.eval).toArray=args.map a.eval:=by rw[←Array.toList_map]
    rw[this]
    simp[execOp,ho,resolve,h1.val,Deferred.ofValue,invoke,hc _ w]
  | @clo c args ts first cap ho hcv=>
    have h1:=hs.eval c
    rw[he c (by simp[ho,Op.operands,Call.operands]),hcv] at h1
    generalize hv:a.eval c=v at h1
    cases h1 with
    | @clo _ _ _ va vb l1 l2 r1 r2=>
      refine⟨va++args.toList.map a.eval++vb,cH.append (cH.append ⟨l1,r1⟩ (hargs c args ts ho)) ⟨l2,r2⟩,?_⟩
      have:(va++args.toList.map a.eval++vb).toArray=va.toArray++args.map a.eval++vb.toArray:=by
        apply Array.ext';simp
      rw[this]
      simp[execOp,ho,resolve,hv,Deferred.ofValue,invoke,hc _ w]
def tY (μ:Mu)(T:List Nat)(b:Nat):Prop:=∃t∈T,∃B,μ t=some B∧B.b=b∧B.virt=false
theorem lV {w0:World}{W0:Nat→Prop}{L μ:Mu}{a:Act}{w:World}(hs:cB P N w0 W0 L μ σ a w)(T:List Nat):
    cB P 0 w (fun b=>Wr W0 μ σ.mem b∧¬tY μ T b) (fun _=>none) (fun _=>none) (bare []) iH w where
  tabs:=hs.qm (fun b h=>by obtain⟨_,_,h,_⟩:=h;cases h)
  tsize:=rfl
  defers:=.nil
  os:=rfl
  tape:=rfl
  output:=rfl
  hsize:=Nat.le_refl _
  shp _ _ _ h:=h
  keep _ _ _:=rfl
  w0lt b hb:=by
    rcases hb.1 with h|⟨t,B,wd,rows,h1,h2,rfl,h4⟩
    ·exact jT (hs.w0lt b h) hs.hsize
    ·exact hs.dO h1 h2 h4
  lentμ t B _ h:=by cases h
  free t:=by simp[bare,aG]
  slots i:=.any
  objs t wd rows ro h:=by simp[bare,aG] at h
  inj t t' wd rows wd' rows' ro' B B' _ h:=by simp[bare,aG] at h
  out t wd rows ro B h:=by simp[bare,aG] at h
theorem Cv.congr {m m2:Nat→MS}{ρ:Nat→Nat}{D F:Nat→Prop}(hm:∀t,F t→m2 t=m t){x y:AV}(h:Cv m ρ D F x y):Cv m2 ρ D F x y:=by
  induction h with
  |any=>exact .any
  |same h=>exact .same h
  |own h=>exact .own h
  |ptr h=>exact .ptr h
  |mapr h=>exact .mapr h
  |fmap a b c d e f ih=>exact .fmap a (by rw[hm _ a];exact b) c d (fun i key key' x' x h1 h2=>ih i key key' x' x h1 h2) f
  |nil=>exact .nil
  |nilE=>exact .nilE
  |empS=>exact .empS
  |frz a b c d e _ g ih=>exact .frz a (by rw[hm _ a];exact b) c d e (fun q c d h1 h2=>ih q c d h1 h2) g
  |frzp a b c d _ g ih=>exact .frzp a (by rw[hm _ a];exact b) c d (fun q c d h1 h2=>ih q c d h1 h2) g
  |agg a _ ih=>exact .agg a (fun q c d h1 h2=>ih q c d h1 h2)
  |tup a _ ih=>exact .tup a (fun q c d h1 h2=>ih q c d h1 h2)
  |clo a b _ _ ih1 ih2=>exact .clo a b (fun q c d h1 h2=>ih1 q c d h1 h2) (fun q c d h1 h2=>ih2 q c d h1 h2)
theorem ku {w0:World}{W0:Nat→Prop}{L μ:Mu}{a:Act}{w:World}(hs:cB P N w0 W0 L μ σ a w){T:List Nat}{args ys:List AV}{vs:List Value}
    (hargs:gR σ.mem id (fun _=>False) (· ∈T) args ys) (hr:cH (Wr W0 μ σ.mem) μ w ys vs):
    cH (Wr (fun b=>Wr W0 μ σ.mem b∧¬tY μ T b) (fun _=>none) (aG [])) (fun _=>none) w args vs:=by
  refine⟨by rw[hr.1,hargs.1],fun j c v h1 h2=>?_⟩
  have hj:=(aY h1).1
  have hy:ys[j]? =some (ys[j]'(by rw[←hargs.1];exact hj)):=bD _
  refine(hargs.2 j c _ h1 hy).rep hs.objs (fun b _ hb=>?_) (fun t h=>h.elim) (fun s B hF hB hv hb=>?_) (hr.2 j _ v hy h2)
  · rcases hb with h|⟨t,B,wd,rows,h1,_⟩
    ·exact h.1
    ·simp[aG] at h1
  · rcases hb with h|⟨t,B,wd,rows,h1,_⟩
    ·exact h.2 ⟨s,hF,B,hB,rfl,hv⟩
    ·simp[aG] at h1
theorem aH.D0 {f:FuncId}{ys args:List AV}{res:AV}(T:List Nat)(hto:gu σ o f ys)(hc:aq P f)(hargs:gR σ.mem id (fun _=>False) (· ∈T) args ys)(hf:ak P f [] args [] res)
    (hp:kx res=true) (hd:∀d,o.dst=some d→d<N):aH P N o σ T res []:=by
  intro σ2 he2 hrd w0 W0 L μ a w K Q hs hK
  obtain⟨vs,h1,h2⟩:=hto.run hc he2 hs
  have hargs2:gR σ2.mem id (fun _=>False) (· ∈T) args ys:=⟨hargs.1,fun q c d a b=>(hargs.2 q c d a b).congr (fun t ht=>hrd t ht)⟩
  have hcall:=hf w _ (fun _=>none) vs (fun _ _=>rfl) (lV hs T) (ku hs hargs2 h1)
  unfold Oper.wp
  rw[h2]
  simp only[Oper.upon]
  refine Calls.mono hcall ?_
  rintro e w' ⟨v,μ',rfl,hs',hv⟩
  refine hK μ _ _ ?_
  have jX:∀b,b<w.heap.size→w'.heap[b]? =w.heap[b]? :=fun b hb=>hs'.keep b hb (by rintro⟨t,B,h,_⟩;cases h)
  have shape:∀b e n,w.shape? b=some (e,n)→w'.shape? b=some (e,n):=fun b e n h=>by
    have hb:b<w.heap.size:=by
      rcases Nat.lt_or_ge b w.heap.size with h'|h'
      ·exact h'
      ·simp[World.shape?,Array.getElem?_eq_none h'] at h
    simpa[World.shape?,jX b hb] using h
  have old:∀t wd rows ro B,σ2.mem t=.live wd rows ro→μ t=some B→B.virt=false→w.heap.size≤B.b∨∃t1 wd1 rows1 ro1 B1,σ2.mem t1=.live wd1 rows1 ro1∧μ t1=some B1∧B1.b=B.b∧B1.virt=false∧(ro=false→ro1=false):=
    fun t wd rows ro B h1 h2 h3=>.inr ⟨t,wd,rows,ro,B,h1,h2,rfl,h3,id⟩
  have g:=hs.grow (m':=σ2.mem) (μ':=μ) hs'.hsize (fun b hb _=>jX b hb) shape (fun _ _ h=>h) (eX old)
  have:=hs.step (m':=σ2.mem) (μ':=μ) hs'.hsize hs'.os hs'.tape hs'.output (fun b hb _=>jX b hb) shape (fun _ _ h=>h) old hs.free
    (fun t wd rows ro h=>let⟨B,h1,h2⟩:=hs.objs t wd rows ro h;⟨B,h1,h2.grow g fun hv=>jX _ (hs.dO h h1 hv)⟩) hs.inj
  exact this.put (hv.plain hp) hd
def lJ:MS→MS
  |.live wd rows _=>.live wd rows true
  |s=>s
theorem BH {m m0:Nat→MS}{T:List Nat}{t:Nat}:bk m (T.map fun t=>(t,lJ (m0 t))) t=if t∈T then lJ (m0 t) else m t:=by
  induction T with
  |nil=>simp[bk]
  |cons x r ih=>simp only[List.map_cons,bk,ih,dU];by_cases h:t=x<;>simp[h]
theorem vi {m:Nat→MS}{base:Nat}:∀ {news:List MS} {t:Nat},bk m (news.zipIdx.map fun p=>(base+p.2,p.1)) t=if base≤t then(news[t-base]?).getD (m t) else m t:=by
  have key:∀ (news:List MS) (n:Nat) (t:Nat),bk m ((news.zipIdx n).map fun p=>(base+p.2,p.1)) t=if base+n≤t then(news[t- (base+n)]?).getD (m t) else m t:=by
    intro news
    induction news with
    |nil=>intro n t;simp[bk]
    | cons s r ih=>
      intro n t
      simp only[List.zipIdx_cons,List.map_cons,bk,ih]
      by_cases h1:t=base+n
      ·subst h1;simp
      · rw[if_neg h1]
        by_cases h2:base+ (n+1)≤t
        ·rw[if_pos h2,if_pos (show base+n≤t by omega),show t- (base+n)=(t- (base+ (n+1)))+1 from by omega,List.getElem?_cons_succ]
        ·rw[if_neg h2,if_neg (show ¬base+n≤t by omega)]
  intro news t
  have:=key news 0 t
  simpa using this
theorem aH.DU {f:FuncId}{ys args:List AV}{outs news:List MS}{res x:AV}{base:Nat}(T:List Nat)(hto:gu σ o f ys)(hc:aq P f)(hargs:gR σ.mem id (fun _=>False) (· ∈T) args ys)
    (hT:∀t∈T,∃wd rows ro,σ.mem t=.live wd rows ro) (hf:ak P f [] args outs res) (hfree:∀k,k<outs.length→σ.mem (base+k)=.free) (hlen:news.length=outs.length)
    (hnews:∀ (k:Nat) (s:MS),news[k]? =some s→∃wd rows rows0,s=.live wd rows false∧outs[k]? =some (.live wd rows0 false)∧bG wd rows∧gR (aG outs) (· -base) (fun t=>base≤t∧t-base<outs.length) (fun _=>False) rows rows0)
    (hx:Cv (aG outs) (· -base) (fun t=>base≤t∧t-base<outs.length) (fun _=>False) x res) (hd:∀d,o.dst=some d→d<N):
    aH P N o σ (T++ (List.range outs.length).map (base+ ·)) x ((news.zipIdx.map fun p=>(base+p.2,p.1))++T.map fun t=>(t,lJ (σ.mem t))):=by
  intro σ2 he2 hrd w0 W0 L μ a w K Q hs hK
  obtain⟨vs,h1,h2⟩:=hto.run hc he2 hs
  have hrdT:∀t∈T,σ2.mem t=σ.mem t:=fun t ht=>hrd t (by simp[ht])
  have hfree2:∀k,k<outs.length→σ2.mem (base+k)=.free:=fun k hk=>by
    rw[hrd (base+k) (by simp[hk])];exact hfree k hk
  have hargs2:gR σ2.mem id (fun _=>False) (· ∈T) args ys:=⟨hargs.1,fun q c d a b=>(hargs.2 q c d a b).congr hrdT⟩
  have hcall:=hf w _ (fun _=>none) vs (fun _ _=>rfl) (lV hs T) (ku hs hargs2 h1)
  unfold Oper.wp
  rw[h2]
  simp only[Oper.upon]
  refine Calls.mono hcall ?_
  rintro e w' ⟨v,μ',rfl,hs',hv⟩
  -- the state behind the call
  have hro:(T.map fun t=>(t,lJ (σ.mem t)))=T.map fun t=>(t,lJ (σ2.mem t)):=List.map_congr_left fun t ht=>by rw[hrdT t ht]
  rw[hro] at hK
  generalize hm2:bk σ2.mem ((news.zipIdx.map fun p=>(base+p.2,p.1))++T.map fun t=>(t,lJ (σ2.mem t)))=m2 at*
  have isNew:∀t,(base≤t∧t-base<outs.length)∨¬ (base≤t∧t-base<outs.length):=fun t=>Classical.em _
  have m2new:∀t,base≤t∧t-base<outs.length→∃wd rows rows0,m2 t=.live wd rows false∧aG outs (t-base)=.live wd rows0 false∧bG wd rows∧gR (aG outs) (· -base) (fun t=>base≤t∧t-base<outs.length) (fun _=>False) rows rows0:=by
    intro t ⟨ht1,ht2⟩
    have hk:news[t-base]? =some (news[t-base]'(by rw[hlen];exact ht2)):=bD _
    obtain⟨wd,rows,rows0,e1,e2,e3,e4⟩:=hnews _ _ hk
    refine⟨wd,rows,rows0,?_,by simp[aG,e2],e3,e4⟩
    rw[←hm2,kH,vi,if_pos ht1,hk,Option.getD_some,e1]
  have m2old:∀t,¬ (base≤t∧t-base<outs.length)→m2 t=if t∈T then lJ (σ2.mem t) else σ2.mem t:=by
    intro t ht
    rw[←hm2,kH,vi,BH]
    by_cases hb:base≤t
    ·rw[if_pos hb,mD (by rw[hlen];exact Nat.le_of_not_lt fun h=>ht ⟨hb,h⟩)];rfl
    ·rw[if_neg hb]
  have freeNew:∀t,base≤t∧t-base<outs.length→σ2.mem t=.free:=fun t ht=>by
    have:=hfree2 (t-base) ht.2
    rwa [show base+ (t-base)=t from by omega] at this
  classical
  let μ2:Mu:=fun t=>if base≤t∧t-base<outs.length then μ' (t-base) else μ t
  have μnew:∀t,base≤t∧t-base<outs.length→μ2 t=μ' (t-base):=fun t h=>if_pos h
  have μold:∀t,¬ (base≤t∧t-base<outs.length)→μ2 t=μ t:=fun t h=>if_neg h
  have noLent:∀b,¬so (fun _=>none) b:=by rintro b ⟨t,B,h,_⟩;cases h
  have jX:∀b,b<w.heap.size→w'.heap[b]? =w.heap[b]? :=fun b hb=>hs'.keep b hb (noLent b)
  have shape:∀b e n,w.shape? b=some (e,n)→w'.shape? b=some (e,n):=fun b e n h=>by
    have hb:b<w.heap.size:=by
      rcases Nat.lt_or_ge b w.heap.size with h'|h'
      ·exact h'
      ·simp[World.shape?,Array.getElem?_eq_none h'] at h
    simpa[World.shape?,jX b hb] using h
  have mu:∀t B,μ t=some B→μ2 t=some B:=fun t B h=>by
    rcases isNew t with hn|hn
    · have:=(hs.free t).1 (freeNew t hn)
      rw[this] at h;cases h
    ·rw[μold t hn];exact h
  have oldlive:∀t wd rows ro,¬ (base≤t∧t-base<outs.length)→m2 t=.live wd rows ro→∃ro',σ2.mem t=.live wd rows ro'∧(ro=false→ro'=false∧t∉T):=by
    intro t wd rows ro hn h
    rw[m2old t hn] at h
    split at h
    · rename_i hT'
      cases hmt:σ2.mem t with
      | live wd' rows' ro'=>
        rw[hmt] at h;simp only[lJ] at h;cases h
        exact⟨ro',rfl,fun h=>by cases h⟩
      |free=>rw[hmt] at h;cases h
      |dead=>rw[hmt] at h;cases h
    ·rename_i hT';exact⟨ro,h,fun h'=>⟨h',hT'⟩⟩
  have newge:∀t B wd rows,aG outs (t-base)=.live wd rows false→μ' (t-base)=some B→B.virt=false→w.heap.size≤B.b:=by
    intro t B wd rows h3 h4 h5
    rcases(hs'.out _ _ _ _ B h3 h4 h5).2 rfl with h|h
    ·exact h
    ·exact absurd h (noLent _)
  have old:∀t wd rows ro B,m2 t=.live wd rows ro→μ2 t=some B→B.virt=false→w.heap.size≤B.b∨∃t1 wd1 rows1 ro1 B1,σ2.mem t1=.live wd1 rows1 ro1∧μ t1=some B1∧B1.b=B.b∧B1.virt=false∧(ro=false→ro1=false):=by
    intro t wd rows ro B h3 h4 h5
    rcases isNew t with hn|hn
    · obtain⟨wd',rows',rows0,e1,e2,_⟩:=m2new t hn
      rw[μnew t hn] at h4
      exact .inl (newge t B _ _ e2 h4 h5)
    · obtain⟨ro',e1,e2⟩:=oldlive t wd rows ro hn h3
      rw[μold t hn] at h4
      exact .inr ⟨t,wd,rows,ro',B,e1,h4,rfl,h5,fun h=>(e2 h).1⟩
  have g:=hs.grow (m':=m2) (μ':=μ2) hs'.hsize (fun b hb _=>jX b hb) shape mu (eX old)
  -- what the callee says, in this frame's words
  have hW:∀b,b<w'.heap.size→Wr W0 μ2 m2 b→Wr (fun b=>Wr W0 μ σ2.mem b∧¬tY μ T b) μ' (aG outs) b:=by
    rintro b hb (h|⟨t,B,wd,rows,h3,h4,rfl,h5⟩)
    · refine .inl ⟨.inl h,?_⟩
      rintro⟨s,hs1,B,hB,rfl,hv'⟩
      obtain⟨wd,rows,ro,hl⟩:=hT s hs1
      exact(hs.out s wd rows ro B (by rw[hrdT s hs1];exact hl) hB hv').1 h
    · rcases isNew t with hn|hn
      · obtain⟨wd',rows',rows0,e1,e2,_⟩:=m2new t hn
        rw[μnew t hn] at h4
        exact .inr ⟨t-base,B,wd',rows0,e2,h4,rfl,h5⟩
      · obtain⟨ro',e1,e2⟩:=oldlive t wd rows false hn h3
        obtain⟨rfl,hnT⟩:=e2 rfl
        rw[μold t hn] at h4
        refine .inl ⟨.inr ⟨t,B,wd,rows,e1,h4,rfl,h5⟩,?_⟩
        rintro⟨s,hs1,B',hB,hbe,hv'⟩
        obtain⟨wd',rows',ro,hl⟩:=hT s hs1
        exact hs.inj t s wd rows wd' rows' ro B B' (fun e=>hnT (e▸hs1)) e1 (by rw[hrdT s hs1];exact hl) h4 hB h5 hv' hbe.symm
  have hrep:∀x y v,Cv (aG outs) (· -base) (fun t=>base≤t∧t-base<outs.length) (fun _=>False) x y→cE (Wr (fun b=>Wr W0 μ σ2.mem b∧¬tY μ T b) μ' (aG outs)) μ' w' y v→cE (Wr W0 μ2 m2) μ2 w' x v:=
    fun x y v hcv hy=>hcv.rep hs'.objs hW (fun t ht=>μnew t ht) (fun s B h=>h.elim) hy
  have hstep:=hs.step (m':=m2) (μ':=μ2) hs'.hsize hs'.os hs'.tape hs'.output (fun b hb _=>jX b hb) shape mu old (fun t=>by
      rcases isNew t with hn|hn
      · obtain⟨wd,rows,rows0,e1,e2,_⟩:=m2new t hn
        rw[μnew t hn,e1]
        have:=(hs'.free (t-base))
        simp only[bare,e2] at this
        constructor
        ·intro h;cases h
        ·intro h;exact absurd (this.2 h) (by intro h;cases h)
      · rw[μold t hn,m2old t hn,←hs.free t]
        split
        ·cases hmt:σ2.mem t<;>simp[lJ]
        ·rfl)
    (fun t wd rows ro h3=>by
      rcases isNew t with hn|hn
      · obtain⟨wd',rows',rows0,e1,e2,e3,e4⟩:=m2new t hn
        rw[e1] at h3;cases h3
        obtain⟨B,hB,hobj⟩:=hs'.objs (t-base) _ _ _ e2
        exact⟨B,by rw[μnew t hn];exact hB,hobj.cv e4 e3 (fun _=>rfl) hrep⟩
      · obtain⟨ro',e1,e2⟩:=oldlive t wd rows ro hn h3
        obtain⟨B,hB,hobj⟩:=hs.objs t wd rows ro' e1
        refine⟨B,by rw[μold t hn];exact hB,?_⟩
        have:=hobj.grow g fun hv'=>jX _ (hs.dO e1 hB hv')
        cases ro with
        |true=>exact this.ro
        |false=>rw[(e2 rfl).1] at this;exact this)
    (by
      intro t t' wd rows wd' rows' ro' B B' hne h3 h4 h5 h6 v1 v2
      rcases isNew t with hn|hn<;>rcases isNew t' with hn'|hn'
      · obtain⟨_,_,_,e1,e2,_⟩:=m2new t hn
        obtain⟨_,_,_,f1,f2,_⟩:=m2new t' hn'
        rw[μnew t hn] at h5;rw[μnew t' hn'] at h6
        exact hs'.inj (t-base) (t'-base) _ _ _ _ _ B B' (fun e=>hne (by have:=hn.1;have:=hn'.1;omega)) e2 f2 h5 h6 v1 v2
      · obtain⟨_,_,_,e1,e2,_⟩:=m2new t hn
        obtain⟨_,f1,_⟩:=oldlive t' _ _ _ hn' h4
        rw[μnew t hn] at h5;rw[μold t' hn'] at h6
        have:=newge t B _ _ e2 h5 v1
        have:=hs.dO f1 h6 v2
        omega
      · obtain⟨_,e1,e2⟩:=oldlive t _ _ _ hn h3
        obtain⟨_,_,_,f1,f2,_⟩:=m2new t' hn'
        rw[μold t hn] at h5;rw[μnew t' hn'] at h6
        have:=newge t' B' _ _ f2 h6 v2
        have:=hs.dO e1 h5 v1
        omega
      · obtain⟨_,e1,e2⟩:=oldlive t _ _ _ hn h3
        obtain⟨_,f1,_⟩:=oldlive t' _ _ _ hn' h4
        rw[μold t hn] at h5;rw[μold t' hn'] at h6
        rw[(e2 rfl).1] at e1
        exact hs.inj t t' _ _ _ _ _ B B' hne e1 f1 h5 h6 v1 v2)
  refine hK μ2 _ _ ?_
  have:=hstep.put (hrep x res v hx hv) hd
  unfold az.zV
  rw[hm2]
  exact this
theorem ga.ghost {nL:Nat}{c:Code}{Q:Exit→az→Prop}{d t:Nat}(wd:Nat)(hd:σ.slots d=.lit (.slice none 0 0)∨σ.slots d=.emp)(ht:σ.mem t=.free)(h:ga P N nL c Q (σ.zV (some d) (.own t 0 0) [(t,.live wd [] false)])):ga P N nL c Q σ:=by
  intro rd hp w0 W0 L μ a w hL hs
  have h1:=hs.nE (t:=t) (wd:=wd) ht
  have hv:∃ad,a.tmps.getD d undef=.slice ad 0 0:=by
    have:=hs.slots d
    generalize a.tmps.getD d undef=v at this
    rcases hd with hd|hd<;>(rw[hd] at this;cases this;exact⟨_,rfl⟩)
  obtain⟨ad,hv⟩:=hv
  refine h rd hp w0 W0 L _ a w hL {h1 with slots:=fun i=>?_}
  simp only[az.zV,dg]
  by_cases hi:i=d
  · subst hi
    rw[if_pos rfl,hv]
    exact .ownNil (B:=⟨0,0,wd,true,false⟩) (by simp[bq])
  ·rw[if_neg hi];exact h1.slots i
def qt (P:Program)(σ:az):ResultVar→AV→Prop
  |.tmp t,x=>σ.slots t=x
  |.cell a t,x=> ∃tk i k wd rows ro r,σ.slots a=.ptr tk i k∧σ.mem tk=.live wd rows ro∧rows[i]? =some r∧oe P t r k x
def wS:List AV→AV
  |[x]=>x
  |xs=>.tup xs
def pY (P:Program)(nL:Nat)(rvs:List ResultVar)(σ:az)(outs:List MS)(res:AV):Prop:=
  ∃ xs:List AV,xs.length=rvs.length∧(∀ (j:Nat) (rv:ResultVar) (x:AV),rvs[j]? =some rv→xs[j]? =some x→qt P σ rv x)∧
    ∃ρ F,nv nL ρ F (bare outs) σ∧Cv σ.mem ρ (fun t=>(bare outs).mem t≠ .free) F res (wS xs)
theorem qt.run {w0:World}{W0:Nat→Prop}{L μ:Mu}{a:Act}{w:World}(hs:cB P N w0 W0 L μ σ a w){rv:ResultVar}{x:AV}(h:qt P σ rv x):
    ∃v,(match rv with|.tmp t=>(pure (a.tmps.getD t undef):Sem Value)|.cell c t=>do loadVar t (←asAddr (a.tmps.getD c undef))).run P w=.ok v w∧cE (Wr W0 μ σ.mem) μ w x v:=by
  cases rv with
  |tmp t=>simp only[qt] at h;exact⟨_,rfl,by rw[←h];exact hs.slots t⟩
  | cell c t=>
    obtain⟨tk,i,k,wd,rows,ro,r,h1,h2,h3,h4⟩:=h
    have hc:=hs.slots c
    rw[h1] at hc
    obtain⟨B,hB,hobj⟩:=hs.objs tk wd rows ro h2
    generalize hv:a.tmps.getD c undef=v at hc
    cases hc with
    | ptr a1 ap=>
      rw[hB] at a1;cases a1
      obtain⟨v,k1,k2⟩:=h4.run (b:=B.b) (q0:=B.o+i*B.wd) (w:=w) (fun q c hq=>by
        obtain⟨v,v1,v2⟩:=hobj.cell ap _ c (eE hobj.wide h3 hq)
        exact⟨v,by rw[hobj.width,Nat.add_assoc];exact v1,v2⟩)
      refine⟨v,?_,k2⟩
      rw[Nat.add_assoc] at k1
      simp only[Sem.run_bind,hv,asAddr,Sem.run_pure,Result.andThen_ok,k1]
theorem rF {w0:World}{W0:Nat→Prop}{L μ:Mu}{a:Act}{w:World}(hs:cB P N w0 W0 L μ σ a w){fn:Func}{xs:List AV}(hl:xs.length=fn.results.toList.length)
    (h:∀ (j:Nat) (rv:ResultVar) (x:AV),fn.results.toList[j]? =some rv→xs[j]? =some x→qt P σ rv x):∃v,(results fn a.tmps).run P w=.ok v w∧cE (Wr W0 μ σ.mem) μ w (wS xs) v:=by
  have key:∀ (rvs:List ResultVar) (xs:List AV),xs.length=rvs.length→(∀ (j:Nat) (rv:ResultVar) (x:AV),rvs[j]? =some rv→xs[j]? =some x→qt P σ rv x)→
      ∃vs,(rvs.mapM (m:=Sem) fun|.tmp t=>pure (a.tmps.getD t undef)|.cell c t=>do loadVar t (←asAddr (a.tmps.getD c undef))).run P w=.ok vs w∧cH (Wr W0 μ σ.mem) μ w xs vs:=by
    intro rvs
    induction rvs with
    | nil=>
      intro xs hl _
      have:xs=[]:=List.eq_nil_of_length_eq_zero hl
      subst this
      exact⟨[],rfl,.nil⟩
    | cons rv rvs ih=>
      intro xs hl h
      cases xs with
      |nil=>simp at hl
      | cons x xs=>
        obtain⟨v,h1,h2⟩:=qt.run hs (h 0 rv x rfl rfl)
        obtain⟨vs,h3,h4⟩:=ih xs (by simpa using hl) (fun j rv x a b=>h (j+1) rv x (by simpa using a) (by simpa using b))
        refine⟨v::vs,?_,.cons h2 h4⟩
        simp only[List.mapM_cons,Sem.run_bind,h1,Result.andThen_ok,h3,Sem.run_pure]
  obtain⟨vs,h1,h2⟩:=key fn.results.toList xs hl h
  have hm:(fn.results.mapM (m:=Sem) fun|.tmp t=>pure (a.tmps.getD t undef)|.cell c t=>do loadVar t (←asAddr (a.tmps.getD c undef))).run P w=.ok vs.toArray w:=by
    have:=Array.mapM_eq_mapM_toList (m:=Sem) (f:=fun|ResultVar.tmp t=>pure (a.tmps.getD t undef)|.cell c t=>do loadVar t (←asAddr (a.tmps.getD c undef))) (xs:=fn.results)
    rw[this]
    simp only[Sem.run_map,h1,Result.andThen_ok]
  have hres:results fn a.tmps=(do
      let vs ←fn.results.mapM (m:=Sem) (fun|.tmp t=>pure (a.tmps.getD t undef)|.cell c t=>(do loadVar t (←asAddr (a.tmps.getD c undef))))
      pure (if h:vs.size=1 then vs[0] else .tuple vs)):=rfl
  rw[hres]
  simp only[Sem.run_bind,hm,Result.andThen_ok,Sem.run_pure]
  refine⟨_,rfl,?_⟩
  cases vs with
  | nil=>
    have:xs=[]:=List.eq_nil_of_length_eq_zero (by rw[←h2.1];rfl)
    subst this
    exact .tup rfl h2.2
  | cons v vs=>
    cases vs with
    | nil=>
      cases xs with
      |nil=>simp[cH] at h2
      | cons x xs=>
        have:xs=[]:=List.eq_nil_of_length_eq_zero (by have:=h2.1;simp only[List.length_cons,List.length_nil] at this;omega)
        subst this
        simpa[wS] using h2.2 0 x v rfl rfl
    | cons v' vs=>
      cases xs with
      |nil=>simp[cH] at h2
      | cons x xs=>
        cases xs with
        |nil=>simp[cH] at h2
        |cons x' xs=>simpa[wS] using cE.tup h2.1 h2.2
end
inductive TI where
  |sc (z:Value)
  |bl
  |st (n:Nat) (fs:List (Nat×TypeId)) (z:Array Value) (szs:List Nat)
  |ar (n len:Nat) (e:TypeId) (wd:Nat) (z:Array Value)
  |sl (e:TypeId) (wd bytes:Nat)
  |str
  deriving Inhabited
def TI.ok (P:Program)(t:TypeId):TI→Prop
  |.sc z=>jt P t∧eM P t 1∧jj P t z
  |.bl=>jt P t∧eM P t 1∧jj P t (.bool false)∧P.underlying t=some .bool
  |.st n fs z szs=>Da P t∧eM P t n∧jj P t (.agg z)∧(∀ (f off:Nat) (ft:TypeId),fs[f]? =some (off,ft)→pB P t f off∧sE P t f off ft)∧
      s4 P t z (fun i=>match fs[i]?,szs[i]? with|some (off,_),some sz=>some (off,sz)|_,_=>none)
  |.ar n len e wd z=>Da P t∧eM P t n∧jj P t (.agg z)∧Ai P t len e∧eM P e wd
  |.sl e wd bytes=>jt P t∧eM P t 1∧jj P t (.slice none 0 0)∧eM P e wd∧∃i z,zH P t e wd bytes i z
  |.str=>jt P t∧eM P t 1∧jj P t (.string ByteArray.empty)∧P.underlying t=some .string
abbrev cQ:=List (Nat×TI)
def dm:cQ→Nat→Option TI
  |[],_=>none
  |(d,x)::r,i=>bif i==d then some x else dm r i
def cQ.Good (P:Program)(Γ:cQ):Prop:=∀p∈Γ,TI.ok P p.1 p.2
theorem Dc {Γ:cQ}{t:Nat}{x:TI}(h:dm Γ t=some x):(t,x)∈Γ:=by
  induction Γ with
  |nil=>cases h
  | cons p r ih=>
    obtain⟨d,y⟩:=p
    simp only[dm] at h
    cases hb:t==d with
    | true=>
      have:t=d:=by simpa using hb
      subst this
      rw[hb] at h;simp at h;subst h;simp
    |false=>rw[hb] at h;exact eP _ (ih h)
theorem cQ.Good.look {P:Program}{Γ:cQ}(h:Γ.Good P){t:Nat}{x:TI}(hx:dm Γ t=some x):TI.ok P t x:=h _ (Dc hx)
def ct:List (Nat×AV)→Nat→AV
  |[],_=>.any
  |(d,x)::r,i=>bif i==d then x else ct r i
def aR:List (Nat×MS)→Nat→MS
  |[],_=>.free
  |(d,x)::r,i=>bif i==d then x else aR r i
def St (sl:List (Nat×AV))(m:List (Nat×MS)):az:=⟨ct sl,aR m⟩
def qg (dst:Option Nat)(x:AV)(sl:List (Nat×AV)):List (Nat×AV):=
  match dst with
  |none=>sl
  |some d=>(d,x)::sl
def jg (sl:List (Nat×AV)):Operand→AV
  |.tmp t=>ct sl t
  |.const v=>.lit v
  |.global g=>.lit (.pointer (some ⟨g,0,none⟩))
  |.func f=>.lit (.func (.func f) #[] #[])
theorem fA (sl:List (Nat×AV))(m:List (Nat×MS))(x:Operand):(St sl m).eval x=jg sl x:=by cases x<;>rfl
theorem uA (sl:List (Nat×AV))(m ups:List (Nat×MS))(dst:Option Nat)(x:AV):(St sl m).zV dst x ups=St (qg dst x sl) (ups++m):=by
  unfold St az.zV
  congr 1
  · cases dst with
    |none=>rfl
    | some d=>
      funext i
      simp only[dg,qg,ct]
      by_cases h:i=d
      ·simp[h]
      · have h':(i==d)=false:=by simpa using h
        rw[if_neg h,h'];rfl
  · induction ups with
    |nil=>rfl
    | cons p r ih=>
      obtain⟨t,s⟩:=p
      funext u
      simp only[bk,List.cons_append,aR]
      rw[ih]
      by_cases h:u=t
      ·simp[h]
      · have h':(u==t)=false:=by simpa using h
        rw[if_neg h,h'];rfl
abbrev Tk:=List (List Nat×List Nat)
def xb:BinOp→Value→Value→Option Value
  |.add,.int k a,.int k' b=>if k=k' then some (.int k (k.wrap (a+b))) else none
  |.sub,.int k a,.int k' b=>if k=k' then some (.int k (k.wrap (a-b))) else none
  |.lss,.int k a,.int k' b=>if k=k' then some (.bool (decide (a<b))) else none
  |.leq,.int k a,.int k' b=>if k=k' then some (.bool (decide (a≤b))) else none
  |.gtr,.int k a,.int k' b=>if k=k' then some (.bool (decide (b<a))) else none
  |.geq,.int k a,.int k' b=>if k=k' then some (.bool (decide (b≤a))) else none
  |.eql,.int k a,.int k' b=>if k=k' then some (.bool (a==b)) else none
  |.neq,.int k a,.int k' b=>if k=k' then some (.bool (!(a==b))) else none
  |.eql,.string a,.string b=>some (.bool (a.toList==b.toList))
  |.neq,.string a,.string b=>some (.bool (!(a.toList==b.toList)))
  |_,_,_=>none
def Fe:BinOp→Value→Value→Option Value
  |.eql,.bool a,.bool b=>some (.bool (a==b))
  |.neq,.bool a,.bool b=>some (.bool (!(a==b)))
  |_,_,_=>none
def rV (ti:Option TI)(r:AV)(k:Nat):Option AV:=
  match ti with
  |some (.sc _)=>(cells r)[k]?
  |some .bl=>(cells r)[k]?
  |some (.sl ..)=>(cells r)[k]?
  |some .str=>(cells r)[k]?
  |some (.st n ..)=>if k=0∧(cells r).length=n∧kO r=true then some r else if k+n≤ (cells r).length then some (.agg (((cells r).drop k).take n)) else none
  |some (.ar n ..)=>if k=0∧(cells r).length=n∧kO r=true then some r else if k+n≤ (cells r).length then some (.agg (((cells r).drop k).take n)) else none
  |none=>none
def zL:Option TI→Option Nat
  |some (.sc _)=>some 1
  |some .bl=>some 1
  |some (.sl ..)=>some 1
  |some .str=>some 1
  |some (.st n ..)=>some n
  |some (.ar n ..)=>some n
  |none=>none
def n5:Option TI→Option AV
  |some (.sc z)=>match z with|.agg _=>none|z=>some (.lit z)
  |some .bl=>some (.lit (.bool false))
  |some (.sl ..)=>some (.lit (.slice none 0 0))
  |some .str=>some (.lit (.string ByteArray.empty))
  |some (.st _ _ z _)=>some (.agg (z.toList.map .lit))
  |some (.ar _ _ _ _ z)=>some (.agg (z.toList.map .lit))
  |none=>none
def tM (ti:Option TI)(r:AV)(k:Nat)(x:AV):Option AV:=
  match zL ti with
  |some n=>if(cells x).length=n∧kP (cells x)=true∧x.mw=true then
      (if(cells r).length=n∧k=0 then some x else if k+n≤ (cells r).length then some (.agg (fu (cells r) k (cells x))) else none) else none
  |none=>none
def G0 (Γ:cQ)(sl:List (Nat×AV))(c:Call):Option (List Nat×AV×List (Nat×MS)):=
  match c.callee,c.args.toList,c.argTypes.toList with
  | .builtin .len,[y],[t]=>(match dm Γ t with
    | some (.sl ..)=>match jg sl y with
      |.own _ _ n=>some ([],.lit (.int .i64 n),[])
      |.sl _ rows=>some ([],.lit (.int .i64 rows.length),[])
      |.lit (.slice _ n _)=>some ([],.lit (.int .i64 n),[])
      |_=>none
    | some .str=>match jg sl y with
      |.lit (.string s)=>some ([],.lit (.int .i64 s.size),[])
      |_=>none
    |_=>none)
  |_,_,_=>none
def qA (op:BinOp)(ti:Option TI)(n:Nat):Option (List Nat×AV×List (Nat×MS)):=
  match ti,op with
  |some (.sl ..),.eql=>some ([],.guess (n=0) True,[])
  |some (.sl ..),.neq=>some ([],.guess True (n=0),[])
  |_,_=>none
def ep (Γ:cQ)(sl:List (Nat×AV))(m:List (Nat×MS))(dst:Option Nat)(op:Op):Option (List Nat×AV×List (Nat×MS)):=
  match op with
  |.move y=>some ([],jg sl y,[])
  |.assign y=>some ([],jg sl y,[])
  | .pick c y z=>match jg sl c with
    |.lit (.bool b)=>some ([],if b then jg sl y else jg sl z,[])
    |_=>none
  | .extract y i=>match jg sl y with
    |.tup vs=>(vs[i]?).map fun x=>([],x,[])
    |_=>none
  | .field t y f=>match jg sl y,dm Γ t with
    | .agg cs,some (.st _ fs _ _)=>match fs[f]? with
      |some (off,ft)=>(rV (dm Γ ft) (.agg cs) off).map fun x=>([],x,[])
      |none=>none
    |_,_=>none
  | .load t y=>match jg sl y with
    | .ptr tk i k=>match aR m tk with
      | .live _ rows _=>match rows[i]? with
        |some r=>(rV (dm Γ t) r k).map fun x=>([tk],x,[])
        |none=>none
      |_=>none
    |.fptr r k=>(rV (dm Γ t) r k).map fun x=>([],x,[])
    |_=>none
  | .fieldAddr t y f=>match dm Γ t with
    | some (.st _ fs _ _)=>match fs[f]? with
      | some (off,_)=>match jg sl y with
        |.ptr tk i k=>some ([],.ptr tk i (k+off),[])
        |.fptr r k=>some ([],.fptr r (k+off),[])
        |_=>none
      |none=>none
    |_=>none
  | .nilCheck y=>match jg sl y with
    |.ptr tk i k=>some ([],.ptr tk i k,[])
    |.fptr r k=>some ([],.fptr r k,[])
    |_=>none
  | .store t y z=>match dst with
    | none =>match jg sl y with
      | .ptr tk i k=>match aR m tk with
        | .live wd rows false=>match rows[i]? with
          | some r=>match tM (dm Γ t) r k (jg sl z) with
            |some r'=>some ([tk],.any,[(tk,.live wd (rows.set i r') false)])
            |none=>none
          |none=>none
        |_=>none
      |_=>none
    |some _=>none
  | .box _ y=>match dst with
    | some d=>match aR m (10*d) with
      |.free=>if(jg sl y).mw then some ([10*d],.ptr (10*d) 0 0,[(10*d,.live (cells (jg sl y)).length [jg sl y] false)]) else none
      |_=>none
    |none=>none
  | .alloc t=>match dst with
    | some d=>match aR m (10*d) with
      | .free=>match n5 (dm Γ t) with
        |some x=>some ([10*d],.ptr (10*d) 0 0,[(10*d,.live (cells x).length [x] false)])
        |none=>none
      |_=>none
    |none=>none
  |.makeFunc fn first cap=>some ([],.clo fn (first.toList.map (jg sl)) (cap.toList.map (jg sl)),[])
  | .binOp op t y z _=>match jg sl y,jg sl z with
    |.own _ _ n,.lit (.slice none 0 0)=>qA op (dm Γ t) n
    |.sl _ rows,.lit (.slice none 0 0)=>qA op (dm Γ t) rows.length
    | .lit a,.lit b=>match dm Γ t with
      |some .bl=>(Fe op a b).map fun r=>([],.lit r,[])
      |_=>(xb op a b).map fun r=>([],.lit r,[])
    |_,_=>none
  | .unOp .not _ y=>match jg sl y with
    |.lit (.bool b)=>some ([],.lit (.bool (!b)),[])
    |_=>none
  | .build t parts=>match dm Γ t with
    |some (.st _ fs z szs)=>(mh (fun i=>match fs[i]?,szs[i]? with|some (off,_),some sz=>some (off,sz)|_,_=>none) (z.toList.map .lit) (parts.toList.map fun p=>(p.1,jg sl p.2))).map fun cs=>([],.agg cs,[])
    |_=>none
  |.call c=>G0 Γ sl c
  |_=>none
section
variable {P : Program} {N : Nat} {Γ : cQ}
theorem ny (hΓ:Γ.Good P){t:TypeId}{r x:AV}{k:Nat}(h:rV (dm Γ t) r k=some x):oe P t r k x:=by
  cases ht:dm Γ t with
  |none=>rw[ht] at h;cases h
  | some ti=>
    have ok:=hΓ.look ht
    rw[ht] at h
    cases ti with
    |sc z=>exact .scalar ok.1 h
    |bl=>exact .scalar ok.1 h
    |sl e wd b=>exact .scalar ok.1 h
    |str=>exact .scalar ok.1 h
    | st n fs z szs=>
      simp only[rV] at h
      split at h
      ·rename_i hc;cases h;exact .full ok.1 ok.2.1 hc.1 hc.2.1 hc.2.2
      · split at h
        ·rename_i hc;cases h;exact .part ok.1 ok.2.1 hc
        ·cases h
    | ar n len e wd z=>
      simp only[rV] at h
      split at h
      ·rename_i hc;cases h;exact .full ok.1 ok.2.1 hc.1 hc.2.1 hc.2.2
      · split at h
        ·rename_i hc;cases h;exact .part ok.1 ok.2.1 hc
        ·cases h
theorem xR (hΓ:Γ.Good P){t:TypeId}{n:Nat}(h:zL (dm Γ t)=some n):eM P t n:=by
  cases ht:dm Γ t with
  |none=>rw[ht] at h;cases h
  | some ti=>
    have ok:=hΓ.look ht
    rw[ht] at h
    cases ti<;>(simp only[zL,Option.some.injEq] at h;subst h;exact ok.2.1)
theorem FQ (hΓ:Γ.Good P){t:TypeId}{x:AV}(h:n5 (dm Γ t)=some x):∃z,jj P t z∧x=n7 z:=by
  cases ht:dm Γ t with
  |none=>rw[ht] at h;cases h
  | some ti=>
    have ok:=hΓ.look ht
    rw[ht] at h
    cases ti with
    | sc z=>
      refine⟨z,ok.2.2,?_⟩
      cases z<;>simp only[n5,Option.some.injEq,reduceCtorEq] at h<;>(subst h;rfl)
    |bl=>simp only[n5,Option.some.injEq] at h;exact⟨_,ok.2.2.1,h▸rfl⟩
    |sl e wd b=>simp only[n5,Option.some.injEq] at h;exact⟨_,ok.2.2.1,h▸rfl⟩
    |str=>simp only[n5,Option.some.injEq] at h;exact⟨_,ok.2.2.1,h▸rfl⟩
    |st n fs z szs=>simp only[n5,Option.some.injEq] at h;exact⟨_,ok.2.2.1,h▸rfl⟩
    |ar n len e wd z=>simp only[n5,Option.some.injEq] at h;exact⟨_,ok.2.2.1,h▸rfl⟩
theorem vO (hΓ:Γ.Good P){t:TypeId}{r x r':AV}{k:Nat}(h:tM (dm Γ t) r k x=some r'):rf P t r k x r'∧kP (cells x)=true∧x.mw=true:=by
  unfold tM at h
  cases hn:zL (dm Γ t) with
  |none=>rw[hn] at h;cases h
  | some n=>
    rw[hn] at h
    simp only at h
    split at h
    · rename_i hc
      refine⟨?_,hc.2.1,hc.2.2⟩
      split at h
      ·rename_i h1;cases h;exact .full (xR hΓ hn) hc.1 h1.1 h1.2
      · split at h
        ·rename_i h2;cases h;exact .part (xR hΓ hn) hc.1 h2
        ·cases h
    ·cases h
theorem s5 {op:BinOp}{a b r:Value}(h:xb op a b=some r)(t:TypeId)(y z:Operand)(w:World):((do eqGuard op t y z a b;binOp op t a b:Sem Value)).run P w=.ok r w:=by
  unfold xb at h
  split at h
  all_goals first
    | (split at h
       · rename_i hk;subst hk;cases h
         simp[eqGuard,binOp,Op.intArith,Op.intCmp,bne]
       ·cases h)
    |(cases h;simp[eqGuard,binOp,Op.stringOp];done)
    |cases h
theorem zX {t:TypeId}(ht:P.underlying t=some .bool)(x y:Bool)(w:World):(Op.equal t (.bool x) (.bool y)).run P w=.ok (x==y) w:=by
  show(Op.equalIn (9999+1) t (.bool x) (.bool y)).run P w=_
  rw[Op.equalIn]
  simp[run_underlying ht]
theorem Fm {op:BinOp}{a b r:Value}{t:TypeId}(ht:P.underlying t=some .bool)(h:Fe op a b=some r)(y z:Operand)(w:World):((do eqGuard op t y z a b;binOp op t a b:Sem Value)).run P w=.ok r w:=by
  unfold Fe at h
  split at h
  all_goals first
    |(cases h;simp[eqGuard,binOp,zX ht];done)
    |cases h
end
def xy (sl:List (Nat×AV))(d:Int):Option Operand→Option Int
  |none=>some d
  | some z=>match jg sl z with
    |.lit (.int _ n)=>some n
    |_=>none
def jo (wd:Nat):Nat→List (Nat×AV)→Bool
  |_,[]=>true
  |k,(i,x)::r=>i==k&&(cells x).length==wd&&x.mw&&jo wd (k+1) r
def L5 (m:List (Nat×MS))(wd:Nat):AV→Option (Prop×List AV×List Nat)
  | .own t off len=>match aR m t with
    |.live wd' rows _=>if wd'=wd then(if off=0∧len=rows.length then some (True,rows,[t]) else some (off+len≤rows.length,(rows.drop off).take len,[t])) else none
    |_=>none
  |.sl wd' rows=>if wd'=wd then some (True,rows,[]) else none
  |.emp=>some (True,[],[])
  |.lit (.slice none 0 0)=>some (True,[],[])
  |_=>none
def KF (m:List (Nat×MS))(wd:Nat):AV→Option (Prop×List AV×List Nat)
  | .own t off len=>match aR m t with
    |.live wd' rows false=>if wd'=wd then(if off=0∧len=rows.length then some (True,rows,[t]) else some (off+len≤rows.length,(rows.drop off).take len,[t])) else none
    |_=>none
  |.emp=>some (True,[],[])
  |.lit (.slice none 0 0)=>some (True,[],[])
  |_=>none
def LN (Γ :cQ)(sl:List (Nat×AV))(m:List (Nat×MS))(dst:Option Nat)(c:Call):Option (Prop×List Nat×AV×List (Nat×MS)):=
  match c.callee,c.args.toList,c.argTypes.toList with
  | .builtin .append,[y,z],[t,t2]=>(match dst,dm Γ t,dm Γ t2 with
    | some d,some (.sl _ wd bytes),some (.sl _ _ _)=>match aR m (10*d) with
      | .free=>match KF m wd (jg sl y),L5 m wd (jg sl z) with
        |some (c1,rows0,k),some (c2,news,rd)=>some (c1∧c2∧kP (flat news)=true∧(rows0.length+news.length)*bytes≤140737488355328∧rows0.length+news.length≤9223372036854775807,
            10*d::(k++rd),.own (10*d) 0 (rows0++news).length,(10*d,.live wd (rows0++news) false)::k.map fun t=>(t,.dead))
        |_,_=>none
      |_=>none
    |_,_,_=>none)
  |_,_,_=>none
def K8 (Γ:cQ)(sl:List (Nat×AV))(m:List (Nat×MS))(dst:Option Nat)(op:Op):Option (Prop×List Nat×AV×List (Nat×MS)):=
  match op with
  | .indexAddr t y z=>match jg sl z with
    | .lit (.int _ i)=>match dm Γ t,jg sl y with
      | some (.sl _ wd _),.own tk off len=>match aR m tk with
        |.live wd' _ _=>if wd'=wd then some (0≤i∧i<len,[tk],.ptr tk (off+i.toNat) 0,[]) else none
        |_=>none
      | some (.sl _ wd _),.sl wd' rows=>if wd'=wd then(match rows[i.toNat]? with
        |some r=>some (0≤i,[],.fptr r 0,[])
        |none=>none) else none
      |some (.ar _ len _ wd _),.ptr tk i0 k0=>some (0≤i∧i<len,[],.ptr tk i0 (k0+i.toNat*wd),[])
      |_,_=>none
    |_=>none
  | .slice t y lo hi none=>match dm Γ t with
    | some (.sl _ wd _)=>match jg sl y with
      | .own tk off len=>match xy sl 0 lo,xy sl len hi,aR m tk with
        |some l,some h,.live wd' _ _=>if wd'=wd then some (0≤l∧l≤h∧h≤len,[tk],.own tk (off+l.toNat) (h.toNat-l.toNat),[]) else none
        |_,_,_=>none
      | .sl wd' rows=>match xy sl 0 lo,xy sl rows.length hi with
        |some l,some h=>if wd'=wd then some (0≤l∧l≤h∧h≤rows.length,[],.sl wd ((rows.drop l.toNat).take (h.toNat-l.toNat)),[]) else none
        |_,_=>none
      |_=>none
    |_=>none
  | .slice t y none (some hi) (some mx)=>match dm Γ t,jg sl hi,jg sl mx with
    | some (.sl _ _ _),.lit (.int _ 0),.lit (.int _ 0)=>match jg sl y with
      |.own _ _ _=>some (True,[],.emp,[])
      |.sl _ _=>some (True,[],.emp,[])
      |.emp=>some (True,[],.emp,[])
      |.lit (.slice none 0 0)=>some (True,[],.emp,[])
      |_=>none
    |_,_,_=>none
  | .buildSlice t len parts=>match dst,dm Γ t with
    | some d,some (.sl _ wd _)=>match aR m (10*d) with
      |.free=>if jo wd 0 (parts.toList.map fun p=>(p.1,jg sl p.2))=true∧parts.toList.length=len∧len*wd≤16777216 then
          some (True,[10*d],.own (10*d) 0 len,[(10*d,.live wd (parts.toList.map fun p=>jg sl p.2) false)]) else none
      |_=>none
    |_,_=>none
  |.call c=>LN Γ sl m dst c
  |_=>none
section
variable {P : Program} {N : Nat} {Γ : cQ} {σ : az} {o : Oper}
theorem aH.Ey {y:Operand}{lo hi:Option Operand}{t e:TypeId}{rows:List AV}{l h wd:Nat}(ho:o.op=.slice t y lo hi none)(he:σ.eval y=.sl wd rows)
    (hl:lo=none∧l=0∨∃z k,lo=some z∧σ.eval z=.lit (.int k l)) (hh:hi=none∧h=rows.length∨∃z k,hi=some z∧σ.eval z=.lit (.int k h)) (h1:l≤h) (h2:h≤rows.length)
    (ht:me P t e) (hsz:eM P e wd) (hd:∀d,o.dst=some d→d<N):aH P N o σ [] (.sl wd ((rows.drop l).take (h-l))) []:=
  .val (fun σ2 he2 hrd w0 W0 L μ a w hs=>by
    have k1:=hs.eval y
    rw[he2 y (by simp[ho,Op.operands]),he] at k1
    have hl':lo.map a.eval=none∧l=0∨∃k,lo.map a.eval=some (.int k l):=by
      rcases hl with⟨rfl,rfl⟩|⟨z,k,rfl,hz⟩
      ·exact .inl ⟨rfl,rfl⟩
      · have:=hs.eval z
        rw[he2 z (by simp[ho,Op.operands]),hz] at this
        exact .inr ⟨k,by simp[this.val]⟩
    have hh':hi.map a.eval=none∧h=rows.length∨∃k,hi.map a.eval=some (.int k h):=by
      rcases hh with⟨rfl,rfl⟩|⟨z,k,rfl,hz⟩
      ·exact .inl ⟨rfl,rfl⟩
      · have:=hs.eval z
        rw[he2 z (by simp[ho,Op.operands]),hz] at this
        exact .inr ⟨k,by simp[this.val]⟩
    have hnone:(none:Option Operand).map a.eval=none:=rfl
    have hll:((rows.drop l).take (h-l)).length=h-l:=by rw[gh,List.length_drop];omega
    generalize hv:a.eval y=v at k1
    cases k1 with
    | @slNil _ a' cap=>
      have hl0:l=0:=by simp at h2;omega
      have hh0:h=0:=by simpa using h2
      subst hl0;subst hh0
      have hbr:=lF (P:=P) (len:=0) (cap:=cap) hl' hh' h1 (Nat.zero_le _) w
      refine⟨.slice (if cap=0 then a' else a'.map fun x=>x.add (0*wd)) 0 (cap-0),?_,?_⟩
      ·simp only[execOp,ho,hv,Instr.sliceAt,Instr.slice,Sem.run_bind,run_underlying ht,Result.andThen_ok,hnone,hbr,hsz w,Sem.run_pure,Nat.sub_self]
      ·simpa using cE.slNil
    | @sl _ _ b q0 cap n f a1 a2 a3 a4 a5 a6 a7 a8=>
      subst a3
      have hbr:=lF (P:=P) hl' hh' h1 (Nat.le_trans h2 a4) w
      refine⟨.slice (if cap=l then some ⟨b,q0,none⟩ else some ⟨b,q0+l*wd,none⟩) (h-l) (cap-l),?_,?_⟩
      ·simp only[execOp,ho,hv,Instr.sliceAt,Instr.slice,Sem.run_bind,run_underlying ht,Result.andThen_ok,hnone,hbr,hsz w,Sem.run_pure,Option.map_some,Addr.add_lit]
      · by_cases hc:cap=l
        · have h0:h-l=0:=by omega
          have hnil:(rows.drop l).take (h-l)=[]:=List.eq_nil_of_length_eq_zero (by rw[hll,h0])
          rw[hnil,h0]
          exact .slNil
        · rw [if_neg hc]
          exact .sl (f:=fun q=>f (l*wd+q)) a1 a2 hll.symm (by omega) (bG.sub a5 fun r hr=>List.mem_of_mem_drop (List.mem_of_mem_take hr))
            (fun q c hq=>by rw[Nat.add_assoc];exact a6 _ c (ld a5 hq)) (fun q c hq=>a7 _ c (ld a5 hq)) (fun c hc=>by
              obtain⟨q,hq⟩:=List.getElem?_of_mem hc
              exact a8 c (bO (ld a5 hq)))) hd
theorem aH.slice3 {y hi mx:Operand}{t e:TypeId}{kh km:IntKind}{x:AV}(ho:o.op=.slice t y none (some hi) (some mx))(he:σ.eval y=x)(hx:(∃tk off len,x=.own tk off len)∨(∃wd rows,x=.sl wd rows)∨x=.emp∨x=.lit (.slice none 0 0))
    (hh:σ.eval hi=.lit (.int kh 0)) (hm:σ.eval mx=.lit (.int km 0)) (ht:me P t e) (hsz:∃wd,eM P e wd) (hd:∀d,o.dst=some d→d<N):aH P N o σ [] .emp []:=
  .val (fun σ2 he2 hrd w0 W0 L μ a w hs=>by
    have k1:=hs.eval y
    have k2:=hs.eval hi
    have k3:=hs.eval mx
    rw[he2 y (by simp[ho,Op.operands]),he] at k1
    rw[he2 hi (by simp[ho,Op.operands]),hh] at k2
    rw[he2 mx (by simp[ho,Op.operands]),hm] at k3
    obtain⟨wd,hsz⟩:=hsz
    have hv:∃ad n c,a.eval y=.slice ad n c:=by
      generalize a.eval y=v at k1
      rcases hx with⟨tk,off,len,rfl⟩|⟨wd,rows,rfl⟩|rfl|rfl
      ·cases k1<;>exact⟨_,_,_,rfl⟩
      ·cases k1<;>exact⟨_,_,_,rfl⟩
      ·cases k1;exact⟨_,_,_,rfl⟩
      ·cases k1;exact⟨_,_,_,rfl⟩
    obtain⟨ad,n,c,hv⟩:=hv
    have hbd:∀ (k:IntKind) (y:Nat) (cd:BoundsCode),(Instr.sliceBound (.int k 0) y cd).run P w=.ok 0 w:=fun k y cd=>by
      rw[run_sliceBound w k 0 y cd (by omega) (by omega)];simp
    refine⟨.slice ad 0 0,?_,.emp⟩
    simp[execOp,ho,hv,k2.val,k3.val,Instr.sliceAt,Instr.slice,run_underlying ht,hsz w,Instr.sliceBounds,hbd]) hd
theorem qd {wd:Nat}:∀ (ps:List (Nat×AV)) (k:Nat) (pre:List AV),jo wd k ps=true→pre.length=k*wd→
    mh (fun i=>some (i*wd,wd)) (pre++List.replicate (ps.length*wd) .any) ps=some (pre++flat (ps.map (·.2)))
  |[],k,pre,_,_=>by simp[mh,flat]
  | (i,x)::ps,k,pre,h,hl=>by
    simp only[jo,bN,beq_iff_eq] at h
    obtain⟨⟨⟨rfl,h2⟩,h3⟩,h4⟩:=h
    have hlen:(pre++List.replicate (((i,x)::ps).length*wd) AV.any).length=(i+1+ps.length)*wd:=by
      simp[hl,←Nat.add_mul];congr 1;omega
    simp only[mh]
    rw[if_pos ⟨h2,by rw[hlen,h2,Nat.add_mul,Nat.add_mul];omega,h3⟩]
    have hsp:fu (pre++List.replicate (((i,x)::ps).length*wd) AV.any) (i*wd) (cells x)=(pre++cells x)++List.replicate (ps.length*wd) AV.any:=by
      unfold fu
      rw[←hl,List.take_left,List.drop_append,List.drop_eq_nil_of_le (by omega),List.nil_append,List.append_assoc,List.append_assoc]
      congr 2
      rw[List.drop_replicate]
      congr 1
      rw[List.length_cons,Nat.add_mul,h2];omega
    rw[hsp,qd ps (i+1) (pre++cells x) h4 (by rw[kf,hl,h2,Nat.add_mul,Nat.one_mul])]
    simp[eW]
theorem pG {wd:Nat}:∀ (ps:List (Nat×AV)) (k:Nat),jo wd k ps=true→bG wd (ps.map (·.2))
  |[],_,_=>.nil _
  | (i,x)::ps,k,h=>by
    simp only[jo,bN,beq_iff_eq] at h
    exact .cons h.1.1.2 (pG ps _ h.2)
end
section
variable {P : Program} {N : Nat} {Γ : cQ}
theorem aH.binOp {σ:az}{o:Oper}{op:BinOp}{t yt:TypeId}{y z:Operand}{a b r:Value}(ho:o.op=.binOp op t y z yt)(he:σ.eval y=.lit a)(he':σ.eval z=.lit b)
    (hr:∀w,((do eqGuard op t y z a b;Go.binOp op t a b:Sem Value)).run P w=.ok r w) (hd:∀d,o.dst=some d→d<N):aH P N o σ [] (.lit r) []:=
  .bin (y:=y) (z:=z) (f:=fun u v=>do eqGuard op t y z u v;Go.binOp op t u v) (fun ρ=>by simp[execOp,ho]) (by simp[ho,Op.operands]) he he' hr hd
theorem aH.not {σ:az}{o:Oper}{t:TypeId}{y:Operand}{b:Bool}(ho:o.op=.unOp .not t y)(he:σ.eval y=.lit (.bool b))(hd:∀d,o.dst=some d→d<N):aH P N o σ [] (.lit (.bool (!b))) []:=
  .Mx (y:=y) (f:=fun a=>Op.unary .not a) (fun ρ=>by simp[execOp,ho]) (by simp[ho,Op.operands]) he (fun w=>by simp[Op.unary]) hd
theorem vp (hΓ:Γ.Good P){sl:List (Nat×AV)}{m:List (Nat×MS)}{o:Oper}{rd:List Nat}{x x0:AV}{ups:List (Nat×MS)}{op:BinOp}{y z:Operand}{t yt:TypeId}{n:Nat}(h:qA op (dm Γ t) n=some (rd,x,ups))
    (ho:o.op=.binOp op t y z yt) (he:jg sl y=x0) (hz:jg sl z=.lit (.slice none 0 0)) (hx:(∃tk off,x0=.own tk off n)∨(∃wd rows,x0=.sl wd rows∧n=rows.length)) (hd:∀d,o.dst=some d→d<N):aH P N o (St sl m) rd x ups:=by
  unfold qA at h
  split at h
  · rename_i ht;cases h
    have ok:=hΓ.look ht
    obtain⟨i,z,te⟩:=ok.2.2.2.2
    exact aH.Is ho (.inl rfl) (by rw[fA];exact he) (by rw[fA];exact hz) te.ty hx hd
  · rename_i ht;cases h
    have ok:=hΓ.look ht
    obtain⟨i,z,te⟩:=ok.2.2.2.2
    exact aH.Is ho (.inr rfl) (by rw[fA];exact he) (by rw[fA];exact hz) te.ty hx hd
  ·cases h
theorem CQ (hΓ:Γ.Good P){sl:List (Nat×AV)}{m:List (Nat×MS)}{o:Oper}{rd:List Nat}{x:AV}{ups:List (Nat×MS)}(h:ep Γ sl m o.dst o.op=some (rd,x,ups))(hd:∀d,o.dst=some d→d<N):
    aH P N o (St sl m) rd x ups:=by
  have ev:∀y,(St sl m).eval y=jg sl y:=fA sl m
  generalize hop:o.op=op at h
  unfold ep at h
  split at h
  ·cases h;rw[←ev];exact .move hop hd
  ·cases h;rw[←ev];exact .assign hop hd
  · split at h
    ·rename_i hc;cases h;exact .pick hop (by rw[ev];exact hc) (by simp only[ev]) hd
    ·cases h
  · split at h
    · rename_i he
      rw[Option.map_eq_some_iff] at h
      obtain⟨y',h1,h2⟩:=h
      cases h2
      exact .extract hop (by rw[ev];exact he) h1 hd
    ·cases h
  · split at h
    · rename_i he ht
      split at h
      · rename_i hf
        rw[Option.map_eq_some_iff] at h
        obtain⟨y',h1,h2⟩:=h
        cases h2
        have ok:=hΓ.look ht
        exact .field hop (by rw[ev];exact he) (ok.2.2.2.1 _ _ _ hf).2 (ny hΓ h1) hd
      ·cases h
    ·cases h
  · split at h
    · rename_i he
      split at h
      · rename_i hm
        split at h
        · rename_i hr
          rw[Option.map_eq_some_iff] at h
          obtain⟨y',h1,h2⟩:=h
          cases h2
          exact .xP hop (by rw[ev];exact he) hm hr (ny hΓ h1) hd
        ·cases h
      ·cases h
    · rename_i he
      rw[Option.map_eq_some_iff] at h
      obtain⟨y',h1,h2⟩:=h
      cases h2
      exact .C9 hop (by rw[ev];exact he) (ny hΓ h1) hd
    ·cases h
  · split at h
    · rename_i ht
      split at h
      · rename_i hf
        have ok:=hΓ.look ht
        split at h
        ·rename_i he;cases h;exact .uP hop (by rw[ev];exact he) (ok.2.2.2.1 _ _ _ hf).1 hd
        ·rename_i he;cases h;exact .tZ hop (by rw[ev];exact he) (ok.2.2.2.1 _ _ _ hf).1 hd
        ·cases h
      ·cases h
    ·cases h
  · split at h
    ·rename_i he;cases h;exact .nilCheck hop (by rw[ev];exact he) (.inl ⟨_,_,_,rfl⟩) hd
    ·rename_i he;cases h;exact .nilCheck hop (by rw[ev];exact he) (.inr ⟨_,_,rfl⟩) hd
    ·cases h
  · split at h
    · rename_i hdst
      split at h
      · rename_i he
        split at h
        · rename_i hm
          split at h
          · rename_i hr
            split at h
            · rename_i hst
              cases h
              obtain⟨s1,s2,s3⟩:=vO hΓ hst
              exact .store hop (by rw[ev];exact he) (ev _) hm hr s1 s2 s3 hdst
            ·cases h
          ·cases h
        ·cases h
      ·cases h
    ·cases h
  · split at h
    · rename_i hdst
      split at h
      · rename_i hm
        split at h
        ·rename_i hs;cases h;exact .box hop (ev _) hs hm hd
        ·cases h
      ·cases h
    ·cases h
  · split at h
    · rename_i hdst
      split at h
      · rename_i hm
        split at h
        · rename_i hz
          cases h
          obtain⟨z,z1,rfl⟩:=FQ hΓ hz
          exact .alloc hop z1 hm hd
        ·cases h
      ·cases h
    ·cases h
  · cases h
    have:jg sl=(St sl m).eval:=by funext y;exact(ev y).symm
    rw[this]
    exact .makeFunc hop hd
  · split at h
    · rename_i he1 he2
      exact vp hΓ h hop he1 he2 (.inl ⟨_,_,rfl⟩) hd
    · rename_i he1 he2
      exact vp hΓ h hop he1 he2 (.inr ⟨_,_,rfl,rfl⟩) hd
    · rename_i he1 he2
      split at h
      · rename_i ht
        rw[Option.map_eq_some_iff] at h
        obtain⟨y',h1,h2⟩:=h
        cases h2
        have ok:=hΓ.look ht
        exact .binOp hop (by rw[ev];exact he1) (by rw[ev];exact he2) (Fm ok.2.2.2 h1 _ _) hd
      · rw[Option.map_eq_some_iff] at h
        obtain⟨y',h1,h2⟩:=h
        cases h2
        exact .binOp hop (by rw[ev];exact he1) (by rw[ev];exact he2) (s5 h1 _ _ _) hd
    ·cases h
  · split at h
    · rename_i he
      cases h
      exact .not hop (by rw[ev];exact he) hd
    ·cases h
  · split at h
    · rename_i ht
      rw[Option.map_eq_some_iff] at h
      obtain⟨y',h1,h2⟩:=h
      cases h2
      have ok:=hΓ.look ht
      have hev:(fun p:Nat×Operand=>(p.1,jg sl p.2))=fun p=>(p.1,(St sl m).eval p.2):=by funext p;rw[ev]
      rw[hev] at h1
      exact .build hop ok.2.2.2.2 h1 hd
    ·cases h
  · rename_i c
    unfold G0 at h
    split at h
    rotate_left
    ·cases h
    rename_i y t e1 e2 e3
    obtain⟨callee,args,argTypes⟩:=c
    simp only at e1 e2 e3
    obtain rfl:args= #[y]:=Array.ext' e2
    obtain rfl:argTypes= #[t]:=Array.ext' e3
    subst e1
    split at h
    · rename_i ht
      have ok:=hΓ.look ht
      obtain⟨i,z,te⟩:=ok.2.2.2.2
      split at h
      ·rename_i he;cases h;exact .len hop (by rw[ev];exact he) te.ty (.inl ⟨_,_,rfl⟩) hd
      ·rename_i he;cases h;exact .len hop (by rw[ev];exact he) te.ty (.inr (.inl ⟨_,_,rfl,rfl⟩)) hd
      ·rename_i he;cases h;exact .len hop (by rw[ev];exact he) te.ty (.inr (.inr ⟨_,_,rfl⟩)) hd
      ·cases h
    · rename_i ht
      have ok:=hΓ.look ht
      split at h
      ·rename_i he;cases h;exact .GU hop (by rw[ev];exact he) ok.2.2.2 hd
      ·cases h
    ·cases h
  ·cases h
end
end Go.Am
section
namespace Go.Am
def fR (N:Nat):Option Nat→Bool
  |none=>true
  |some d=>decide (d<N)
theorem bA {N:Nat}{dst:Option Nat}(h:fR N dst=true):∀d,dst=some d→d<N:=by
  rintro d rfl;simpa[fR] using h
section
variable (P : Program) (N : Nat) (Γ : cQ) (ds : List (Option Nat))
def jZ (o:Oper)(sl:List (Nat×AV))(m:List (Nat×MS))(R:List Nat→AV→List (Nat×MS)→Prop):Prop:=∃rd x ups,aH P N o (St sl m) rd x ups∧R rd x ups
def K6 (o:Oper)(sl:List (Nat×AV))(m:List (Nat×MS))(R:List Nat→AV→List (Nat×MS)→Prop):Option (Prop×List Nat×AV×List (Nat×MS))→Prop
  |some (c,rd,x,ups)=>c∧R rd x ups
  |none=>jZ P N o sl m R
def JB (o:Oper)(sl:List (Nat×AV))(m:List (Nat×MS))(R:List Nat→AV→List (Nat×MS)→Prop):Option (List Nat×AV×List (Nat×MS))→Prop
  |some (rd,x,ups)=>R rd x ups
  |none=>K6 P N o sl m R (K8 Γ sl m o.dst o.op)
def Mv (c:Bool)(yes no:Prop):Prop:=(c=true→yes)∧(c=false→no)
def Mk (x:AV)(b:Bool)(yes no:Prop):Prop:=
  match x with
  |.lit (.bool c)=>Mv (c==b) yes no
  |_=>False
def E0:  List Oper→Tk→List (Nat×AV)→List (Nat×MS)→(Tk→az→Prop)→Prop
  |[],acc,sl,m,K=>K acc (St sl m)
  | o ::rest,acc,sl,m,K=>
    fR N o.dst=true∧
    match o.guard with
    |none=>JB P N Γ o sl m (fun rd x ups=>E0 rest (acc++ [(rd,ups.map (·.1))]) (qg o.dst x sl) (ups++m) K) (ep Γ sl m o.dst o.op)
    | some (j,b)=>match(ds[j]?).bind id with
      |some d=>d<N∧Mk (ct sl d) b
          (JB P N Γ o ((d,.lit (.bool b))::sl) m (fun rd x ups=>E0 rest (acc++ [(rd,ups.map (·.1))]) (qg o.dst x ((d,.lit (.bool b))::sl)) (ups++m) K) (ep Γ ((d,.lit (.bool b))::sl) m o.dst o.op))
          (E0 rest (acc++ [([],[])]) (qg o.dst (.lit undef) ((d,.lit (.bool (!b)))::sl)) m K)
      |none=>False
end
section
variable (P : Program) (N : Nat) (Γ : cQ) (ds : List (Option Nat))
def Jd (o:Oper)(rest:List Oper)(acc:Tk)(sl:List (Nat×AV))(m:List (Nat×MS))(K:Tk→az→Prop)(rd:List Nat)(x:AV)(ups:List (Nat×MS)):Prop:=
  E0 P N Γ ds rest (acc++ [(rd,ups.map (·.1))]) (qg o.dst x sl) (ups++m) K
def IF (d:Nat)(b:Bool)(o:Oper)(rest:List Oper)(acc:Tk)(sl:List (Nat×AV))(m:List (Nat×MS))(K:Tk→az→Prop):Prop:=
  JB P N Γ o ((d,.lit (.bool b))::sl) m (Jd P N Γ ds o rest acc ((d,.lit (.bool b))::sl) m K) (ep Γ ((d,.lit (.bool b))::sl) m o.dst o.op)
def KN (d:Nat)(b:Bool)(o:Oper)(rest:List Oper)(acc:Tk)(sl:List (Nat×AV))(m:List (Nat×MS))(K:Tk→az→Prop):Prop:=
  E0 P N Γ ds rest (acc++ [([],[])]) (qg o.dst (.lit undef) ((d,.lit (.bool (!b)))::sl)) m K
def Km (x:AV)(d:Nat)(b:Bool)(o:Oper)(rest:List Oper)(acc:Tk)(sl:List (Nat×AV))(m:List (Nat×MS))(K:Tk→az→Prop):Prop:=
  Mk x b (IF P N Γ ds d b o rest acc sl m K) (KN P N Γ ds d b o rest acc sl m K)
end
section
variable {P : Program} {N : Nat} {Γ : cQ} {ds : List (Option Nat)}
variable {o : Oper} {rest : List Oper} {acc : Tk} {sl : List (Nat × AV)} {m : List (Nat × MS)} {K : Tk → az → Prop} {d : Nat}
theorem Km.split {c b:Bool}(hy:c=b→IF P N Γ ds d b o rest acc sl m K)(hn:c=(!b)→KN P N Γ ds d b o rest acc sl m K):Km P N Γ ds (.lit (.bool c)) d b o rest acc sl m K:=by
  refine⟨fun h=>hy ?_,fun h=>hn ?_⟩<;>cases c<;>cases b<;>simp_all
end
section
variable {P : Program} {N nL : Nat} {Γ : cQ} {ds : List (Option Nat)} {ops : Array Oper}
theorem jZ.D0 {o:Oper}{sl:List (Nat×AV)}{m:List (Nat×MS)}{R:List Nat→AV→List (Nat×MS)→Prop}{f:FuncId}{ys args:List AV}{res:AV}(T:List Nat)(hto:gu (St sl m) o f ys)(hc:aq P f)
    (hargs:gR (aR m) id (fun _=>False) (· ∈T) args ys) (hd:fR N o.dst=true) (hp:kx res=true) (hf:ak P f [] args [] res) (h:R T res []):jZ P N o sl m R:=
  ⟨T,res,[],.D0 T hto hc hargs hf hp (bA hd),h⟩
end
end Go.Am
namespace Go.Am
theorem s4.mk {P:Program}{t:TypeId}{fields:Array Field}{places:Array (Nat×Nat)}{z:Array Value}{place:Nat→Option (Nat×Nat)}(h1:P.underlying t=some (.struct fields))(h2:jj P t (.agg z))
    (h3:∀w,(fields.toList.mapM (m:=Sem) fun f=>do pure (f.offset,←sizeOf f.type)).run P w=.ok places.toList w) (h4:∀i,place i=places[i]?):s4 P t z place:=by
  intro parts w
  have hpl:place=(places[·]?):=funext h4
  have hm:(fields.mapM (m:=Sem) fun f=>do pure (f.offset,←sizeOf f.type)).run P w=.ok places w:=by
    rw[Array.mapM_eq_mapM_toList]
    simp only[Sem.run_map,h3 w,Result.andThen_ok]
  have hb:(Instr.build t parts).run P w=match Instr.fill (places[·]?) z parts.toList with
      |some cells=>.ok (.agg cells) w
      |none=>.halt (.stuck "build: no such field, or a part of the wrong size") w:=by
    unfold Instr.build
    simp only[Sem.run_bind,h2 w,Result.andThen_ok,run_underlying h1,hm,Value.cells]
    cases Instr.fill (places[·]?) z parts.toList<;>rfl
  rw[hpl]
  cases hf:Instr.fill (places[·]?) z parts.toList with
  |none=>rfl
  |some cells=>rw[hb,hf]
end Go.Am
namespace Go.Am
def rH:Nat→List AV→List (Nat×AV)
  |_,[]=>[]
  |k,x::r=>(k,x)::rH (k+1) r
def pA:Nat→List MS→List (Nat×MS)
  |_,[]=>[]
  |k,x::r=>(k,x)::pA (k+1) r
theorem oH:∀ (l:List AV) (k i:Nat),ct (rH k l) i=if k≤i then l.getD (i-k) .any else .any
  |[],k,i=>by simp[rH,ct]
  | x ::r,k,i=>by
    simp only[rH,ct]
    rw[oH r (k+1) i]
    by_cases h:i=k
    ·subst h;simp
    · have h':(i==k)=false:=by simpa using h
      rw[h']
      by_cases h2:k≤i
      ·rw[if_pos h2,if_pos (by omega),show i-k=(i- (k+1))+1 from by omega];rfl
      ·rw[if_neg h2,if_neg (by omega)];rfl
theorem sU:∀ (l:List MS) (k i:Nat),aR (pA k l) i=if k≤i then(l[i-k]?).getD .free else .free
  |[],k,i=>by simp[pA,aR]
  | x ::r,k,i=>by
    simp only[pA,aR]
    rw[sU r (k+1) i]
    by_cases h:i=k
    ·subst h;simp
    · have h':(i==k)=false:=by simpa using h
      rw[h']
      by_cases h2:k≤i
      ·rw[if_pos h2,if_pos (by omega),show i-k=(i- (k+1))+1 from by omega];rfl
      ·rw[if_neg h2,if_neg (by omega)];rfl
theorem pY.one {P:Program}{sl:List (Nat×AV)}{m:List (Nat×MS)}{t:Nat}{res:AV}(h:ct sl t=res)(hr:bz res=true):pY P 0 [.tmp t] (St sl m) [] res:=
  ⟨[res],rfl,fun j rv x h1 h2=>by
    cases j with
    |zero=>simp at h1 h2;subst h1;subst h2;exact h
    |succ j=>simp at h1,id,fun _=>False,
    ⟨fun _=>.any,fun t=>.inl (by simp[bare,aG]),fun t t' wd rows wd' rows' ro' h=>by simp[bare,aG] at h,fun s h=>h.elim,fun t h=>absurd h (Nat.not_lt_zero t)⟩,.same hr⟩
end Go.Am
namespace Go.Am
end Go.Am
end
