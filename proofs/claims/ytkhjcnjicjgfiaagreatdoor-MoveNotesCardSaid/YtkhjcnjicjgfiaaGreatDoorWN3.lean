/- Abstract values and what they say of memory; rules of code over them. By an AI agent. -/
import Derived.Test.YtkhjcnjicjgfiaaGreatDoorWN2
import Derived.RangeFuncLeaves
set_option linter.unusedSimpArgs false
set_option linter.unusedVariables false
namespace Go.Am
section
variable {P : Program} {N : Nat} {σ : az} {o : Oper}
structure zH (P:Program) (t e:TypeId) (wd bytes:Nat) (i:TypeInfo) (z:Value):Prop where
  ty:P.underlying t=some (.slice e)
  info:P.info? e=some i
  size:i.size=wd
  bytes:i.bytes=bytes
  zero:i.zero=some z
  zsize:z.cells.size=wd
def nW (base:Option Addr)(k:Nat)(news:List Value):Sem Unit:=
  match base with
  |some a=>storeCells (a.add k) news
  |none=>pure ()
theorem zR {t t2 e e2 ty:TypeId}{wd bytes:Nat}{i:TypeInfo}{z:Value}(ht:zH P t e wd bytes i z)(ht2:P.underlying t2=some (.slice e2)){w:World}{base ax:Option Addr}{sLen sCap n c:Nat}{olds news:List Value}
    (hold:∀d,(Builtin.firstCells wd sLen (.slice base sLen sCap)).run P {w with drawn:=d}=.ok olds.toArray {w with drawn:=d})
    (hnew:∀d,(Builtin.firstCells wd n (.slice ax n c)).run P {w with drawn:=d}=.ok news.toArray {w with drawn:=d})
    (h63:sLen+n≤maxLen) (hb:(sLen+n)*bytes≤140737488355328):
    (sLen+n≤sCap→(Builtin.append_ #[t,t2] ty #[.slice base sLen sCap,.slice ax n c]).run P w=((nW base (sLen*wd) news).run P w).andThen fun _ w'=>.ok (.slice base (sLen+n) sCap) w')∧
    (sCap<sLen+n→∃cap,sLen+n≤cap∧(Builtin.append_ #[t,t2] ty #[.slice base sLen sCap,.slice ax n c]).run P w=
      .ok (.slice (some ⟨w.heap.size,0,none⟩) (sLen+n) cap) (w.drew.alloc (.cells (olds.toArray++news.toArray++Builtin.zeroCells z.cells (cap- (sLen+n))) e))):=by
  obtain⟨h1,h2,h3,h4,h5,h6⟩:=ht
  subst h3;subst h4
  have hnew0:=hnew w.drawn
  constructor
  · intro hroom
    cases base with
    |none=>simp[Builtin.append_,run_underlying h1,run_underlying ht2,sizeOf,typeInfo,h2,Builtin.lenOf,hroom,hnew0,nW]
    |some a=>simp[Builtin.append_,run_underlying h1,run_underlying ht2,sizeOf,typeInfo,h2,Builtin.lenOf,hroom,hnew0,nW]
  · intro hg
    have hn:¬ (sLen+n≤sCap):=by omega
    have hsmall:sLen+n≤9223372036854775807:=by simp only[maxLen] at h63;omega
    have h63':¬ (9223372036854775807< ((sLen:Int)+ (n:Int))):=by omega
    have hfit:=growslice_fits hg hb
    have h48':¬ (281474976710656<Builtin.nextslicecap (sLen+n) sCap*i.bytes):=by omega
    refine⟨grownCap w (sLen+n) sCap e,grownCap_ge w _ _ e,?_⟩
    have ho:(Builtin.firstCells i.size sLen (.slice base sLen sCap)).run P w.drew=.ok olds.toArray w.drew:=hold (w.drawn+1)
    have hnw:(Builtin.firstCells i.size n (.slice ax n c)).run P w.drew=.ok news.toArray w.drew:=hnew (w.drawn+1)
    simp[Builtin.append_,run_underlying h1,run_underlying ht2,sizeOf,typeInfo,zeroValue,h2,h5,Builtin.lenOf,hn,h63',h48',Question.forced,ho,hnw,newRow,grownCap]
    congr 2
    apply Array.ext'
    simp[List.append_assoc]
inductive Src (σ:az) (wd:Nat):AV→List AV→List Nat→Prop
  |own {t off len:Nat} {rows:List AV} {ro:Bool}:σ.mem t=.live wd rows ro→off+len≤rows.length→Src σ wd (.own t off len) ((rows.drop off).take len) [t]
  |full {t len:Nat} {rows:List AV} {ro:Bool}:σ.mem t=.live wd rows ro→len=rows.length→Src σ wd (.own t 0 len) rows [t]
  |sl {rows:List AV}:Src σ wd (.sl wd rows) rows []
  |emp:Src σ wd .emp [] []
  |nil:Src σ wd (.lit (.slice none 0 0)) [] []
theorem r6 {wd c:Nat}{ax:Option Addr}{w:World}:(Builtin.firstCells wd 0 (.slice ax 0 c)).run P w=.ok #[] w:=by
  cases ax with
  |none=>simp[Builtin.firstCells]
  |some a=>simp[Builtin.firstCells,loadCells,loadCellsFrom]
theorem Src.run {σ2:az}{wd:Nat}{x:AV}{rows:List AV}{rd:List Nat}(h:Src σ wd x rows rd)(hrd:∀t∈rd,σ2.mem t=σ.mem t){w0:World}{W0:Nat→Prop}{L μ:Mu}{a:Act}{w:World}
    (hs:cB P N w0 W0 L μ σ2 a w) {v:Value} (hv:cE (Wr W0 μ σ2.mem) μ w x v):
    ∃ ax c vs,v=.slice ax rows.length c∧cH (Wr W0 μ σ2.mem) μ w (flat rows) vs∧bG wd rows∧
      ∀d,(Builtin.firstCells wd rows.length (.slice ax rows.length c)).run P {w with drawn:=d}=.ok vs.toArray {w with drawn:=d}:=by
  have key:∀ (b q0:Nat) (rows:List AV) (c:Nat),bG wd rows→(∀ (q:Nat) (x:AV),(flat rows)[q]? =some x→∃v,w.cell? ⟨b,q0+q,none⟩=some v∧cE (Wr W0 μ σ2.mem) μ w x v)→
      ∃vs,cH (Wr W0 μ σ2.mem) μ w (flat rows) vs∧∀d,(Builtin.firstCells wd rows.length (.slice (some ⟨b,q0,none⟩) rows.length c)).run P {w with drawn:=d}=.ok vs.toArray {w with drawn:=d}:=by
    intro b q0 rows c hw hc
    have key':∀q,∃v,∀x,(flat rows)[q]? =some x→w.cell? ⟨b,q0+q,none⟩=some v∧cE (Wr W0 μ σ2.mem) μ w x v:=fun q=>by
      cases hq:(flat rows)[q]? with
      |none=>exact⟨undef,by simp⟩
      |some x=>obtain⟨v,hv⟩:=hc q x hq;exact⟨v,fun x' h'=>by cases h';exact hv⟩
    obtain⟨f,hf⟩:=Classical.skolem.1 key'
    have hlen:=cM hw
    refine⟨(List.range (rows.length*wd)).map f,⟨by simp[hlen],fun j x v h1 h2=>?_⟩,fun d=>?_⟩
    · have hj:=(aY h1).1
      rw[hlen] at hj
      simp[hj] at h2
      rw[←h2];exact(hf j x h1).2
    · refine run_firstCells_some (P:=P) _ wd rows.length _ rows.length c _ (by simp) (fun j v hj=>?_)
      have hjl:=(aY hj).1
      simp at hjl
      simp[hjl] at hj
      rw[←hj,Addr.add_lit]
      exact(hf j _ (bD (by rw[hlen];exact hjl))).1
  have nilc:∀ (ax:Option Addr) (c:Nat),∃ax' c' vs,Value.slice ax 0 c=.slice ax' ([]:List AV).length c'∧cH (Wr W0 μ σ2.mem) μ w (flat []) vs∧bG wd []∧
      ∀d,(Builtin.firstCells wd ([]:List AV).length (.slice ax' ([]:List AV).length c')).run P {w with drawn:=d}=.ok vs.toArray {w with drawn:=d}:=
    fun ax c=>⟨ax,c,[],rfl,.nil,.nil _,fun d=>r6⟩
  cases h with
  | @own t off len rows ro hm hl=>
    have hm2:σ2.mem t=.live wd rows ro:=by rw[hrd t (by simp)];exact hm
    obtain⟨B,hB,hobj⟩:=hs.objs t wd rows ro hm2
    have hll:((rows.drop off).take len).length=len:=by rw[gh,List.length_drop];omega
    have hwide:bG wd ((rows.drop off).take len):=hobj.wide.sub fun r hr=>List.mem_of_mem_drop (List.mem_of_mem_take hr)
    cases hv with
    | @own _ _ _ cap e n B' a1 av ap a2 a3 a4=>
      rw[hB] at a1;cases a1
      obtain⟨vs,k1,k2⟩:=key B.b (B.o+off*B.wd) _ cap hwide (fun q x hq=>by
        obtain⟨v,v1,v2⟩:=hobj.cell ap _ x (ld hobj.wide hq)
        exact⟨v,by rw[hobj.width,Nat.add_assoc];exact v1,v2⟩)
      rw[hll] at k2 ⊢
      exact⟨_,cap,vs,rfl,k1,hwide,k2⟩
    | ownNil a1=>
      have:(rows.drop off).take 0=[]:=by simp
      rw[this];exact nilc _ _
  | @full t len rows ro hm hl=>
    have hm2:σ2.mem t=.live wd rows ro:=by rw[hrd t (by simp)];exact hm
    obtain⟨B,hB,hobj⟩:=hs.objs t wd rows ro hm2
    subst hl
    generalize hn:rows.length=n at hv
    cases hv with
    | @own _ _ _ cap e n B' a1 av ap a2 a3 a4=>
      rw[hB] at a1;cases a1
      obtain⟨vs,k1,k2⟩:=key B.b (B.o+0*B.wd) rows cap hobj.wide (fun q x hq=>by
        obtain⟨v,v1,v2⟩:=hobj.cell ap _ x hq
        exact⟨v,by simpa using v1,v2⟩)
      subst hn
      exact⟨_,cap,vs,rfl,k1,hobj.wide,k2⟩
    | ownNil a1=>
      have:=List.eq_nil_of_length_eq_zero hn
      subst this
      exact nilc _ _
  | sl =>
    cases hv with
    |slNil=>exact nilc _ _
    | @sl _ _ b q0 cap n f a1 a2 a3 a4 a5 a6 a7=>
      obtain⟨vs,k1,k2⟩:=key b q0 rows cap a5 (fun q x hq=>⟨f q,a6 q x hq,a7 q x hq⟩)
      subst a3
      exact⟨_,cap,vs,rfl,k1,a5,k2⟩
  |emp=>cases hv;exact nilc _ _
  |nil=>cases hv;exact nilc _ _
inductive sk (σ:az) (wd:Nat):AV→List AV→List Nat→Prop
  |own {t off len:Nat} {rows:List AV}:σ.mem t=.live wd rows false→off+len≤rows.length→sk σ wd (.own t off len) ((rows.drop off).take len) [t]
  |full {t len:Nat} {rows:List AV}:σ.mem t=.live wd rows false→len=rows.length→sk σ wd (.own t 0 len) rows [t]
  |emp:sk σ wd .emp [] []
  |nil:sk σ wd (.lit (.slice none 0 0)) [] []
theorem sk.src {wd:Nat}{x:AV}{rows:List AV}{k:List Nat}(h:sk σ wd x rows k):Src σ wd x rows k:=by
  cases h with
  |own a b=>exact .own a b
  |full a b=>exact .full a b
  |emp=>exact .emp
  |nil=>exact .nil
theorem sk.live {wd:Nat}{x:AV}{rows:List AV}{k:List Nat}(h:sk σ wd x rows k):∀t∈k,∃rows,σ.mem t=.live wd rows false:=by
  cases h with
  |own a b=>intro t ht;simp at ht;subst ht;exact⟨_,a⟩
  |full a b=>intro t ht;simp at ht;subst ht;exact⟨_,a⟩
  |emp=>simp
  |nil=>simp
theorem kH {m:Nat→MS}{a b:List (Nat×MS)}:bk m (a++b)=bk (bk m b) a:=by
  induction a with
  |nil=>rfl
  |cons x r ih=>obtain⟨t,s⟩:=x;funext u;simp[bk,ih]
theorem kX {m:Nat→MS}{k:List Nat}{t:Nat}:bk m (k.map fun t=>(t,MS.dead)) t=if t∈k then .dead else m t:=by
  induction k with
  |nil=>simp[bk]
  |cons x r ih=>simp only[List.map_cons,bk,ih,dU];by_cases h:t=x<;>simp[h]
theorem cB.nE {w0:World}{W0:Nat→Prop}{L μ:Mu}{a:Act}{w:World}(h:cB P N w0 W0 L μ σ a w){t wd:Nat}(ht:σ.mem t=.free):
    cB P N w0 W0 L (bq μ t ⟨0,0,wd,true,false⟩) ⟨σ.slots,bk σ.mem [(t,.live wd [] false)]⟩ a w:=by
  have hmt:μ t=none:=(h.free t).1 ht
  have mu:∀u B,μ u=some B→bq μ t ⟨0,0,wd,true,false⟩ u=some B:=fun u B hu=>by
    have:u≠t:=fun e=>by rw[e,hmt] at hu;cases hu
    simp[bq,this,hu]
  have old:∀u wd' rows' ro B,bk σ.mem [(t,.live wd [] false)] u=.live wd' rows' ro→bq μ t ⟨0,0,wd,true,false⟩ u=some B→B.virt=false→w.heap.size≤B.b∨
      ∃t1 wd1 rows1 ro1 B1,σ.mem t1=.live wd1 rows1 ro1∧μ t1=some B1∧B1.b=B.b∧B1.virt=false∧(ro=false→ro1=false):=by
    intro u wd' rows' ro B h1 h2 hv
    by_cases hu:u=t
    ·subst hu;simp[bq] at h2;subst h2;cases hv
    · simp[bk,hu] at h1;simp[bq,hu] at h2
      exact .inr ⟨u,wd',rows',ro,B,h1,h2,rfl,hv,id⟩
  have g:=h.grow (w':=w) (Nat.le_refl _) (fun _ _ _=>rfl) (fun _ _ _ h=>h) mu (eX old)
  refine h.step (Nat.le_refl _) rfl rfl rfl (fun _ _ _=>rfl) (fun _ _ _ h=>h) mu old (fun u=>?_) (fun u wd' rows' ro hu=>?_) ?_
  · by_cases hu:u=t
    ·subst hu;simp[bk,bq]
    ·simp[bk,bq,hu,h.free u]
  · by_cases hut:u=t
    · subst hut
      simp[bk] at hu
      obtain⟨rfl,rfl,rfl⟩:=hu
      exact⟨⟨0,0,wd,true,false⟩,by simp[bq],rfl,.nil _,(fun h=>nomatch h),fun _=>rfl,fun _ q c hq=>by simp[flat] at hq,(fun h=>nomatch h),(fun h=>nomatch h)⟩
    · simp[bk,hut] at hu
      obtain⟨B,h1,h2⟩:=h.objs u wd' rows' ro hu
      exact⟨B,mu u B h1,h2.grow g fun _=>rfl⟩
  · intro u u' wd1 r1 wd2 r2 ro2 B B' hne h1 h2 h3 h4 v1 v2
    by_cases hu:u=t
    ·subst hu;simp[bq] at h3;subst h3;cases v1
    · by_cases hu':u'=t
      ·subst hu';simp[bq] at h4;subst h4;cases v2
      · simp[bk,hu] at h1;simp[bq,hu] at h3
        simp[bk,hu'] at h2;simp[bq,hu'] at h4
        exact h.inj u u' wd1 r1 wd2 r2 ro2 B B' hne h1 h2 h3 h4 v1 v2
theorem cB.reuse {w0:World}{W0:Nat→Prop}{L μ:Mu}{a:Act}{w:World}(h:cB P N w0 W0 L μ σ a w){t tn wd off:Nat}{rows rows':List AV}{B:xI}{C C':Array Value}{e:TypeId}(ht:σ.mem t=.live wd rows false)
    (hB:μ t=some B) (hv:B.virt=false) (htn:σ.mem tn=.free) (hC:w.heap[B.b]? =some (.cells C e (0,0))) (hsz:C'.size=C.size) (hw:bG wd rows') (hfit:B.o+off*wd+rows'.length*wd≤C.size)
    (hc:∀ (q:Nat) (c:AV),(flat rows')[q]? =some c→∃v,C'[B.o+off*wd+q]? =some v∧cE (Wr W0 μ σ.mem) μ w c v):
    cB P N w0 W0 L (bq μ tn ⟨B.b,B.o+off*wd,wd,false,false⟩) ⟨σ.slots,bk σ.mem [(tn,.live wd rows' false),(t,.dead)]⟩ a (w.setRow B.b C'):=by
  have hne0:tn≠t:=fun e=>by rw[e,ht] at htn;cases htn
  have hmt:μ tn=none:=(h.free tn).1 htn
  have hheap:(w.setRow B.b C').heap[B.b]? =some (.cells C' e (0,0)):=setRow_heap w B.b C C' e (0,0) hC
  have size:w.heap.size≤ (w.setRow B.b C').heap.size:=by simp
  have jX:∀b,b<w.heap.size→¬iM μ σ.mem b→(w.setRow B.b C').heap[b]? =w.heap[b]? :=fun b _ hm=>by
    refine setRow_other w B.b b C' fun e=>hm ⟨t,B,wd,rows,ht,hB,e.symm,hv⟩
  have shape:∀b e n,w.shape? b=some (e,n)→(w.setRow B.b C').shape? b=some (e,n):=fun b e' n hs=>by
    by_cases hb:b=B.b
    ·subst hb;simp[World.shape?,hC] at hs;simp[World.shape?,hheap,hsz,hs]
    ·simpa[World.shape?,setRow_other w B.b b C' hb] using hs
  have mu:∀u B',μ u=some B'→bq μ tn ⟨B.b,B.o+off*wd,wd,false,false⟩ u=some B':=fun u B' hu=>by
    have:u≠tn:=fun e=>by rw[e,hmt] at hu;cases hu
    simp[bq,this,hu]
  have m':∀u,u≠tn→u≠t→bk σ.mem [(tn,MS.live wd rows' false),(t,.dead)] u=σ.mem u:=fun u h1 h2=>by simp[bk,h1,h2]
  have mt:bk σ.mem [(tn,MS.live wd rows' false),(t,.dead)] t=.dead:=by simp[bk,Ne.symm hne0]
  have old:∀u wd' rows'' ro B',bk σ.mem [(tn,MS.live wd rows' false),(t,.dead)] u=.live wd' rows'' ro→bq μ tn ⟨B.b,B.o+off*wd,wd,false,false⟩ u=some B'→B'.virt=false→w.heap.size≤B'.b∨
      ∃t1 wd1 rows1 ro1 B1,σ.mem t1=.live wd1 rows1 ro1∧μ t1=some B1∧B1.b=B'.b∧B1.virt=false∧(ro=false→ro1=false):=by
    intro u wd' rows'' ro B' h1 h2 hv'
    by_cases hu:u=tn
    ·subst hu;simp[bq] at h2;subst h2;exact .inr ⟨t,wd,rows,false,B,ht,hB,rfl,hv,fun _=>rfl⟩
    · by_cases hut:u=t
      ·subst hut;rw[mt] at h1;cases h1
      · rw[m' u hu hut] at h1;simp[bq,hu] at h2
        exact .inr ⟨u,wd',rows'',ro,B',h1,h2,rfl,hv',id⟩
  have g:=h.grow size jX shape mu (eX old)
  refine h.step size rfl rfl rfl jX shape mu old (fun u=>?_) (fun u wd' rows'' ro hu=>?_) ?_
  · by_cases hu:u=tn
    ·subst hu;simp[bk,bq]
    · by_cases hut:u=t
      ·subst hut;rw[mt];simp[bq,hu,hB]
      ·rw[m' u hu hut];simp[bq,hu,h.free u]
  · by_cases hut:u=tn
    · subst hut
      simp[bk] at hu
      obtain⟨rfl,rfl,rfl⟩:=hu
      refine⟨⟨B.b,B.o+off*wd,wd,false,false⟩,by simp[bq],rfl,hw,fun _ _=>⟨C',e,(0,0),hheap,fun _=>rfl,by rw[hsz];exact hfit⟩,(fun h=>nomatch h),fun _ q c hq=>?_,(fun h=>nomatch h),(fun h=>nomatch h)⟩
      obtain⟨v,h1,h2⟩:=hc q c hq
      exact⟨v,by simp[World.cell?,hheap,h1],h2.grow g⟩
    · by_cases hut2:u=t
      ·subst hut2;rw[mt] at hu;cases hu
      · rw[m' u hut hut2] at hu
        obtain⟨B',h1,h2⟩:=h.objs u wd' rows'' ro hu
        exact⟨B',mu u B' h1,h2.grow g fun hv'=>(setRow_other w B.b B'.b C' (fun e=>h.inj t u wd rows wd' rows'' ro B B' (fun e=>hut2 e.symm) ht hu hB h1 hv hv' e.symm))⟩
  · intro u u' wd1 r1 wd2 r2 ro2 B1 B2 hne h1 h2 h3 h4 v1 v2
    have cs:∀u wd1 r1 ro B1,bk σ.mem [(tn,MS.live wd rows' false),(t,.dead)] u=.live wd1 r1 ro→bq μ tn ⟨B.b,B.o+off*wd,wd,false,false⟩ u=some B1→
        (u=tn∧ro=false∧B1.b=B.b)∨(u≠tn∧u≠t∧σ.mem u=.live wd1 r1 ro∧μ u=some B1):=by
      intro u wd1 r1 ro B1 h1 h3
      by_cases hu:u=tn
      ·subst hu;simp[bq] at h3;subst h3;simp[bk] at h1;exact .inl ⟨rfl,by simp[h1],rfl⟩
      · by_cases hut:u=t
        ·subst hut;rw[mt] at h1;cases h1
        ·rw[m' u hu hut] at h1;simp[bq,hu] at h3;exact .inr ⟨hu,hut,h1,h3⟩
    rcases cs _ _ _ _ _ h1 h3 with⟨rfl,_,e1⟩|⟨a1,a2,a3,a4⟩
    · rcases cs _ _ _ _ _ h2 h4 with⟨rfl,_,_⟩|⟨b1,b2,b3,b4⟩
      ·exact absurd rfl hne
      ·rw[e1];exact h.inj t u' _ _ _ _ _ B B2 (Ne.symm b2) ht b3 hB b4 hv v2
    · rcases cs _ _ _ _ _ h2 h4 with⟨rfl,_,e2⟩|⟨b1,b2,b3,b4⟩
      ·rw[e2];exact fun e=>h.inj u t _ _ _ _ _ B1 B a2 a3 ht a4 hB v1 hv e
      ·exact h.inj u u' _ _ _ _ _ B1 B2 hne a3 b3 a4 b4 v1 v2
end
section
variable {P : Program} {N : Nat} {σ : az} {o : Oper}
theorem Grow.drawn {W:Nat→Prop}{μ:Mu}{w:World}(n:Nat):Grow W μ w W μ {w with drawn:=n}:=⟨Nat.le_refl _,fun _ _ _=>rfl,fun _ _ _ h=>h,fun _ _ h=>h,fun _ _ h=>h⟩
theorem aH.append {y z:Operand}{t t2 e e2:TypeId}{wd bytes:Nat}{i:TypeInfo}{zv:Value}{rows0 news:List AV}{k rd:List Nat}{tn:Nat}
    (ho:o.op=.call {callee:=.builtin .append,args:= #[y,z],argTypes:= #[t,t2]}) (ht:zH P t e wd bytes i zv) (ht2:P.underlying t2=some (.slice e2))
    (hb:sk σ wd (σ.eval y) rows0 k) (hx:Src σ wd (σ.eval z) news rd) (hone:kP (flat news)=true) (hbytes:(rows0.length+news.length)*bytes≤140737488355328) (h63:rows0.length+news.length≤maxLen)
    (htn:σ.mem tn=.free) (hd:∀d,o.dst=some d→d<N):
    aH P N o σ (tn::(k++rd)) (.own tn 0 (rows0++news).length) ((tn,.live wd (rows0++news) false)::k.map fun t=>(t,.dead)):=by
  intro σ2 he2 hrd w0 W0 L μ a w K Q hs hK
  have hy:=hs.eval y
  have hz:=hs.eval z
  rw[he2 y (by simp[ho,Op.operands,Call.operands])] at hy
  rw[he2 z (by simp[ho,Op.operands,Call.operands])] at hz
  have htn2:σ2.mem tn=.free:=by rw[hrd tn (by simp)];exact htn
  have hk2:∀t∈k,σ2.mem t=σ.mem t:=fun t h=>hrd t (by simp[h])
  obtain⟨bx,sCap,olds,ey,ry,wy,fy⟩:=hb.src.run (P:=P) hk2 hs hy
  obtain⟨ax,c,vnews,ez,rz,wz,fz⟩:=hx.run (P:=P) (fun t h=>hrd t (by simp[h])) hs hz
  have hwide:bG wd (rows0++news):=wy.append wz
  have hlen:(rows0++news).length=rows0.length+news.length:=kf
  have hvl:vnews.length=news.length*wd:=by rw[rz.1,cM wz]
  obtain⟨run1,run2⟩:=zR (ty:=o.type) ht ht2 (w:=w) (base:=bx) (ax:=ax) (sLen:=rows0.length) (sCap:=sCap) (n:=news.length) (c:=c) fy fz h63 hbytes
  have hexec:∀v w',(Builtin.append_ #[t,t2] o.type #[.slice bx rows0.length sCap,.slice ax news.length c]).run P w=.ok v w'→(execOp a.eval o).run P w=.ok (.value v) w':=by
    intro v w' h
    simp[execOp,ho,resolve,invoke,builtin,ey,ez,h]
  unfold Oper.wp
  by_cases hg:sCap<rows0.length+news.length
  · obtain⟨cap,hcap,hrun⟩:=run2 hg
    rw[hexec _ _ hrun]
    have hdead:=hs.drop (m':=bk σ2.mem (k.map fun t=>(t,.dead))) (fun t=>by
      rw[kX]
      split
      · rename_i hm
        obtain⟨rows,hr⟩:=hb.live t hm
        exact .inr (.inl ⟨rfl,by rw[hk2 t hm,hr];intro h;cases h⟩)
      ·exact .inl rfl)
    have htnk:tn∉k:=fun h=>by
      obtain⟨rows,hr⟩:=hb.live tn h
      rw[htn] at hr;cases hr
    have hgr:Grow (Wr W0 μ σ2.mem) μ w (Wr W0 μ (bk σ2.mem (k.map fun t=>(t,.dead)))) μ w:=by
      refine⟨Nat.le_refl _,fun _ _ _=>rfl,fun _ _ _ h=>h,?_,fun _ _ h=>h⟩
      rintro b hb' (h|⟨t,B,wd',rows,h1,h2,h3,h4⟩)
      ·exact .inl h
      · rw[kX] at h1
        split at h1
        ·cases h1
        ·exact .inr ⟨t,B,wd',rows,h1,h2,h3,h4⟩
    have hdr:=hdead.drawn (w.drawn+1)
    have hal:=hdr.alloc (t:=tn) (wd:=wd) (rows:=rows0++news) (C:=olds.toArray++vnews.toArray++Builtin.zeroCells zv.cells (cap- (rows0.length+news.length))) (e:=e)
      (by show bk σ2.mem _ tn=.free;rw[kX,if_neg htnk];exact htn2) hwide
      (by
        have:=ry.1
        rw[cM wy] at this
        simp only[Array.size_append,List.size_toArray,this,hvl,hlen,Nat.add_mul]
        omega)
      (fun q x hq=>by
        rw[gM,List.getElem?_append] at hq
        have hcat:=ry.append rz
        have hq':(flat rows0++flat news)[q]? =some x:=by rw[List.getElem?_append];exact hq
        have hlt:=(aY hq').1
        have hv:(olds++vnews)[q]? =some ((olds++vnews)[q]'(by rw[hcat.1];exact hlt)):=bD _
        refine⟨(olds++vnews)[q]'(by rw[hcat.1];exact hlt),?_,((hcat.2 q x _ hq' hv).grow hgr).grow (Grow.drawn _)⟩
        rw[Array.getElem?_append_left (by simp only[Array.size_append,List.size_toArray];rw[←kf,hcat.1];exact hlt)]
        simp)
    refine hK _ _ _ (hal.put ?_ hd)
    have :=cE.own (W:=Wr W0 (bq μ tn ⟨w.heap.size,0,wd,false,false⟩) (bk (bk σ2.mem (k.map fun t=>(t,MS.dead))) [(tn,MS.live wd (rows0++news) false)])) (μ:=bq μ tn ⟨w.heap.size,0,wd,false,false⟩)
      (w:=w.drew.alloc (.cells (olds.toArray++vnews.toArray++Builtin.zeroCells zv.cells (cap- (rows0.length+news.length))) e)) (t:=tn) (off:=0) (len:=(rows0++news).length) (cap:=cap) (e:=e)
      (n:=(olds.toArray++vnews.toArray++Builtin.zeroCells zv.cells (cap- (rows0.length+news.length))).size) (B:=⟨w.heap.size,0,wd,false,false⟩)
      (by simp[bq]) rfl rfl (by rw[hlen];exact hcap) (by simp only[World.shape?];rw[show w.heap.size=w.drew.heap.size from rfl,heap_alloc_new])
      (by
        have h0:=ry.1
        rw[cM wy] at h0
        simp only[Array.size_append,List.size_toArray,h0,hvl,size_zeroCells,ht.zsize,←Nat.add_mul,Nat.zero_add]
        exact Nat.mul_le_mul_right _ (by omega))
    rw[hlen] at this ⊢
    simpa using this
  · have hroom :rows0.length+news.length≤sCap:=by omega
    have hrun:=run1 hroom
    -- the base is an own slice with a block, or nothing is there at all
    have hcases:(∃tk off rows B,k=[tk]∧σ2.mem tk=.live wd rows false∧μ tk=some B∧B.virt=false∧B.mp=false∧bx=some ⟨B.b,B.o+off*wd,none⟩∧(∃n e',w.shape? B.b=some (e',n)∧B.o+ (off+sCap)*wd≤n)∧
          (∀ (q:Nat) (x:AV),(flat rows0)[q]? =some x→(flat rows)[off*wd+q]? =some x)∧eY (Wr W0 μ σ2.mem) μ w B wd rows false)∨(rows0=[]∧news=[]∧sCap=0):=by
      rw[ey] at hy
      have own:∀tk off len rows,σ.mem tk=.live wd rows false→k=[tk]→cE (Wr W0 μ σ2.mem) μ w (.own tk off len) (.slice bx rows0.length sCap)→(∀ (q:Nat) (x:AV),(flat rows0)[q]? =some x→(flat rows)[off*wd+q]? =some x)→
          rows0.length=len→(∃tk off rows B,k=[tk]∧σ2.mem tk=.live wd rows false∧μ tk=some B∧B.virt=false∧B.mp=false∧bx=some ⟨B.b,B.o+off*wd,none⟩∧(∃n e',w.shape? B.b=some (e',n)∧B.o+ (off+sCap)*wd≤n)∧
          (∀ (q:Nat) (x:AV),(flat rows0)[q]? =some x→(flat rows)[off*wd+q]? =some x)∧eY (Wr W0 μ σ2.mem) μ w B wd rows false)∨(rows0=[]∧news=[]∧sCap=0):=by
        intro tk off len rows hm hk hr hfl hl
        have hm2:σ2.mem tk=.live wd rows false:=by rw[hk2 tk (by simp[hk])];exact hm
        obtain⟨B,hB,hobj⟩:=hs.objs tk wd rows false hm2
        generalize hbx:bx=bx' at hr
        generalize hn0:rows0.length=n0 at hr hl
        cases hr with
        | own a1 av ap a2 a3 a4=>
          rw[hB] at a1;cases a1
          exact .inl ⟨tk,off,rows,B,hk,hm2,hB,av,ap,by rw[hobj.width],⟨_,_,a3,by rw[←hobj.width];exact a4⟩,hfl,hobj⟩
        | ownNil a1=>
          refine .inr ⟨List.eq_nil_of_length_eq_zero hn0,List.eq_nil_of_length_eq_zero ?_,rfl⟩
          omega
      generalize hxv:σ.eval y=xv at hb hy
      cases hb with
      | @own tk off len rows hm hl=>
        have hm2:σ2.mem tk=.live wd rows false:=by rw[hk2 tk (by simp)];exact hm
        obtain⟨B,hB,hobj⟩:=hs.objs tk wd rows false hm2
        exact own tk off len rows hm rfl hy (fun q x hq=>ld hobj.wide hq) (by rw[gh,List.length_drop];omega)
      | @full tk len rows hm hl=>
        exact own tk 0 len rows0 hm rfl hy (fun q x hq=>by simpa using hq) hl.symm
      | emp=>
        cases hy
        refine .inr ⟨rfl,by simpa using hroom,rfl⟩
      | nil=>
        cases hy
        refine .inr ⟨rfl,by simpa using hroom,rfl⟩
    rcases hcases with⟨tk,off,rows,B,hk,hm2,hB,hv,hmp,hbx,⟨n,e',hsh,hfit⟩,hfl,hobj⟩|⟨h1,h2,h3⟩
    · obtain ⟨C,e1,fz1,c1,c2,c3⟩:=hobj.blk hv hmp
      rw[c2 rfl] at c1
      have hn:C.size=n:=by simp[World.shape?,c1] at hsh;exact hsh.2
      have hmul:rows0.length*wd+news.length*wd≤sCap*wd:=by rw[←Nat.add_mul];exact Nat.mul_le_mul_right _ hroom
      rw[Nat.add_mul] at hfit
      have hst:=run_storeCells_at (P:=P) B.b (B.o+off*wd+rows0.length*wd) e1 vnews 0 C w c1 (by omega) (rz.one hone)
      rw[hbx] at hrun
      simp only[nW,Addr.add_lit,Nat.add_zero] at hrun hst
      rw[hst] at hrun
      simp only[Result.andThen_ok] at hrun
      rw[hexec _ _ (by rw[hbx];exact hrun)]
      have hrows0:∀ (q:Nat) (x:AV),(flat rows0)[q]? =some x→∃v,C[B.o+off*wd+q]? =some v∧cE (Wr W0 μ σ2.mem) μ w x v:=fun q x hq=>by
        obtain⟨v,v1,v2⟩:=hobj.cell hmp _ x (hfl q x hq)
        exact⟨v,by rw[Nat.add_assoc];simpa[World.cell?,c1] using v1,v2⟩
      have hl0:=cM wy
      have hCl:C.toList.length=C.size:=Array.length_toList
      have hre :=hs.reuse (tn:=tn) (off:=off) (rows':=rows0++news) (C':=(C.toList.take (B.o+off*wd+rows0.length*wd)++vnews++C.toList.drop (B.o+off*wd+rows0.length*wd+vnews.length)).toArray) hm2 hB hv htn2 c1
        (by simp only[List.size_toArray,kf,gh,List.length_drop,hCl];omega) hwide (by rw[hlen,Nat.add_mul];omega)
        (fun q x hq=>by
          rw[gM,List.getElem?_append] at hq
          split at hq
          · rename_i hql
            obtain⟨v,v1,v2⟩:=hrows0 q x hq
            refine⟨v,?_,v2⟩
            simp only[List.getElem?_toArray]
            rw[List.append_assoc,List.getElem?_append_left (by rw[gh,hCl];omega),List.getElem?_take,if_pos (by omega)]
            simpa using v1
          · rename_i hql
            have hlt:=(aY hq).1
            have hv':vnews[q- (flat rows0).length]? =some (vnews[q- (flat rows0).length]'(by rw[rz.1];exact hlt)):=bD _
            refine⟨_,?_,rz.2 _ x _ hq hv'⟩
            simp only[List.getElem?_toArray]
            rw [List.append_assoc,List.getElem?_append_right (by rw[gh,hCl];omega),gh,hCl,Nat.min_eq_left (by omega),List.getElem?_append_left (by
              rw[rz.1];omega),←hv']
            congr 1;omega)
      subst hk
      refine hK _ _ _ (hre.put ?_ hd)
      have :=cE.own (W:=Wr W0 (bq μ tn ⟨B.b,B.o+off*wd,wd,false,false⟩) (bk σ2.mem [(tn,MS.live wd (rows0++news) false),(tk,.dead)])) (μ:=bq μ tn ⟨B.b,B.o+off*wd,wd,false,false⟩)
        (w:=w.setRow B.b (C.toList.take (B.o+off*wd+rows0.length*wd)++vnews++C.toList.drop (B.o+off*wd+rows0.length*wd+vnews.length)).toArray) (t:=tn) (off:=0) (len:=(rows0++news).length) (cap:=sCap) (e:=e1)
        (n:=C.size) (B:=⟨B.b,B.o+off*wd,wd,false,false⟩) (by simp[bq]) rfl rfl (by rw[hlen];exact hroom)
        (by
          simp only[World.shape?,setRow_heap w B.b C _ e1 (0,0) c1,Option.some.injEq,Prod.mk.injEq,true_and]
          simp only[List.size_toArray,kf,gh,List.length_drop,hCl];omega) (by simp only[Nat.zero_add];omega)
      rw[hlen] at this ⊢
      simpa using this
    · subst h1;subst h2;subst h3
      have hv0:vnews=[]:=List.eq_nil_of_length_eq_zero (by simpa using hvl)
      subst hv0
      have hrun':(Builtin.append_ #[t,t2] o.type #[.slice bx 0 0,.slice ax 0 c]).run P w=.ok (.slice bx 0 0) w:=by
        cases bx with
        |none=>simpa[nW] using hrun
        |some ad=>simpa[nW,storeCells] using hrun
      rw[hexec _ _ hrun']
      have hdead:=hs.drop (m':=bk σ2.mem (k.map fun t=>(t,.dead))) (fun t=>by
        rw[kX]
        split
        · rename_i hm
          obtain⟨rows,hr⟩:=hb.live t hm
          exact .inr (.inl ⟨rfl,by rw[hk2 t hm,hr];intro h;cases h⟩)
        ·exact .inl rfl)
      have htnk:tn∉k:=fun h=>by
        obtain⟨rows,hr⟩:=hb.live tn h
        rw[htn] at hr;cases hr
      have hal:=hdead.nE (t:=tn) (wd:=wd) (by show bk σ2.mem _ tn=.free;rw[kX,if_neg htnk];exact htn2)
      refine hK _ _ _ (hal.put (.ownNil (B:=⟨0,0,wd,true,false⟩) (by simp[bq])) hd)
def mh (place:Nat→Option (Nat×Nat))(cs:List AV):List (Nat×AV)→Option (List AV)
  |[]=>some cs
  | (i,x)::rest=>
    match place i with
    |none=>none
    |some (off,size)=>if(cells x).length=size∧off+ (cells x).length≤cs.length∧x.mw=true then mh place (fu cs off (cells x)) rest else none
theorem yj {off:Nat}:∀ (l:List Value) (n:Nat) (C:Array Value),off+n+l.length≤C.size→
    ((l.zipIdx n).foldl (fun cs (p:Value×Nat)=>cs.setIfInBounds (off+p.2) p.1) C).toList=C.toList.take (off+n)++l++C.toList.drop (off+n+l.length)
  |[],n,C,h=>by simp
  | v ::l,n,C,h=>by
    simp only[List.zipIdx_cons,List.foldl_cons]
    simp only[List.length_cons] at h
    rw[yj l (n+1) _ (by simp;omega)]
    have hlt:off+n<C.toList.length:=by simp;omega
    apply List.ext_getElem?
    intro j
    simp only[Array.toList_setIfInBounds,List.length_cons,List.getElem?_append,kf,gh,List.length_set,List.getElem?_take,List.getElem?_drop,List.getElem?_set,List.getElem?_cons]
    rcases Nat.lt_trichotomy j (off+n) with hj|hj|hj
    · repeat' split
      all_goals first|rfl|omega|(congr 1;omega)
    · subst hj
      repeat' split
      all_goals first|rfl|omega|(congr 1;omega)|skip
    · repeat' split
      all_goals first|rfl|omega|(congr 1;omega)|skip
theorem qS {W:Nat→Prop}{μ:Mu}{w:World}{place:Nat→Option (Nat×Nat)}:∀ {ps:List (Nat×AV)} {vs:List (Nat×Value)} {cs cs':List AV} {C:Array Value},mh place cs ps=some cs'→cH W μ w cs C.toList→
    vs.length=ps.length→(∀ (j:Nat) (i:Nat) (x:AV),ps[j]? =some (i,x)→∃v,vs[j]? =some (i,v)∧cE W μ w x v)→∃C',Instr.fill place C vs=some C'∧cH W μ w cs' C'.toList
  |[],[],cs,cs',C,h,hc,_,_=>by simp[mh] at h;subst h;exact⟨C,rfl,hc⟩
  |[],v::vs,_,_,_,_,_,hl,_=>by simp at hl
  |p::ps,[],_,_,_,_,_,hl,_=>by simp at hl
  | (i, x) ::ps,(i',v)::vs,cs,cs',C,h,hc,hl,hv=>by
    obtain⟨v0,h1,h2⟩:=hv 0 i x rfl
    simp at h1
    obtain⟨rfl,rfl⟩:=h1
    simp only[mh] at h
    simp only[Instr.fill]
    cases hp:place i' with
    |none=>rw[hp] at h;cases h
    | some os=>
      obtain⟨off,size⟩:=os
      rw[hp] at h
      simp only at h ⊢
      split at h
      · rename_i hcond
        obtain⟨c1,c2,c3⟩:=hcond
        have hx:=h2.cells c3
        have hsz:v.cells.size=(cells x).length:=by rw[←hx.1];simp
        have hC:C.size=cs.length:=by rw[←hc.1];simp
        have hnot:(decide (v.cells.size≠size)||decide (off+v.cells.size>C.size))=false:=by
          simp;constructor<;>omega
        rw[show(v.cells.size≠size||off+v.cells.size>C.size)=false from hnot]
        simp only[Bool.false_eq_true,if_false]
        refine qS h ?_ (by simpa using hl) (fun j k y hj=>by have:=hv (j+1) k y (by simpa using hj);simpa using this)
        have hfold:(v.cells.zipIdx.foldl (fun cs (p:Value×Nat)=>cs.setIfInBounds (off+p.2) p.1) C).toList=C.toList.take off++v.cells.toList++C.toList.drop (off+v.cells.toList.length):=by
          rw[←Array.foldl_toList,Array.toList_zipIdx]
          exact yj (off:=off) v.cells.toList 0 C (by simp;omega)
        show cH W μ w (fu cs off (cells x)) (v.cells.zipIdx.foldl (fun cs (p:Value×Nat)=>cs.setIfInBounds (off+p.2) p.1) C).toList
        rw[hfold]
        unfold fu
        have htake:cH W μ w (cs.take off) (C.toList.take off):=⟨by simp[hC],fun j c u a b=>by
          rw[List.getElem?_take] at a b
          split at a
          ·rename_i hj;rw[if_pos hj] at b;exact hc.2 j c u a b
          ·cases a⟩
        have hdrop:cH W μ w (cs.drop (off+ (cells x).length)) (C.toList.drop (off+v.cells.toList.length)):=⟨by simp[hC,hsz],fun j c u a b=>by
          rw[List.getElem?_drop] at a b
          rw[hx.1] at b
          exact hc.2 _ c u a b⟩
        exact(htake.append hx).append hdrop
      ·cases h
theorem cH.LL {W:Nat→Prop}{μ:Mu}{w:World}{vs:List Value}{n:Nat}(h:vs.length=n):cH W μ w (List.replicate n .any) vs:=
  ⟨by simp[h],fun j c v a _=>by
    rw[List.getElem?_replicate] at a
    split at a
    ·cases a;exact .any
    ·cases a⟩
theorem vq {W:Nat→Prop}{μ:Mu}{w:World}{σ2:az}{a:Act}{parts:Array (Nat×Operand)}(hev:∀x∈parts.toList.map (·.2),cE W μ w (σ2.eval x) (a.eval x)):
    ∀ (j:Nat) (i:Nat) (x:AV),(parts.toList.map fun p=>(p.1,σ2.eval p.2))[j]? =some (i,x)→∃v,(parts.toList.map fun p=>(p.1,a.eval p.2))[j]? =some (i,v)∧cE W μ w x v:=by
  intro j i x h
  rw[fI,Option.map_eq_some_iff] at h
  obtain⟨p,h1,h2⟩:=h
  simp at h2
  obtain⟨rfl,rfl⟩:=h2
  exact⟨a.eval p.2,by rw[fI,h1];rfl,hev _ (List.mem_map.2 ⟨p,bO h1,rfl⟩)⟩
theorem aH.buildSlice {t e:TypeId}{len wd bytes:Nat}{i:TypeInfo}{zv:Value}{parts:Array (Nat×Operand)}{rows:List AV}{tk:Nat}(ho:o.op=.buildSlice t len parts)(ht:zH P t e wd bytes i zv)
    (hsm:len*wd≤2 ^24) (hr:rows.length=len) (hw:bG wd rows) (hf:mh (fun i=>some (i*wd,wd)) (List.replicate (len*wd) .any) (parts.toList.map fun p=>(p.1,σ.eval p.2))=some (flat rows))
    (hfree:σ.mem tk=.free) (hd:∀d,o.dst=some d→d<N):aH P N o σ [tk] (.own tk 0 rows.length) [(tk,.live wd rows false)]:=
  .new hfree hw (fun σ2 he2 w0 W0 L μ a w hs=>by
    obtain⟨h1,h2,h3,h4,h5,h6⟩:=ht
    have hops:o.op.operands=(parts.toList.map (·.2)).toArray:=by rw[ho];rfl
    have hmap:(parts.toList.map fun p=>(p.1,σ.eval p.2))=parts.toList.map fun p=>(p.1,σ2.eval p.2):=List.map_congr_left fun p hp=>by
      rw[he2 p.2 (by rw[hops];simp;exact⟨p.1,by simpa using hp⟩)]
    rw[hmap] at hf
    let Z:Array Value:=if len*wd=0 then #[] else zv.cells
    obtain⟨C',f1,f2⟩:=qS (W:=Wr W0 μ σ2.mem) (μ:=μ) (w:=w) (C:=(Array.range (len*wd)).map (Z[· %Z.size]!)) (vs:=parts.toList.map fun p=>(p.1,a.eval p.2)) hf (.LL (by simp)) (by simp) (vq fun x _=>hs.eval x)
    have hC':C'.size=rows.length*wd:=by have:=f2.1;rw[cM hw] at this;simpa using this
    refine⟨C',e,.slice (some ⟨w.heap.size,0,none⟩) rows.length len,w.drawn,?_,by omega,fun q c hq=>?_,.inr ⟨len,rfl,rfl,by omega,by rw[hC',hr];exact Nat.le_refl _⟩⟩
    · have hsize:(sizeOf e).run P w=.ok wd w:=by simp[sizeOf,typeInfo,h2,h3]
      have hpm:(parts.map fun(i,x)=>(i,a.eval x)).toList=parts.toList.map fun p=>(p.1,a.eval p.2):=by simp
      simp only[execOp,ho,Instr.buildSlice,Sem.run_bind,run_underlying h1,Result.andThen_ok,hsize]
      rw[if_neg (by omega)]
      by_cases hz0:len*wd=0
      · have hZ:Z= #[]:=if_pos hz0
        rw[hZ] at f1
        simp only[hz0,Array.range_zero',Array.map_empty] at f1
        simp only[hz0,if_true,Array.range_zero',Array.map_empty,pure_bind,hpm,f1]
        simp[newRow,hr]
      · have hZ:Z=zv.cells:=if_neg hz0
        rw[hZ] at f1
        simp only[hz0,if_false,Sem.run_bind,zeroValue,typeInfo,run_program,Result.andThen_ok,h2,h5,Sem.run_pure,hpm,f1]
        simp[newRow,hr]
    · have hlt:=(aY hq).1
      have hv:C'.toList[q]? =some (C'.toList[q]'(by rw[f2.1];exact hlt)):=bD _
      exact⟨_,by rw[←Array.getElem?_toList];exact hv,f2.2 q c _ hq hv⟩) hd
def s4 (P:Program)(t:TypeId)(zero:Array Value)(place:Nat→Option (Nat×Nat)):Prop:=
  ∀ parts w,(Instr.build t parts).run P w=match Instr.fill place zero parts.toList with
    |some cells=>.ok (.agg cells) w
    |none=>(Instr.build t parts).run P w
theorem aH.build {t:TypeId}{zero:Array Value}{place:Nat→Option (Nat×Nat)}{parts:Array (Nat×Operand)}{cs:List AV}(ho:o.op=.build t parts)(ht:s4 P t zero place)
    (hf:mh place (zero.toList.map .lit) (parts.toList.map fun p=>(p.1,σ.eval p.2))=some cs) (hd:∀d,o.dst=some d→d<N):aH P N o σ [] (.agg cs) []:=
  .val (fun σ2 he2 hrd w0 W0 L μ a w hs=>by
    have hops:o.op.operands=(parts.toList.map (·.2)).toArray:=by rw[ho];rfl
    have hmap:(parts.toList.map fun p=>(p.1,σ.eval p.2))=parts.toList.map fun p=>(p.1,σ2.eval p.2):=List.map_congr_left fun p hp=>by
      rw[he2 p.2 (by rw[hops];simp;exact⟨p.1,by simpa using hp⟩)]
    rw[hmap] at hf
    obtain⟨C',f1,f2⟩:=qS (W:=Wr W0 μ σ2.mem) (μ:=μ) (w:=w) (C:=zero) (vs:=parts.toList.map fun p=>(p.1,a.eval p.2)) hf (.lits _) (by simp) (vq fun x _=>hs.eval x)
    have hpm:(parts.map fun(i,x)=>(i,a.eval x)).toList=parts.toList.map fun p=>(p.1,a.eval p.2):=by simp
    have:=ht (parts.map fun(i,x)=>(i,a.eval x)) w
    rw[hpm,f1] at this
    refine⟨.agg C',by simp only[execOp,ho,Sem.run_bind,this,Result.andThen_ok,Sem.run_pure],?_⟩
    have:=cE.agg (W:=Wr W0 μ σ2.mem) (μ:=μ) (w:=w) f2.1 f2.2
    simpa using this) hd
end
def xY:Obj→Bool
  |.deferred _=>true
  |.loop _=>true
  |_=>false
structure ej (D:Nat) (w w':World):Prop where
  os:w'.os=w.os
  tape:w'.tape=w.tape
  output:w'.output=w.output
  size:w'.heap.size=w.heap.size
  blk:∀b,b≠D→w'.heap[b]? =w.heap[b]?
  book:∃o,w.heap[D]? =some o∧xY o=true
theorem ej.put {w:World}{D:Nat}{o o':Obj}(h:w.heap[D]? =some o)(hb:xY o=true):ej D w (w.putObj D o'):=
  ⟨rfl,rfl,rfl,World.putObj_size,fun _ hb=>World.putObj_heap_other hb,o,h,hb⟩
section
variable {D : Nat} {w w' : World}
theorem ej.cell (h:ej D w w'){b q:Nat}{v:Value}(hc:w.cell? ⟨b,q,none⟩=some v):w'.cell? ⟨b,q,none⟩=some v:=by
  by_cases e:b=D
  · obtain⟨o,h1,h2⟩:=h.book
    subst e
    unfold World.cell? at hc
    rw[h1] at hc
    cases o<;>simp[xY] at h2 hc
  ·rw[←hc];exact World.cell?_of_block (h.blk b e)
theorem ej.shape (h:ej D w w'){b:Nat}{e:TypeId}{n:Nat}(hc:w.shape? b=some (e,n)):w'.shape? b=some (e,n):=by
  by_cases he:b=D
  · obtain⟨o,h1,h2⟩:=h.book
    subst he
    unfold World.shape? at hc
    rw[h1] at hc
    cases o<;>simp[xY] at h2 hc
  ·rw[←hc];unfold World.shape?;rw[h.blk b he]
theorem ej.cells (h:ej D w w'){b:Nat}{c:Array Value}{e:TypeId}{fz:Nat×Nat}(hc:w.heap[b]? =some (.cells c e fz)):w'.heap[b]? =some (.cells c e fz):=by
  rw[h.blk b ?_];exact hc
  rintro rfl
  obtain⟨o,h1,h2⟩:=h.book
  rw[hc] at h1;cases h1;cases h2
theorem ej.map (h:ej D w w'){b:Nat}{es:Array MapEntry}{c:Nat}(hc:w.heap[b]? =some (.map es c)):w'.heap[b]? =some (.map es c):=by
  rw[h.blk b ?_];exact hc
  rintro rfl
  obtain⟨o,h1,h2⟩:=h.book
  rw[hc] at h1;cases h1;cases h2
theorem cE.r7 (t:ej D w w'){W:Nat→Prop}{μ:Mu}{x:AV}{v:Value}(h:cE W μ w x v):cE W μ w' x v:=by
  induction h with
  |any=>exact .any
  |lit=>exact .lit
  |guess h1 h2=>exact .guess h1 h2
  |emp=>exact .emp
  |slNil=>exact .slNil
  |sl hW hb hn hc hwd hcell _ hnr ih=>exact .sl hW (by rw[t.size];exact hb) hn hc hwd (fun q c hq=>t.cell (hcell q c hq)) (fun q c hq=>ih q c hq) hnr
  |own hm hv hp hl hs ho=>exact .own hm hv hp hl (t.shape hs) ho
  |ownNil hm=>exact .ownNil hm
  |ptr hm hp=>exact .ptr hm hp
  |mapr hm hp=>exact .mapr hm hp
  |fmap hW hb h1 h2 h3 h4 h5 _ hn ih=>exact .fmap hW (by rw[t.size];exact hb) (t.map h1) h2 h3 h4 h5 (fun i key x hi=>ih i key x hi) hn
  |fptr hW hb hcell _ hnr ih=>exact .fptr hW (by rw[t.size];exact hb) (fun q c hq=>t.cell (hcell q c hq)) (fun q c hq=>ih q c hq) hnr
  |agg hl _ ih=>exact .agg hl (fun j c v h1 h2=>ih j c v h1 h2)
  |tup hl _ ih=>exact .tup hl (fun j c v h1 h2=>ih j c v h1 h2)
  |clo h1 h2 _ _ ih1 ih2=>exact .clo h1 h2 (fun j c v a b=>ih1 j c v a b) (fun j c v a b=>ih2 j c v a b)
theorem eY.r7 (t:ej D w w'){W:Nat→Prop}{μ:Mu}{B:xI}{wd:Nat}{rows:List AV}{ro:Bool}(h:eY W μ w B wd rows ro):eY W μ w' B wd rows ro where
  width:=h.width
  wide:=h.wide
  blk hv hm:=let⟨C,e,fz,h1,h2⟩:=h.blk hv hm;⟨C,e,fz,t.cells h1,h2⟩
  virt:=h.virt
  cell hm q c hq:=let⟨v,h1,h2⟩:=h.cell hm q c hq;⟨v,t.cell h1,h2.r7 t⟩
  vm:=h.vm
  map hm:=by
    obtain⟨es,clock,h1,h2,h3,h4,hb0,h5⟩:=h.map hm
    refine⟨es,clock,t.map h1,h2,h3,h4,hb0,fun i r hr=>?_⟩
    obtain⟨key,x,e,k1,k2,k3,k4⟩:=h5 i r hr
    exact⟨key,x,e,k1,k2,k3,fun y hy=>(k4 y hy).r7 t⟩
end
section
variable {P : Program} {N : Nat} {w0 : World} {W0 : Nat → Prop} {L μ : Mu} {σ : az} {a : Act} {w w' : World} {D : Nat}
theorem cB.r7 (h:cB P N w0 W0 L μ σ a w)(t:ej D w w')(hD:w0.heap.size≤D){ds:List Deferred}(hds:Marks w0 ds w'):cB P N w0 W0 L μ σ {a with defers:=ds} w' where
  tabs:=h.tabs
  tsize:=h.tsize
  defers:=hds
  os:=t.os.trans h.os
  tape:=t.tape.trans h.tape
  output:=t.output.trans h.output
  hsize:=by rw[t.size];exact h.hsize
  shp b e n hb:=t.shape (h.shp b e n hb)
  keep b hb hl:=by rw[t.blk b (by omega)];exact h.keep b hb hl
  w0lt:=h.w0lt
  lentμ:=h.lentμ
  free:=h.free
  slots i:=(h.slots i).r7 t
  objs s wd rows ro hs:=let⟨B,h1,h2⟩:=h.objs s wd rows ro hs;⟨B,h1,h2.r7 t⟩
  inj:=h.inj
  out:=h.out
structure kL (w w':World):Prop where
  os:w'.os=w.os
  tape:w'.tape=w.tape
  output:w'.output=w.output
  size:w.heap.size≤w'.heap.size
  blk:∀b,b<w.heap.size→w'.heap[b]? =w.heap[b]?
theorem kL.shape (h:kL w w'){b:Nat}{e:TypeId}{n:Nat}(hc:w.shape? b=some (e,n)):w'.shape? b=some (e,n):=by
  rw[←hc];unfold World.shape?;rw[h.blk b ?_]
  unfold World.shape? at hc
  split at hc
  ·rename_i hh;exact(Array.getElem?_eq_some_iff.1 hh).1
  ·cases hc
theorem kL.refl:kL w w:=⟨rfl,rfl,rfl,Nat.le_refl _,fun _ _=>rfl⟩
theorem kL.trans {w'':World}(h:kL w w')(k:kL w' w''):kL w w'':=
  ⟨k.os.trans h.os,k.tape.trans h.tape,k.output.trans h.output,Nat.le_trans h.size k.size,fun b hb=>(k.blk b (jT hb h.size)).trans (h.blk b hb)⟩
theorem kL.alloc (o:Obj):kL w (w.alloc o):=
  ⟨rfl,rfl,rfl,by simp,fun b hb=>by
    show(w.heap.push o)[b]? =w.heap[b]?
    rw[Array.getElem?_push];simp[Nat.ne_of_lt hb]⟩
theorem kL.grow (h:kL w w')(W:Nat→Prop)(μ:Mu):Grow W μ w W μ w':=⟨h.size,fun b _ hb=>h.blk b hb,fun _ _ _ hs=>h.shape hs,fun _ _ hw=>hw,fun _ _ hm=>hm⟩
theorem cB.more (h:cB P N w0 W0 L μ σ a w)(m:kL w w'):cB P N w0 W0 L μ σ a w' where
  tabs:=h.tabs
  tsize:=h.tsize
  defers:=h.defers.keep fun D _ h2=>by rw[m.blk D (Array.getElem?_eq_some_iff.1 h2).1];exact h2
  os:=m.os.trans h.os
  tape:=m.tape.trans h.tape
  output:=m.output.trans h.output
  hsize:=Nat.le_trans h.hsize m.size
  shp b e n hb:=m.shape (h.shp b e n hb)
  keep b hb hl:=by rw[m.blk b (jT hb h.hsize)];exact h.keep b hb hl
  w0lt:=h.w0lt
  lentμ:=h.lentμ
  free:=h.free
  slots i:=(h.slots i).grow (m.grow _ _)
  objs s wd rows ro hs:=let⟨B,h1,h2⟩:=h.objs s wd rows ro hs;⟨B,h1,h2.grow (m.grow _ _) fun hv=>m.blk _ (h2.lt hv)⟩
  inj:=h.inj
  out:=h.out
theorem cB.leaves {fn:Func}{R:Ending→World→Prop}(hend:∀a' w',a'.tmps=a.tmps→a'.defers=[]→cB P N w0 W0 L μ σ a' w'→∃v,(results fn a.tmps).run P w'=.ok v w'∧R (.returned v) w'):
    ∀ (Ds:List Nat) (ds:List Deferred) (w:World),ds=Ds.map qM→Ds.Nodup→(∀D∈Ds,w0.heap.size≤D∧w.heap[D]? =some (.deferred (some [])))→cB P N w0 W0 L μ σ {a with defers:=ds} w→LeavesInM Fence.wide 0 P fn a.tmps R ds .returning w
  | [],ds,w,e,_,_,hs=>by
    subst e
    exact hend {a with defers:=[]} w rfl rfl hs
  | D ::Ds,ds,w,e,hd,hall,hs=>by
    subst e
    obtain⟨hge,hob⟩:=hall D (by simp)
    have hn:=List.nodup_cons.1 hd
    have t:ej D w (w.putObj D (.deferred none)):=ej.put hob rfl
    have hall':∀E∈Ds,w0.heap.size≤E∧(w.putObj D (.deferred none)).heap[E]? =some (.deferred (some [])):=fun E hE=>
      ⟨(hall E (by simp[hE])).1,by rw[t.blk E (fun e=>hn.1 (e▸hE))];exact(hall E (by simp[hE])).2⟩
    refine⟨by simp,.inl ⟨D,_,rfl,run_takeDeferred hob,?_⟩⟩
    exact cB.leaves hend Ds _ _ rfl hn.2 hall' (hs.r7 (ds:=Ds.map qM) t hge ⟨fun h0=>absurd (hs.defers.1 h0) (by simp),Ds,rfl,hn.2,hall'⟩)
theorem cB.base {w0':World}(h:cB P N w0 W0 L μ σ a w)(hh:w0'.heap=w0.heap)(ho:w0'.os=w0.os)(ht:w0'.tape=w0.tape)(hu:w0'.output=w0.output)(hm:Marks w0' a.defers w):cB P N w0' W0 L μ σ a w where
  tabs:=⟨fun g hg=>let⟨h1,h2,h3⟩:=h.tabs.1 g hg;⟨h1,by rw[hh];exact h2,fun c hc=>by rw[←h3 c hc];simp only[World.cell?,hh]⟩,fun g hg=>let⟨h1,h2,v,h3,h4⟩:=h.tabs.2 g hg;⟨h1,by rw[hh];exact h2,v,h3,by rw[←h4];simp only[World.cell?,hh]⟩⟩
  tsize:=h.tsize
  defers:=hm
  os:=h.os.trans ho.symm
  tape:=h.tape.trans ht.symm
  output:=h.output.trans hu.symm
  hsize:=by rw[hh];exact h.hsize
  shp b e n hb:=h.shp b e n (by simp only[World.shape?,hh] at hb ⊢;exact hb)
  keep b hb hl:=by rw[hh] at hb ⊢;exact h.keep b hb hl
  w0lt b hb:=by rw[hh];exact h.w0lt b hb
  lentμ:=h.lentμ
  free:=h.free
  slots:=h.slots
  objs:=h.objs
  inj:=h.inj
  out t wd rows ro B h1 h2 h3:=let k:=h.out t wd rows ro B h1 h2 h3;⟨k.1,by rw[hh];exact k.2⟩
theorem qb {f:FuncId}{fn:Func}{c:Code}{vs:List Value}{R:Ending→World→Prop}{nL:Nat}{Q:Exit→az→Prop}(hf:P.funcs[f]? =some fn)(hb:fn.body=some c)
    (h:ga P fn.ntmps nL c Q σ) (hL:∀t,nL≤t→L t=none) (hs:cB P fn.ntmps w W0 L μ σ {tmps:=vs.toArray++Array.replicate (fn.ntmps-vs.toArray.size) undef,defers:=[]} w)
    (he:∀e σ',Q e σ'→e=.normal∨e=.ret)
    (hend:∀e σ' μ' a' w',Q e σ'→cB P fn.ntmps w W0 L μ' σ' a' w'→a'.defers=[]→∃v,(results fn a'.tmps).run P w'=.ok v w'∧R (.returned v) w'):Calls P f vs.toArray w R:=by
  refine(callsIn_wide (n:=0)).1 (callsIn_of_wp_marks hf hb trivial ?_ rfl)
  have hs0:cB P fn.ntmps {w with drawn:=0} W0 L μ σ {tmps:=vs.toArray++Array.replicate (fn.ntmps-vs.toArray.size) undef,defers:=[]} w:=hs.base rfl rfl rfl rfl .nil
  refine wpIn_mono (h none (.inl rfl) _ W0 L μ _ w ⟨fun t ht _=>hL t ht,fun _=>rfl⟩ hs0) ?_
  rintro e a' w' ⟨μ',σ',hq,hs'⟩
  have key:LeavesInM Fence.wide 0 P fn a'.tmps R a'.defers .returning w':=by
    obtain⟨_,Ds,h1,h2,h3⟩:=hs'.defers
    exact cB.leaves (a:=a') (fun a2 w2 ht hd hs2=>by rw[←ht];exact hend e σ' μ' a2 w2 hq (hs2.base rfl rfl rfl rfl (by rw[hd];exact .nil)) hd) Ds _ w' h1 h2 h3 hs'
  rcases he e σ' hq with rfl|rfl<;>exact key
end
end Go.Am
