/- Abstract values and what they say of memory; rules of code over them. By an AI agent. -/
import Derived.Test.YtkhjcnjicjgfiaaGreatDoorWN1
import Derived.RangeFuncRecord
import Derived.OrdersIn
import Derived.TacticsIn
set_option linter.unusedSimpArgs false
set_option linter.unusedVariables false
namespace Go.Am
def j3 (rd:Option Nat):Fence:={Fence.wide with round:=rd}
def nc (o:Oper):Bool:=match o.op with
  |.defer _=>false
  |_=>true
def dz:Code→Bool
  |.region _ ops _=>ops.toList.all nc
  |.seq a b=>dz a&&dz b
  |.cond _ a b=>dz a&&dz b
  |.block _ c=>dz c
  |.loop c=>dz c
  |.scope c=>dz c
  |.rangeFunc _ _ _ _=>false
  |.skip=>true
  |.exit _=>true
  |.label _=>true
  |.goto _=>true
  |_=>true
theorem zC {rd:Option Nat}{P:Program}{row:String}{args:Array Value}{w:World}{R:Value→World→Prop}(h:Rows P row args w R):RowsIn (j3 rd) 0 P row args w R:=
  fun c cs _=>let⟨v,w',r,s⟩:=h c cs;⟨v,w',r,stepsIn_wide.2 s⟩
theorem om {rd:Option Nat}{n:Nat}{P:Program}{f:FuncId}{args:Array Value}{w:World}{R:Ending→World→Prop}(h:Calls P f args w R):CallsIn (j3 rd) n P f args w R:=
  (callsIn_wide (n:=n)).2 h
theorem Oper.sW {P:Program}{rd:Option Nat}{o:Oper}{a:Act}{w:World}{K:Act→World→Prop}{Q:Exit→Act→World→Prop}(hd:rd=none∨nc o=true)(h:o.wp P a w K Q):o.wpIn (j3 rd) 0 P a w K Q:=by
  refine⟨fun _ _=>trivial,?_⟩
  have e:o.semAt (j3 rd).round a.eval=execOp a.eval o:=by
    rcases hd with rfl|hd
    ·rfl
    ·exact Oper.semAt_eq _ _ _ (fun c hc=>by simp[nc,hc] at hd)
  rw[e]
  unfold Oper.wp at h
  generalize(execOp a.eval o).run P w=r at h ⊢
  cases r with
  | ok x w'=>
    cases x<;>simp only[Oper.upon,Oper.uponIn] at h ⊢ <;>
      first
        |exact h
        |exact h.elim
        |exact⟨fun h=>(by cases h),om h⟩
        |exact⟨fun h=>(by cases h),zC h⟩
  |halt x w'=>cases x<;>simp only[Oper.upon,Oper.uponIn] at h ⊢ <;>exact h
section
variable {P : Program} {N : Nat} {ops : Array Oper} {σ : az} {w0 : World} {W0 : Nat → Prop} {L μ : Mu} {a : Act} {w : World}
theorem vP {e:j6}(hg:qc P N ops e)(hh:Holds ops e σ)(h:cB P N w0 W0 L μ σ a w){K:Act→World→Prop}{Q:Exit→Act→World→Prop}
    (hK:∀μ' a' w',cB P N w0 W0 L μ' (σ.app e) a' w'→K a' w'):
    if Region.wanted e.o (yielded ops a.tmps) then e.o.wp P a w K Q else K (a.put e.o.dst undef) w:=by
  have hw:=uR h (hh.wanted hg.wanted)
  rw[hw]
  cases hwant:e.want with
  |true=>simp only[if_true];exact hg.ok hwant σ hh.eval hh.2 _ _ _ _ _ _ _ _ h hK
  | false=>
    simp only[Bool.false_eq_true,if_false]
    obtain⟨h1,h2⟩:=hg.no hwant
    refine hK μ _ _ ?_
    unfold az.app az.zV
    rw[h1,h2]
    exact h.put .lit hg.dst
theorem iR.FU {rd:Option Nat}{Q:Exit→Act→World→Prop}:∀ {l:List Oper} {σ:az} {K:List j6→az→Prop} {μ:Mu} {a:Act} {w:World},(rd=none∨l.all nc=true)→iR P N ops l σ K→cB P N w0 W0 L μ σ a w→
    (∀es σ',K es σ'→∀μ' a' w',cB P N w0 W0 L μ' σ' a' w'→Q .normal a' w')→wpListIn (j3 rd) 0 P ops Q l a w
  |[],σ,K,μ,a,w,_,h,hs,hK=>hK [] σ h μ a w hs
  | o::rest,σ,K,μ,a,w,hp,h,hs,hK=>by
    obtain⟨e,rfl,rfl,hg,hr⟩:=h
    have hp1:rd=none∨nc e.o=true:=hp.imp (fun h=>h) fun h=>by simp only[List.all_cons,bN] at h;exact h.1
    have hp2:rd=none∨rest.all nc=true:=hp.imp (fun h=>h) fun h=>by simp only[List.all_cons,bN] at h;exact h.2
    have:=vP (K:=wpListIn (j3 rd) 0 P ops Q rest) (Q:=Q) hg Holds.self hs (fun μ' a' w' h'=>iR.FU hp2 hr h' fun es σ' hk=>hK (e::es) σ' hk)
    unfold wpListIn
    split at this
    ·rename_i hw;rw[if_pos hw];exact Oper.sW hp1 this
    ·rename_i hw;rw[if_neg hw];exact⟨fun _ _=>trivial,this⟩
theorem pR {rd:Option Nat}{es:List j6}{K:az→Prop}{Q:Exit→Act→World→Prop}(hp:rd=none∨∀ (i:Nat) (o:Oper),ops[i]? =some o→nc o=true)(hf:Fits P N ops es)
    (hK:∀σ',K σ'→∀μ' a' w',cB P N w0 W0 L μ' σ' a' w'→Q .normal a' w'):
    ∀ (fuel:Nat) (listed:Array Bool) (σ:az) (μ:Mu) (a:Act) (w:World),El ops es K fuel listed σ→cB P N w0 W0 L μ σ a w→wpAnyIn (j3 rd) 0 P .any ops Q fuel listed a w
  |0,listed,σ,μ,a,w,h,hs=>⟨h.1,hK σ h.2 μ a w hs⟩
  | fuel+1,listed,σ,μ,a,w,h,hs=>by
    refine⟨fun hr=>hK σ (h.1 hr) μ a w hs,fun i hi=>?_⟩
    obtain⟨e,h1,h2,h3⟩:=h.2 i hi
    obtain⟨h4,h5⟩:=hf i e h1
    have:=vP (Q:=Q) h5 h2 hs (fun μ' a' w' h'=>pR hp hf hK fuel _ _ μ' a' w' h3 h')
    unfold wpOpIn
    simp only[h4]
    split at this
    ·rename_i hw;rw[if_pos hw];exact Oper.sW (hp.imp (fun h=>h) fun h=>h i _ h4) this
    ·rename_i hw;rw[if_neg hw];exact⟨fun _ _=>trivial,this⟩
end
def ga (P:Program)(N nL:Nat)(c:Code)(Q:Exit→az→Prop)(σ:az):Prop:=
  ∀ (rd:Option Nat),(rd=none∨dz c=true)→∀ (w0:World) (W0:Nat→Prop) (L μ:Mu) (a:Act) (w:World),((∀t,nL≤t→(t<j9∨rd=none)→L t=none)∧(rd=none→w0.drawn=0))→cB P N w0 W0 L μ σ a w→
    c.wpIn (j3 rd) 0 P (fun e a' w'=> ∃μ' σ',Q e σ'∧cB P N w0 W0 L μ' σ' a' w') a w
def EU (next:az→Prop)(Q:Exit→az→Prop):Exit→az→Prop
  |.normal,σ=>next σ
  |e,σ=>Q e σ
def uz (id:Nat)(Q:Exit→az→Prop):Exit→az→Prop
  |.exit id',σ=>if id'=id then Q .normal σ else Q (.exit id') σ
  |e,σ=>Q e σ
section
variable {P : Program} {N nL : Nat} {Q : Exit → az → Prop} {σ : az}
theorem ga.seq {x y:Code}(h:ga P N nL x (EU (ga P N nL y Q) Q) σ):ga P N nL (.seq x y) Q σ:=by
  intro rd hp w0 W0 L μ a w hL hs
  have hp1:rd=none∨dz x=true:=hp.imp (fun h=>h) fun h=>by simp only[dz,bN] at h;exact h.1
  have hp2:rd=none∨dz y=true:=hp.imp (fun h=>h) fun h=>by simp only[dz,bN] at h;exact h.2
  refine wpIn_seq (wpIn_mono (h rd hp1 w0 W0 L μ a w hL hs) ?_)
  rintro e a' w' ⟨μ',σ',hq,hs'⟩
  cases e with
  |normal=>exact hq rd hp2 w0 W0 L μ' a' w' hL hs'
  |_=>exact⟨μ',σ',hq,hs'⟩
theorem ga.skip (h:Q .normal σ):ga P N nL .skip Q σ:=fun _ _ _ _ _ μ _ _ _ hs=>wpIn_skip ⟨μ,σ,h,hs⟩
theorem ga.ret (h:Q .ret σ):ga P N nL .ret Q σ:=fun _ _ _ _ _ μ _ _ _ hs=>wpIn_ret ⟨μ,σ,h,hs⟩
theorem ga.exit {id:Nat}(h:Q (.exit id) σ):ga P N nL (.exit id) Q σ:=fun _ _ _ _ _ μ _ _ _ hs=>wpIn_exit ⟨μ,σ,h,hs⟩
theorem ga.label {l:Nat}(h:Q .normal σ):ga P N nL (.label l) Q σ:=fun _ _ _ _ _ μ _ _ _ hs=>wpIn_label ⟨μ,σ,h,hs⟩
theorem ga.cond {c:Operand}{x y:Code}{b:Bool}(hc:σ.eval c=.lit (.bool b))(ht:b=true→ga P N nL x Q σ)(hf:b=false→ga P N nL y Q σ):ga P N nL (.cond c x y) Q σ:=by
  intro rd hp w0 W0 L μ a w hL hs
  have hp1:rd=none∨dz x=true:=hp.imp (fun h=>h) fun h=>by simp only[dz,bN] at h;exact h.1
  have hp2:rd=none∨dz y=true:=hp.imp (fun h=>h) fun h=>by simp only[dz,bN] at h;exact h.2
  have h1:=hs.eval c
  rw[hc] at h1
  have hv:a.eval c=.bool b:=by generalize a.eval c=v at h1;cases h1;rfl
  refine wpIn_cond hv ?_
  cases b
  ·exact hf rfl rd hp2 w0 W0 L μ a w hL hs
  ·exact ht rfl rd hp1 w0 W0 L μ a w hL hs
theorem ga.DO {c:Operand}{x y:Code}{p q:Prop}(hc:σ.eval c=.guess p q)(ht:p→ga P N nL x Q σ)(hf:q→ga P N nL y Q σ):ga P N nL (.cond c x y) Q σ:=by
  intro rd hp w0 W0 L μ a w hL hs
  have hp1:rd=none∨dz x=true:=hp.imp (fun h=>h) fun h=>by simp only[dz,bN] at h;exact h.1
  have hp2:rd=none∨dz y=true:=hp.imp (fun h=>h) fun h=>by simp only[dz,bN] at h;exact h.2
  have h1:=hs.eval c
  rw[hc] at h1
  generalize hv:a.eval c=v at h1
  cases h1 with
  | @guess _ _ b h1 h2=>
    refine wpIn_cond hv ?_
    cases b
    ·exact hf (h2 rfl) rd hp2 w0 W0 L μ a w hL hs
    ·exact ht (h1 rfl) rd hp1 w0 W0 L μ a w hL hs
theorem ga.block {id:Nat}{c:Code}(h:ga P N nL c (uz id Q) σ):ga P N nL (.block id c) Q σ:=by
  intro rd hp w0 W0 L μ a w hL hs
  refine wpIn_block (wpIn_mono (h rd hp w0 W0 L μ a w hL hs) ?_)
  rintro e a' w' ⟨μ',σ',hq,hs'⟩
  cases e with
  | exit id'=>
    simp only[uz] at hq
    simp only[Exit.inBlock]
    split at hq
    ·rename_i h;rw[if_pos h];exact⟨μ',σ',hq,hs'⟩
    ·rename_i h;rw[if_neg h];exact⟨μ',σ',hq,hs'⟩
  |_=>exact⟨μ',σ',hq,hs'⟩
theorem ga.loop {c:Code}(I:Nat→az→Prop)(h0:∃n,I n σ)(round:∀n σ,I n σ→ga P N nL c (EU (fun σ'=> ∃m,m<n∧I m σ') Q) σ):ga P N nL (.loop c) Q σ:=by
  intro rd hp w0 W0 L μ a w hL hs
  have key:∀ (n:Nat) (σ:az) (μ:Mu) (a:Act) (w:World),I n σ→cB P N w0 W0 L μ σ a w→∀ (b:Frame) (k:List Item) (cs:List Frame),b.roundOf=(j3 rd).round→
      ∃e a' w',(∃μ' σ',Q e σ'∧cB P N w0 W0 L μ' σ' a' w')∧ArrivesIn (Machine.fenced P (j3 rd)) P (lone (b.atR a (.code c:: .inLoop c::k)) cs w) b k cs e a' w':=by
    intro n
    induction n using Nat.strongRecOn with
    | _ n ih=>
      intro σ μ a w hI hs b k cs hro
      have hr0:(j3 rd).room (cs.length+1+0):=fun _ h=>by cases h
      obtain⟨e,a₁,w₁,⟨μ₁,σ₁,hq,hs₁⟩,harr⟩:=round n σ hI rd hp w0 W0 L μ a w hL hs b (.inLoop c::k) cs hro trivial hr0
      cases e with
      | normal=>
        obtain⟨m,hm,hI'⟩:=hq
        obtain⟨e₂,a₂,w₂,hq₂,harr₂⟩:=ih m hm σ₁ μ₁ a₁ w₁ hI' hs₁ b k cs hro
        exact⟨e₂,a₂,w₂,hq₂,.of_steps (StepsIn.trans harr (.one (fenced_calm (n:=0) (fr:=b.atR a₁ (.inLoop c::k)) trivial hr0 rfl) stepR_inLoop)) harr₂⟩
      |exit id=>exact⟨_,a₁,w₁,⟨μ₁,σ₁,hq,hs₁⟩,.pass (x:=.inLoop c) rfl (fun _ _=>.inl (by simp)) harr⟩
      |goto l=>exact⟨_,a₁,w₁,⟨μ₁,σ₁,hq,hs₁⟩,.pass (x:=.inLoop c) rfl (fun _ _=>.inl (by simp)) harr⟩
      |ret=>exact⟨_,a₁,w₁,⟨μ₁,σ₁,hq,hs₁⟩,.pass (x:=.inLoop c) rfl (fun _ _=>.inl (by simp)) harr⟩
      |panic ch=>exact⟨_,a₁,w₁,⟨μ₁,σ₁,hq,hs₁⟩,.pass (x:=.inLoop c) rfl (fun _ _=>.inl (by simp)) harr⟩
      |outgrown=>exact⟨_,a₁,w₁,⟨μ₁,σ₁,hq,hs₁⟩,.pass (x:=.inLoop c) rfl (fun _ _=>.inl (by simp)) harr⟩
  intro b k cs hro hb hr
  obtain⟨n,hn⟩:=h0
  obtain⟨e,a',w',hq,harr⟩:=key n σ μ a w hn hs b k cs hro
  exact⟨e,a',w',hq,.of_steps (.one (fenced_calm (n:=0) (fr:=b.atR a (.code (.loop c)::k)) trivial hr rfl) stepR_loop) harr⟩
theorem ga.region {id:Nat}{l:List Oper}(h:iR P N l.toArray l σ (fun _ σ'=>Q .normal σ')):ga P N nL (.region id l.toArray false) Q σ:=by
  intro rd hp w0 W0 L μ a w hL hs
  exact wpIn_region_lit (h.FU (hp.imp (fun h=>h) fun h=>by simpa[dz] using h) hs fun _ σ' hq μ' a' w' hs'=>⟨μ',σ',hq,hs'⟩)
theorem ga.mono {c:Code}{Q':Exit→az→Prop}(h:ga P N nL c Q σ)(hq:∀e σ,Q e σ→Q' e σ):ga P N nL c Q' σ:=fun rd hp w0 W0 L μ a w hL hs=>
  wpIn_mono (h rd hp w0 W0 L μ a w hL hs) fun _ _ _ ⟨μ',σ',h1,h2⟩=>⟨μ',σ',hq _ _ h1,h2⟩
end
structure nv (nL:Nat) (ρ:Nat→Nat) (F:Nat→Prop) (σ' σ:az):Prop where
  slots:∀i,Cv σ.mem ρ (fun t=>σ'.mem t≠ .free) F (σ'.slots i) (σ.slots i)
  mem:∀t,σ'.mem t=.free∨(σ'.mem t=.dead∧σ.mem (ρ t)≠ .free)∨
    ∃wd rows' rows ro ro0,σ'.mem t=.live wd rows' ro∧σ.mem (ρ t)=.live wd rows ro0∧(ro=false→ro0=false)∧bG wd rows'∧gR σ.mem ρ (fun t=>σ'.mem t≠ .free) F rows' rows
  inj:∀t t' wd rows wd' rows' ro',σ'.mem t=.live wd rows false→σ'.mem t'=.live wd' rows' ro'→ρ t=ρ t'→t=t'
  frz:∀s,F s→(∃wd rows ro,σ.mem s=.live wd rows ro)∧∀t wd rows,σ'.mem t=.live wd rows false→ρ t≠s
  lent:∀t,t<nL→σ.mem t≠ .free→ρ t=t∧σ'.mem t≠ .free
theorem eY.cv {W W':Nat→Prop}{μ μ':Mu}{w:World}{B:xI}{wd:Nat}{rows rows0:List AV}{ro ro0:Bool}{m:Nat→MS}{ρ:Nat→Nat}{D F:Nat→Prop}(hobj:eY W μ w B wd rows0 ro0)(k4:gR m ρ D F rows rows0)(k3:bG wd rows)(k2:ro=false→ro0=false)
    (rep:∀x y v,Cv m ρ D F x y→cE W μ w y v→cE W' μ' w x v):eY W' μ' w B wd rows ro:=by
  refine⟨hobj.width,k3,fun hv hm=>?_,fun hv=>?_,fun hm q c hq=>?_,hobj.vm,fun hm=>?_⟩
  · obtain⟨C,e,fz,c1,c2,c3⟩:=hobj.blk hv hm
    exact⟨C,e,fz,c1,fun hr=>c2 (k2 hr),by rw[k4.1];exact c3⟩
  · have:=k4.1
    rw[hobj.virt hv] at this
    exact List.eq_nil_of_length_eq_zero this
  · have hfl:=k4.flat k3 hobj.wide
    obtain⟨d,hd⟩:∃d,(flat rows0)[q]? =some d:=⟨_,bD (by rw[←hfl.1];exact(aY hq).1)⟩
    obtain⟨v,v1,v2⟩:=hobj.cell hm q d hd
    exact⟨v,v1,rep c d v (hfl.2 q c d hq hd) v2⟩
  · obtain⟨es,clock,h1,h2,h3,h4,hb0,h5⟩:=hobj.map hm
    refine⟨es,clock,h1,h2,by rw[h3,k4.1],h4,hb0,fun i r hr=>?_⟩
    have hi:i<rows0.length:=by rw[←k4.1];exact(aY hr).1
    have hr0:=bD hi
    obtain⟨k,c,e,e1,e2,e3,e4⟩:=h5 i _ hr0
    have hcv:=k4.2 i r _ hr hr0
    have hlen:(cells r).length=(cells rows0[i]).length:=by rw[k3 i r hr,hobj.wide i _ hr0]
    have hcl:=hcv.cells hlen
    rw[e1] at hcv hcl hlen
    have hagg:∃k' c',r=.agg [k',c']:=by
      cases hcv with
      |any=>simp[cells] at hlen
      |same _=>exact⟨k,c,rfl⟩
      | @agg cs _ hl _=>
        match cs,hl with
        |[a,b],_=>exact⟨a,b,rfl⟩
    obtain⟨k',c',rfl⟩:=hagg
    refine⟨k',c',e,rfl,e2,fun key hk=>?_,fun x hx=>?_⟩
    · have h0:=hcl.2 0 k' k rfl rfl
      rw[hk] at h0
      generalize hkk:k=kk at h0
      cases h0 with
      |same _=>exact e3 key hkk
    · have h0:=hcl.2 1 c' c rfl rfl
      rw[hx] at h0
      generalize hcc:c=cc at h0
      cases h0 with
      |same hn=>exact rep x x _ (.same (by simpa[bz,br] using hn)) (e4 x hcc)
      | @tup _ ds hl hh=>
        match ds,hl with
        |[y],_=>exact rep x y _ (hh 0 x y rfl rfl) (e4 y hcc)
theorem nv.Gk {P:Program}{N nL:Nat}{w0:World}{W0:Nat→Prop}{L μ:Mu}{σ σ':az}{a a':Act}{w:World}{ρ:Nat→Nat}{F:Nat→Prop}(h:nv nL ρ F σ' σ)(hL:∀t,nL≤t→t<j9→L t=none)
    (hs:cB P N w0 W0 L μ σ a w) {N':Nat} (hsl:N'=N∧a'=a∨(∀i,σ'.slots i=.any)∧a'.tmps.size=N'∧a'.defers=[]):
    ∃μ',cB P N' w0 W0 L μ' σ' a' w∧∀x y v,Cv σ.mem ρ (fun t=>σ'.mem t≠ .free) F x y→cE (Wr W0 μ σ.mem) μ w y v→cE (Wr W0 μ' σ'.mem) μ' w x v:=by
  classical
  let μ':Mu:=fun t=>if σ'.mem t=.free then none else μ (ρ t)
  have hμ':∀t,σ'.mem t≠ .free→μ' t=μ (ρ t):=fun t ht=>if_neg ht
  have live:∀t wd rows ro,σ'.mem t=.live wd rows ro→∃rows0 ro0,σ.mem (ρ t)=.live wd rows0 ro0∧(ro=false→ro0=false)∧bG wd rows∧gR σ.mem ρ (fun t=>σ'.mem t≠ .free) F rows rows0:=by
    intro t wd rows ro ht
    rcases h.mem t with h1|⟨h1,_⟩|⟨wd',rows',rows0,ro',ro0,h1,h2,h3,h4,h5⟩
    ·rw[h1] at ht;cases ht
    ·rw[h1] at ht;cases ht
    ·rw[h1] at ht;cases ht;exact⟨rows0,ro0,h2,h3,h4,h5⟩
  have nf:∀t wd rows ro,σ'.mem t=.live wd rows ro→σ'.mem t≠ .free:=fun t wd rows ro h e=>by rw[h] at e;cases e
  have mine:∀b,iM μ' σ'.mem b→iM μ σ.mem b:=by
    rintro b ⟨t,B,wd,rows,h1,h2,h3,hv⟩
    obtain⟨rows0,ro0,k1,k2,_⟩:=live t wd rows false h1
    rw[k2 rfl] at k1
    exact⟨ρ t,B,wd,rows0,k1,by rw[←hμ' t (nf _ _ _ _ h1)];exact h2,h3,hv⟩
  have hW:∀b,b<w.heap.size→Wr W0 μ' σ'.mem b→Wr W0 μ σ.mem b:=fun b _ hb=>hb.imp id (mine b)
  have hF:∀s B,F s→μ s=some B→B.virt=false→¬Wr W0 μ' σ'.mem B.b:=by
    intro s B hs' hB hv
    obtain⟨⟨wds,rowss,ros,hlive⟩,hne⟩:=h.frz s hs'
    rintro(hw0|⟨t,B',wd,rows,h1,h2,h3,hv'⟩)
    ·exact(hs.out s _ _ _ B hlive hB hv).1 hw0
    · obtain⟨rows0,ro0,k1,k2,_⟩:=live t wd rows false h1
      rw[k2 rfl] at k1
      rw[hμ' t (nf _ _ _ _ h1)] at h2
      exact hs.inj (ρ t) s _ _ _ _ _ B' B (hne t wd rows h1) k1 hlive h2 hB hv' hv h3
  have rep:∀x y v,Cv σ.mem ρ (fun t=>σ'.mem t≠ .free) F x y→cE (Wr W0 μ σ.mem) μ w y v→cE (Wr W0 μ' σ'.mem) μ' w x v:=
    fun x y v hc hy=>hc.rep hs.objs hW hμ' hF hy
  have objs:∀t wd rows ro,σ'.mem t=.live wd rows ro→∃B,μ' t=some B∧eY (Wr W0 μ' σ'.mem) μ' w B wd rows ro:=by
    intro t wd rows ro ht
    obtain⟨rows0,ro0,k1,k2,k3,k4⟩:=live t wd rows ro ht
    obtain⟨B,hB,hobj⟩:=hs.objs (ρ t) wd rows0 ro0 k1
    exact⟨B,by rw[hμ' t (nf _ _ _ _ ht)];exact hB,hobj.cv k4 k3 k2 rep⟩
  have slots:∀i,cE (Wr W0 μ' σ'.mem) μ' w (σ'.slots i) (a'.tmps.getD i undef):=by
    intro i
    rcases hsl with⟨_,rfl⟩|⟨h1,_,_⟩
    ·exact rep _ _ _ (h.slots i) (hs.slots i)
    ·rw[h1 i];exact .any
  refine⟨μ',⟨?_,?_,hs.os,hs.tape,hs.output,hs.hsize,hs.shp,hs.keep,hs.w0lt,fun t B hb hB=>?_,fun t=>?_,slots,objs,?_,?_,hs.tabs⟩,rep⟩
  · rcases hsl with⟨h1,rfl⟩|⟨_,h1,_⟩
    ·rw[h1];exact hs.tsize
    ·exact h1
  · rcases hsl with⟨h1,rfl⟩|⟨_,_,h1⟩
    ·exact hs.defers
    ·rw[h1];exact .nil
  · have ht:t<nL:=by
      rcases Nat.lt_or_ge t nL with h'|h'
      ·exact h'
      ·rw[hL t h' hb] at hB;cases hB
    obtain⟨l1,l2⟩:=h.lent t ht (fun hf=>by have h1:=(hs.free t).1 hf;rw[hs.lentμ t B hb hB] at h1;cases h1)
    rw[hμ' t l2,l1];exact hs.lentμ t B hb hB
  · constructor
    ·intro ht;exact if_pos ht
    · intro ht
      by_cases hf:σ'.mem t=.free
      ·exact hf
      · exfalso
        rw[hμ' t hf] at ht
        have:=(hs.free (ρ t)).2 ht
        rcases h.mem t with h1|⟨_,h2⟩|⟨wd',rows',rows0,ro',ro0,h1,h2,_⟩
        ·exact hf h1
        ·exact h2 this
        ·rw[h2] at this;cases this
  · intro t t' wd rows wd' rows' ro' B B' hne h1 h2 h3 h4 v1 v2
    obtain⟨r1,o1,k1,k2,_⟩:=live _ _ _ _ h1
    obtain⟨r2,o2,k3,_⟩:=live _ _ _ _ h2
    rw[k2 rfl] at k1
    rw[hμ' t (nf _ _ _ _ h1)] at h3
    rw[hμ' t' (nf _ _ _ _ h2)] at h4
    exact hs.inj _ _ _ _ _ _ _ B B' (fun e=>hne (h.inj t t' _ _ _ _ _ h1 h2 e)) k1 k3 h3 h4 v1 v2
  · intro t wd rows ro B h1 h2 hv
    obtain⟨r1,o1,k1,k2,_⟩:=live _ _ _ _ h1
    rw[hμ' t (nf _ _ _ _ h1)] at h2
    have:=hs.out _ _ _ _ B k1 h2 hv
    exact⟨this.1,fun hr=>this.2 (k2 hr)⟩
theorem ga.qZ {P:Program}{N nL:Nat}{c:Code}{Q:Exit→az→Prop}{σ σ':az}(ρ:Nat→Nat)(F:Nat→Prop)(h:nv nL ρ F σ' σ)(hc:ga P N nL c Q σ'):ga P N nL c Q σ:=by
  intro rd hp w0 W0 L μ a w hL hs
  obtain⟨μ',hs',_⟩:=h.Gk (fun t h1 h2=>hL.1 t h1 (.inl h2)) hs (.inl ⟨rfl,rfl⟩)
  exact hc rd hp w0 W0 L μ' a w hL hs'
def aG (l:List MS):Nat→MS:=fun t=>(l[t]?).getD .free
def bare (l:List MS):az:=⟨fun _=>.any,aG l⟩
def iH:Act:={tmps:= #[],defers:=[]}
def ak (P:Program)(f:FuncId)(ins:List MS)(args:List AV)(outs:List MS)(res:AV):Prop:=
  ∀ (w:World) (W0:Nat→Prop) (L:Mu) (vs:List Value),(∀t,ins.length≤t→L t=none)→cB P 0 w W0 L L (bare ins) iH w→cH (Wr W0 L (aG ins)) L w args vs→
    Calls P f vs.toArray w fun e w'=> ∃v μ',e=.returned v∧cB P 0 w W0 L μ' (bare outs) iH w'∧cE (Wr W0 μ' (aG outs)) μ' w' res v
def jt (P:Program)(t:TypeId):Prop:=∀w,(isAgg t).run P w=.ok false w
def Da (P:Program)(t:TypeId):Prop:=∀w,(isAgg t).run P w=.ok true w
def eM (P:Program)(t:TypeId)(n:Nat):Prop:=∀w,(sizeOf t).run P w=.ok n w
def sE (P:Program)(t:TypeId)(f off:Nat)(ft:TypeId):Prop:=∀cs w,(Instr.field t (.agg cs) f).run P w=(part ft cs off).run P w
def pB (P:Program)(t:TypeId)(f off:Nat):Prop:=∀ (ad:Addr) w,(Instr.fieldAt t (.pointer (some ad)) f).run P w=.ok (.pointer (some (ad.add off))) w
def me (P:Program)(t e:TypeId):Prop:=P.underlying t=some (.slice e)
def Ai (P:Program)(t:TypeId)(n:Nat)(e:TypeId):Prop:=P.underlying t=some (.array n e)
def kO:AV→Bool
  |.agg _=>true
  |.lit (.agg _)=>true
  |_=>false
inductive oe (P:Program) (t:TypeId) (r:AV) (k:Nat):AV→Prop
  |scalar {c:AV}:jt P t→(cells r)[k]? =some c→oe P t r k c
  |full {n:Nat}:Da P t→eM P t n→k=0→(cells r).length=n→kO r=true→oe P t r k r
  |part {n:Nat}:Da P t→eM P t n→k+n≤ (cells r).length→oe P t r k (.agg (((cells r).drop k).take n))
section
variable {P : Program} {N : Nat} {σ : az} {o : Oper}
theorem oe.run {t:TypeId}{r x:AV}{k b q0:Nat}{W:Nat→Prop}{μ:Mu}{w:World}(h:oe P t r k x)
    (hc:∀ (q:Nat) (c:AV),(cells r)[q]? =some c→∃v,w.cell? ⟨b,q0+q,none⟩=some v∧cE W μ w c v):
    ∃v,(loadVar t ⟨b,q0+k,none⟩).run P w=.ok v w∧cE W μ w x v:=by
  have agg:∀n,Da P t→eM P t n→k+n≤ (cells r).length→∃vs:List Value,(loadVar t ⟨b,q0+k,none⟩).run P w=.ok (.agg vs.toArray) w∧cH W μ w (((cells r).drop k).take n) vs:=by
    intro n h1 h2 h3
    have key:∀j,∃v,j<n→∃c,(cells r)[k+j]? =some c∧w.cell? ⟨b,q0+ (k+j),none⟩=some v∧cE W μ w c v:=fun j=>by
      by_cases hj:j<n
      · obtain⟨c,hcj⟩:∃c,(cells r)[k+j]? =some c:=⟨_,bD (by omega)⟩
        obtain⟨v,h4,h5⟩:=hc _ c hcj
        exact⟨v,fun _=>⟨c,hcj,h4,h5⟩⟩
      ·exact⟨undef,fun h=>absurd h hj⟩
    obtain⟨f,hf⟩:=Classical.skolem.1 key
    refine⟨(List.range n).map f,?_,?_⟩
    · simp only[loadVar,Sem.run_bind,h1 w,h2 w,Result.andThen_ok,if_true]
      rw [run_loadCells w ⟨b,q0+k,none⟩ n f (fun j hj=>by
        obtain⟨c,_,h5,_⟩:=hf j hj
        rw[Addr.add_lit,Nat.add_assoc];exact h5)]
      rfl
    · refine⟨by simp[gh,List.length_drop];omega,fun j c v h4 h5=>?_⟩
      rw[List.getElem?_take] at h4
      split at h4
      · rename_i hj
        rw[List.getElem?_drop] at h4
        obtain⟨c',h6,_,h7⟩:=hf j hj
        rw[h4] at h6;cases h6
        simp[hj] at h5
        rw[←h5];exact h7
      ·cases h4
  cases h with
  | scalar h1 h2=>
    obtain⟨v,h3,h4⟩:=hc k x h2
    refine⟨v,?_,h4⟩
    simp[loadVar,h1 w,h3]
  | full h1 h2 h3 h4 h5=>
    subst h3
    obtain⟨vs,k1,k2⟩:=agg _ h1 h2 (by omega)
    refine⟨_,k1,?_⟩
    have hd:((cells r).drop 0).take (cells r).length=cells r:=by simp
    rw[←h4,hd] at k2
    cases r with
    |agg cs=>exact .agg k2.1 k2.2
    | lit z=>
      cases z with
      | agg xs=>
        have:=k2.Bn
        rw[this];exact .lit
      |_=>simp[kO] at h5
    |_=>simp[kO] at h5
  | part h1 h2 h3=>
    obtain⟨vs,k1,k2⟩:=agg _ h1 h2 h3
    exact⟨_,k1,.agg k2.1 k2.2⟩
theorem aH.val {rd:List Nat}{x:AV}
    (h :∀ (σ2:az),(∀y∈o.op.operands,σ2.eval y=σ.eval y)→(∀t∈rd,σ2.mem t=σ.mem t)→∀ (w0:World) (W0:Nat→Prop) (L μ:Mu) (a:Act) (w:World),cB P N w0 W0 L μ σ2 a w→
      ∃v,(execOp a.eval o).run P w=.ok (.value v) w∧cE (Wr W0 μ σ2.mem) μ w x v) (hd:∀d,o.dst=some d→d<N):aH P N o σ rd x []:=by
  intro σ2 he hr w0 W0 L μ a w K Q hs hK
  obtain⟨v,h1,h2⟩:=h σ2 he hr w0 W0 L μ a w hs
  unfold Oper.wp
  rw[h1]
  exact hK μ _ _ (hs.put h2 hd)
theorem aH.move {y:Operand}(ho:o.op=.move y)(hd:∀d,o.dst=some d→d<N):aH P N o σ [] (σ.eval y) []:=
  .val (fun σ2 he _ w0 W0 L μ a w hs=>⟨a.eval y,by simp[execOp,ho],by rw[←he y (by simp[ho,Op.operands])];exact hs.eval y⟩) hd
theorem aH.assign {y:Operand}(ho:o.op=.assign y)(hd:∀d,o.dst=some d→d<N):aH P N o σ [] (σ.eval y) []:=
  .val (fun σ2 he _ w0 W0 L μ a w hs=>⟨a.eval y,by simp[execOp,ho],by rw[←he y (by simp[ho,Op.operands])];exact hs.eval y⟩) hd
theorem cE.val {W:Nat→Prop}{μ:Mu}{w:World}{x v:Value}(h:cE W μ w (.lit x) v):v=x:=by cases h;rfl
theorem aH.lits {ρ:Operand→Value}{r:Value}(hs:∀cs b,o.op≠ .select cs b)(hρ:∀y∈o.op.operands,σ.eval y=.lit (ρ y))(hr:∀w,(execOp ρ o).run P w=.ok (.value r) w)
    (hd:∀d,o.dst=some d→d<N):aH P N o σ [] (.lit r) []:=
  .val (fun σ2 he _ w0 W0 L μ a w h=>⟨r,by
    rw[execOp_congr (ρ':=ρ) o hs (fun y hy=>?_)]
    ·exact hr w
    · have:=h.eval y
      rw[he y hy,hρ y hy] at this
      exact this.val,.lit⟩) hd
theorem aH.Mx {y:Operand}{x r:Value}{f:Value→Sem Value}(hx:∀ρ:Operand→Value,execOp ρ o=do pure (.value (←f (ρ y))))(hy:o.op.operands= #[y])(he:σ.eval y=.lit x)
    (hr:∀w,(f x).run P w=.ok r w) (hd:∀d,o.dst=some d→d<N):aH P N o σ [] (.lit r) []:=
  .val (fun σ2 he2 _ w0 W0 L μ a w h=>⟨r,by
    have:=h.eval y
    rw[he2 y (by simp[hy]),he] at this
    rw[hx,this.val];simp[hr w],.lit⟩) hd
theorem aH.bin {y z:Operand}{x1 x2 r:Value}{f:Value→Value→Sem Value}(hx:∀ρ:Operand→Value,execOp ρ o=do pure (.value (←f (ρ y) (ρ z))))(hy:o.op.operands= #[y,z])
    (he:σ.eval y=.lit x1) (he':σ.eval z=.lit x2) (hr:∀w,(f x1 x2).run P w=.ok r w) (hd:∀d,o.dst=some d→d<N):aH P N o σ [] (.lit r) []:=
  .val (fun σ2 he2 _ w0 W0 L μ a w h=>⟨r,by
    have h1:=h.eval y
    have h2:=h.eval z
    rw[he2 y (by simp[hy]),he] at h1
    rw[he2 z (by simp[hy]),he'] at h2
    rw[hx,h1.val,h2.val];simp[hr w],.lit⟩) hd
theorem aH.pick {c y z:Operand}{b:Bool}{x:AV}(ho:o.op=.pick c y z)(hc:σ.eval c=.lit (.bool b))(hx:x=if b then σ.eval y else σ.eval z)(hd:∀d,o.dst=some d→d<N):aH P N o σ [] x []:=
  .val (fun σ2 he _ w0 W0 L μ a w hs=>by
    have h1:=hs.eval c
    rw[he c (by simp[ho,Op.operands]),hc] at h1
    refine⟨if b then a.eval y else a.eval z,by simp[execOp,ho,h1.val,asBool],?_⟩
    rw[hx]
    cases b
    ·simp only[Bool.false_eq_true,if_false];rw[←he z (by simp[ho,Op.operands])];exact hs.eval z
    ·simp only[if_true];rw[←he y (by simp[ho,Op.operands])];exact hs.eval y) hd
theorem aH.extract {y:Operand}{i:Nat}{vs:List AV}{x:AV}(ho:o.op=.extract y i)(he:σ.eval y=.tup vs)(hx:vs[i]? =some x)(hd:∀d,o.dst=some d→d<N):aH P N o σ [] x []:=
  .val (fun σ2 he2 _ w0 W0 L μ a w hs=>by
    have h1:=hs.eval y
    rw[he2 y (by simp[ho,Op.operands]),he] at h1
    generalize hv:a.eval y=v at h1
    cases h1 with
    | @tup cs us a1 a2=>
      have hi:=(aY hx).1
      have hu:us[i]? =some us[i]:=bD (by omega)
      refine⟨us[i],?_,a2 i x _ hx hu⟩
      simp[execOp,ho,hv,Instr.extract,hu]) hd
theorem aH.field {y:Operand}{t ft:TypeId}{f off:Nat}{cs:List AV}{x:AV}(ho:o.op=.field t y f)(he:σ.eval y=.agg cs)(hf:sE P t f off ft)
    (hx:oe P ft (.agg cs) off x) (hd:∀d,o.dst=some d→d<N):aH P N o σ [] x []:=
  .val (fun σ2 he2 _ w0 W0 L μ a w hs=>by
    have h1:=hs.eval y
    rw[he2 y (by simp[ho,Op.operands]),he] at h1
    generalize hv:a.eval y=v at h1
    cases h1 with
    | @agg _ us a1 a2=>
      have hpart:∃v,(part ft us.toArray off).run P w=.ok v w∧cE (Wr W0 μ σ2.mem) μ w x v:=by
        cases hx with
        | scalar k1 k2=>
          have hi:=(aY k2).1
          simp only[cells] at hi k2
          have hu:us[off]? =some us[off]:=bD (by omega)
          exact⟨us[off],by simp[part,k1 w,hu],a2 off x _ k2 hu⟩
        | full k1 k2 k3 k4 k5=>
          subst k3
          refine⟨.agg us.toArray,?_,.agg a1 a2⟩
          simp only[cells] at k4
          simp[part,k1 w,k2 w,←k4,←a1]
        | @part n k1 k2 k3=>
          refine⟨.agg ((us.drop off).take n).toArray,?_,.agg ?_ ?_⟩
          ·simp[part,k1 w,k2 w,List.extract_eq_take_drop]
          ·simp[cells,a1]
          · intro j c v h4 h5
            simp only[cells] at h4
            rw[List.getElem?_take] at h4 h5
            split at h4
            · rename_i hj
              rw[if_pos hj] at h5
              rw[List.getElem?_drop] at h4 h5
              exact a2 _ _ _ h4 h5
            ·cases h4
      obtain⟨v,p1,p2⟩:=hpart
      refine⟨v,?_,p2⟩
      simp[execOp,ho,hv,hf us.toArray w,p1]) hd
theorem aH.xP {y:Operand}{t:TypeId}{tk i k wd:Nat}{rows:List AV}{ro:Bool}{r x:AV}(ho:o.op=.load t y)(he:σ.eval y=.ptr tk i k)(hm:σ.mem tk=.live wd rows ro)
    (hr:rows[i]? =some r) (hx:oe P t r k x) (hd:∀d,o.dst=some d→d<N):aH P N o σ [tk] x []:=
  .val (fun σ2 he2 hrd w0 W0 L μ a w hs=>by
    have h1:=hs.eval y
    rw[he2 y (by simp[ho,Op.operands]),he] at h1
    have hm2:σ2.mem tk=.live wd rows ro:=by rw[hrd tk (by simp)];exact hm
    obtain⟨B,hB,hobj⟩:=hs.objs tk wd rows ro hm2
    generalize hv:a.eval y=v at h1
    cases h1 with
    | ptr a1 ap=>
      rw[hB] at a1;cases a1
      have:=hx.run (b:=B.b) (q0:=B.o+i*B.wd) (w:=w) (fun q c hq=>by
        obtain⟨v,h2,h3⟩:=hobj.cell ap _ c (eE hobj.wide hr hq)
        exact⟨v,by rw[hobj.width,Nat.add_assoc];exact h2,h3⟩)
      obtain⟨v,h2,h3⟩:=this
      refine⟨v,?_,h3⟩
      rw[←Nat.add_assoc] at hv
      simp[execOp,ho,hv,Instr.loadAt,Instr.sureAddr,h2]) hd
theorem aH.C9 {y:Operand}{t:TypeId}{k:Nat}{r x:AV}(ho:o.op=.load t y)(he:σ.eval y=.fptr r k)(hx:oe P t r k x)(hd:∀d,o.dst=some d→d<N):aH P N o σ [] x []:=
  .val (fun σ2 he2 hrd w0 W0 L μ a w hs=>by
    have h1:=hs.eval y
    rw[he2 y (by simp[ho,Op.operands]),he] at h1
    generalize hv:a.eval y=v at h1
    cases h1 with
    | @fptr e k b q0 f a1 a2 a3 a4 _=>
      obtain⟨v,h2,h3⟩:=hx.run (b:=b) (q0:=q0) (w:=w) (fun q c hq=>⟨f q,a3 q c hq,a4 q c hq⟩)
      refine⟨v,?_,h3⟩
      simp[execOp,ho,hv,Instr.loadAt,Instr.sureAddr,h2]) hd
theorem aH.uP {y:Operand}{t:TypeId}{f off tk i k:Nat}(ho:o.op=.fieldAddr t y f)(he:σ.eval y=.ptr tk i k)(hf:pB P t f off)
    (hd:∀d,o.dst=some d→d<N):aH P N o σ [] (.ptr tk i (k+off)) []:=
  .val (fun σ2 he2 hrd w0 W0 L μ a w hs=>by
    have h1:=hs.eval y
    rw[he2 y (by simp[ho,Op.operands]),he] at h1
    generalize hv:a.eval y=v at h1
    cases h1 with
    | @ptr _ _ _ B a1 ap=>
      refine⟨.pointer (some ⟨B.b,B.o+ (i*B.wd+ (k+off)),none⟩),?_,.ptr a1 ap⟩
      simp[execOp,ho,hv,hf ⟨B.b,B.o+ (i*B.wd+k),none⟩ w,Addr.add_lit,Nat.add_assoc]) hd
theorem aH.tZ {y:Operand}{t:TypeId}{f off k:Nat}{r:AV}(ho:o.op=.fieldAddr t y f)(he:σ.eval y=.fptr r k)(hf:pB P t f off)
    (hd:∀d,o.dst=some d→d<N):aH P N o σ [] (.fptr r (k+off)) []:=
  .val (fun σ2 he2 hrd w0 W0 L μ a w hs=>by
    have h1:=hs.eval y
    rw[he2 y (by simp[ho,Op.operands]),he] at h1
    generalize hv:a.eval y=v at h1
    cases h1 with
    | @fptr e k b q0 g a1 a2 a3 a4 a5=>
      refine⟨.pointer (some ⟨b,q0+ (k+off),none⟩),?_,.fptr a1 a2 a3 a4 a5⟩
      simp[execOp,ho,hv,hf ⟨b,q0+k,none⟩ w,Addr.add_lit,Nat.add_assoc]) hd
theorem aH.nilCheck {y:Operand}{x:AV}(ho:o.op=.nilCheck y)(he:σ.eval y=x)(hx:(∃t i k,x=.ptr t i k)∨(∃r k,x=.fptr r k))(hd:∀d,o.dst=some d→d<N):aH P N o σ [] x []:=
  .val (fun σ2 he2 hrd w0 W0 L μ a w hs=>by
    have h1:=hs.eval y
    rw[he2 y (by simp[ho,Op.operands]),he] at h1
    refine⟨a.eval y,?_,h1⟩
    generalize hv:a.eval y=v at h1
    rcases hx with⟨t,i,k,rfl⟩|⟨r,k,rfl⟩
    ·cases h1;simp[execOp,ho,hv]
    ·cases h1;simp[execOp,ho,hv]) hd
theorem aH.DE {y z:Operand}{t e:TypeId}{tk off len wd:Nat}{kd:IntKind}{i:Int}(ho:o.op=.indexAddr t y z)(he:σ.eval y=.own tk off len)(hz:σ.eval z=.lit (.int kd i))
    (ht:me P t e) (hsz:eM P e wd) (h0:0≤i) (h1:i<len) (hwd:∃rows ro,σ.mem tk=.live wd rows ro) (hd:∀d,o.dst=some d→d<N):aH P N o σ [tk] (.ptr tk (off+i.toNat) 0) []:=
  .val (fun σ2 he2 hrd w0 W0 L μ a w hs=>by
    have k1:=hs.eval y
    have k2:=hs.eval z
    rw[he2 y (by simp[ho,Op.operands]),he] at k1
    rw[he2 z (by simp[ho,Op.operands]),hz] at k2
    obtain⟨rows,ro,hm⟩:=hwd
    have hm2:σ2.mem tk=.live wd rows ro:=by rw[hrd tk (by simp)];exact hm
    obtain⟨B,hB,hobj⟩:=hs.objs tk wd rows ro hm2
    generalize hv:a.eval y=v at k1
    cases k1 with
    | own a1 _ ap a2 a3 a4=>
      rw[hB] at a1;cases a1
      refine⟨.pointer (some ⟨B.b,B.o+ ((off+i.toNat)*B.wd+0),none⟩),?_,.ptr hB ap⟩
      simp[execOp,ho,hv,k2.val,Instr.indexAt,asIntOf,run_underlying ht,hsz w,h0,h1,Addr.add_lit,hobj.width,Nat.add_mul,Nat.add_assoc]
    |ownNil a1=>simp at h1;omega) hd
theorem aH.Fq {y z:Operand}{t e:TypeId}{wd:Nat}{rows:List AV}{r:AV}{kd:IntKind}{i:Int}(ho:o.op=.indexAddr t y z)(he:σ.eval y=.sl wd rows)(hz:σ.eval z=.lit (.int kd i))
    (ht:me P t e) (hsz:eM P e wd) (h0:0≤i) (hr:rows[i.toNat]? =some r) (hd:∀d,o.dst=some d→d<N):aH P N o σ [] (.fptr r 0) []:=
  .val (fun σ2 he2 hrd w0 W0 L μ a w hs=>by
    have k1:=hs.eval y
    have k2:=hs.eval z
    rw[he2 y (by simp[ho,Op.operands]),he] at k1
    rw[he2 z (by simp[ho,Op.operands]),hz] at k2
    have hlt:=(aY hr).1
    have h1:i<rows.length:=by omega
    generalize hv:a.eval y=v at k1
    cases k1 with
    |slNil=>simp at hr
    | @sl _ _ b q0 cap n f a1 a2 a3 a4 a5 a6 a7 a8=>
      refine⟨.pointer (some ⟨b,q0+i.toNat*wd+0,none⟩),?_,.fptr (f:=fun q=>f (i.toNat*wd+q)) a1 a2 (fun q c hq=>?_) (fun q c hq=>a7 _ c (eE a5 hr hq)) (fun c hc=>by
        obtain⟨q,hq⟩:=List.getElem?_of_mem hc
        exact a8 c (bO (eE a5 hr hq)))⟩
      · subst a3
        simp[execOp,ho,hv,k2.val,Instr.indexAt,asIntOf,run_underlying ht,hsz w,h0,h1,Addr.add_lit]
      ·rw[Nat.add_assoc];exact a6 _ c (eE a5 hr hq)) hd
theorem aH.CU {y z:Operand}{t e:TypeId}{tk i0 k0 wd n:Nat}{kd:IntKind}{i:Int}(ho:o.op=.indexAddr t y z)(he:σ.eval y=.ptr tk i0 k0)(hz:σ.eval z=.lit (.int kd i))
    (ht:Ai P t n e) (hsz:eM P e wd) (h0:0≤i) (h1:i<n) (hd:∀d,o.dst=some d→d<N):aH P N o σ [] (.ptr tk i0 (k0+i.toNat*wd)) []:=
  .val (fun σ2 he2 hrd w0 W0 L μ a w hs=>by
    have k1:=hs.eval y
    have k2:=hs.eval z
    rw[he2 y (by simp[ho,Op.operands]),he] at k1
    rw[he2 z (by simp[ho,Op.operands]),hz] at k2
    generalize hv:a.eval y=v at k1
    cases k1 with
    | @ptr _ _ _ B a1 ap=>
      refine⟨.pointer (some ⟨B.b,B.o+ (i0*B.wd+ (k0+i.toNat*wd)),none⟩),?_,.ptr a1 ap⟩
      simp[execOp,ho,hv,k2.val,Instr.indexAt,asIntOf,run_underlying ht,hsz w,h0,h1,Addr.add_lit,Instr.sureAddr,Nat.add_assoc]) hd
theorem aH.len {y:Operand}{t:TypeId}{x:AV}{n:Nat}{e:TypeId}(ho:o.op=.call {callee:=.builtin .len,args:= #[y],argTypes:= #[t]})(he:σ.eval y=x)(ht:me P t e)
    (hx:(∃tk off,x=.own tk off n)∨(∃wd rows,x=.sl wd rows∧n=rows.length)∨(∃a c,x=.lit (.slice a n c))) (hd:∀d,o.dst=some d→d<N):aH P N o σ [] (.lit (.int .i64 n)) []:=
  .val (fun σ2 he2 hrd w0 W0 L μ a w hs=>by
    have k1:=hs.eval y
    rw[he2 y (by simp[ho,Op.operands,Call.operands]),he] at k1
    refine⟨.int .i64 n,?_,.lit⟩
    have hv:∃a' c,a.eval y=.slice a' n c:=by
      generalize a.eval y=v at k1
      rcases hx with⟨tk,off,rfl⟩|⟨wd,rows,rfl,rfl⟩|⟨a',c,rfl⟩
      ·cases k1<;>exact⟨_,_,rfl⟩
      · cases k1 with
        |slNil=>exact⟨_,_,rfl⟩
        |sl a1 a2 a3 a4 a5 a6 a7=>subst a3;exact⟨_,_,rfl⟩
      ·cases k1;exact⟨_,_,rfl⟩
    obtain⟨a',c,hv⟩:=hv
    simp[execOp,ho,resolve,invoke,builtin,hv,Builtin.len_,run_underlying ht,goInt]) hd
theorem aH.GU {y:Operand}{t:TypeId}{s:ByteArray}(ho:o.op=.call {callee:=.builtin .len,args:= #[y],argTypes:= #[t]})(he:σ.eval y=.lit (.string s))(ht:P.underlying t=some .string)
    (hd:∀d,o.dst=some d→d<N):aH P N o σ [] (.lit (.int .i64 s.size)) []:=
  .val (fun σ2 he2 hrd w0 W0 L μ a w hs=>by
    have k1:=hs.eval y
    rw[he2 y (by simp[ho,Op.operands,Call.operands]),he] at k1
    refine⟨.int .i64 s.size,?_,.lit⟩
    simp[execOp,ho,resolve,invoke,builtin,k1.val,Builtin.len_,run_underlying ht,goInt]) hd
theorem aH.makeFunc {fn:Fn}{first cap:Array Operand}(ho:o.op=.makeFunc fn first cap)(hd:∀d,o.dst=some d→d<N):aH P N o σ [] (.clo fn (first.toList.map σ.eval) (cap.toList.map σ.eval)) []:=
  .val (fun σ2 he2 hrd w0 W0 L μ a w hs=>by
    refine⟨.func fn (first.toList.map a.eval).toArray (cap.toList.map a.eval).toArray,by simp[execOp,ho,Instr.makeFunc];exact⟨by rw[←Array.toList_map],by rw[←Array.toList_map]⟩,.clo (by simp) (by simp) (fun j c v h1 h2=>?_) (fun j c v h1 h2=>?_)⟩
    · simp only[fI,Option.map_eq_some_iff] at h1 h2
      obtain⟨p,h3,rfl⟩:=h1
      obtain⟨q,h4,rfl⟩:=h2
      rw[h3] at h4;cases h4
      rw[←he2 p (by simp[ho,Op.operands];exact .inl (by simpa using bO h3))]
      exact hs.eval p
    · simp only[fI,Option.map_eq_some_iff] at h1 h2
      obtain⟨p,h3,rfl⟩:=h1
      obtain⟨q,h4,rfl⟩:=h2
      rw[h3] at h4;cases h4
      rw[←he2 p (by simp[ho,Op.operands];exact .inr (by simpa using bO h3))]
      exact hs.eval p) hd
theorem lF {P:Program}{lo hi:Option Value}{l h len cap:Nat}(hl:lo=none∧l=0∨∃k,lo=some (.int k l))(hh:hi=none∧h=len∨∃k,hi=some (.int k h))(h1:l≤h)(h2:h≤cap)(w:World):
    (Instr.sliceBounds true len cap lo hi none).run P w=.ok (l,h,cap) w:=by
  have hb:∀ (k:IntKind) (i y:Nat) (c:BoundsCode),i≤y→(Instr.sliceBound (.int k i) y c).run P w=.ok i w:=fun k i y c hi=>by
    rw[run_sliceBound w k i y c (by omega) (by omega)];simp
  rcases hl with⟨rfl,rfl⟩|⟨kl,rfl⟩<;>rcases hh with⟨rfl,rfl⟩|⟨kh,rfl⟩<;>simp[Instr.sliceBounds,hb,h1,h2]
theorem aH.Df {y:Operand}{lo hi:Option Operand}{t e:TypeId}{tk off len l h wd:Nat}(ho:o.op=.slice t y lo hi none)(he:σ.eval y=.own tk off len)
    (hl:lo=none∧l=0∨∃z k,lo=some z∧σ.eval z=.lit (.int k l)) (hh:hi=none∧h=len∨∃z k,hi=some z∧σ.eval z=.lit (.int k h)) (h1:l≤h) (h2:h≤len)
    (ht:me P t e) (hsz:eM P e wd) (hwd:∃rows ro,σ.mem tk=.live wd rows ro) (hd:∀d,o.dst=some d→d<N):aH P N o σ [tk] (.own tk (off+l) (h-l)) []:=
  .val (fun σ2 he2 hrd w0 W0 L μ a w hs=>by
    have k1:=hs.eval y
    rw[he2 y (by simp[ho,Op.operands]),he] at k1
    obtain⟨rows,ro,hm⟩:=hwd
    have hm2:σ2.mem tk=.live wd rows ro:=by rw[hrd tk (by simp)];exact hm
    obtain⟨B,hB,hobj⟩:=hs.objs tk wd rows ro hm2
    have hl':lo.map a.eval=none∧l=0∨∃k,lo.map a.eval=some (.int k l):=by
      rcases hl with⟨rfl,rfl⟩|⟨z,k,rfl,hz⟩
      ·exact .inl ⟨rfl,rfl⟩
      · have:=hs.eval z
        rw[he2 z (by simp[ho,Op.operands]),hz] at this
        exact .inr ⟨k,by simp[this.val]⟩
    have hh':hi.map a.eval=none∧h=len∨∃k,hi.map a.eval=some (.int k h):=by
      rcases hh with⟨rfl,rfl⟩|⟨z,k,rfl,hz⟩
      ·exact .inl ⟨rfl,rfl⟩
      · have:=hs.eval z
        rw[he2 z (by simp[ho,Op.operands]),hz] at this
        exact .inr ⟨k,by simp[this.val]⟩
    have hnone:(none:Option Operand).map a.eval=none:=rfl
    generalize hv:a.eval y=v at k1
    cases k1 with
    | @own _ _ _ cap e' n B' a1 av ap a2 a3 a4=>
      rw[hB] at a1;cases a1
      have hbr:=lF (P:=P) hl' hh' h1 (Nat.le_trans h2 a2) w
      refine⟨.slice (if cap=l then some ⟨B.b,B.o+off*B.wd,none⟩ else some ⟨B.b,B.o+off*B.wd+l*wd,none⟩) (h-l) (cap-l),?_,?_⟩
      ·simp only[execOp,ho,hv,Instr.sliceAt,Instr.slice,Sem.run_bind,run_underlying ht,Result.andThen_ok,hnone,hbr,hsz w,Sem.run_pure,Option.map_some,Addr.add_lit]
      · by_cases hc:cap=l
        · subst hc
          have:h-cap=0:=by omega
          rw[this,if_pos rfl,Nat.sub_self]
          exact .ownNil hB
        · rw[if_neg hc]
          have:=cE.own (W:=Wr W0 μ σ2.mem) (off:=off+l) (len:=h-l) (cap:=cap-l) hB av ap (by omega) a3 (by rw[show off+l+ (cap-l)=off+cap from by omega];exact a4)
          rw[Nat.add_mul,←Nat.add_assoc,hobj.width] at this
          rw[hobj.width];exact this
    | @ownNil _ _ a' _ a1=>
      have hbr:=lF (P:=P) hl' hh' h1 h2 w
      have hl0:l=0:=by omega
      have hh0:h=0:=by omega
      subst hl0;subst hh0
      exact⟨.slice a' 0 0,by simp only[execOp,ho,hv,Instr.sliceAt,Instr.slice,Sem.run_bind,run_underlying ht,Result.andThen_ok,hnone,hbr,hsz w,Sem.run_pure,if_true,Nat.sub_self],.ownNil hB⟩) hd
theorem aH.Is {op:BinOp}{y z:Operand}{t yt e:TypeId}{x:AV}{n:Nat}(ho:o.op=.binOp op t y z yt)(hop:op=.eql∨op=.neq)(he:σ.eval y=x)(hz:σ.eval z=.lit (.slice none 0 0))(ht:me P t e)
    (hx:(∃tk off,x=.own tk off n)∨(∃wd rows,x=.sl wd rows∧n=rows.length)) (hd:∀d,o.dst=some d→d<N):
    aH P N o σ [] (if op=.eql then .guess (n=0) True else .guess True (n=0)) []:=
  .val (fun σ2 he2 hrd w0 W0 L μ a w hs=>by
    have k1:=hs.eval y
    have k2:=hs.eval z
    rw[he2 y (by simp[ho,Op.operands]),he] at k1
    rw[he2 z (by simp[ho,Op.operands]),hz] at k2
    have hv:∃ad c,a.eval y=.slice ad n c∧(ad=none→n=0):=by
      generalize a.eval y=v at k1
      rcases hx with⟨tk,off,rfl⟩|⟨wd,rows,rfl,rfl⟩
      · cases k1 with
        |own=>exact⟨_,_,rfl,fun h=>by cases h⟩
        |ownNil=>exact⟨_,_,rfl,fun _=>rfl⟩
      · cases k1 with
        |slNil=>exact⟨_,_,rfl,fun _=>rfl⟩
        |sl a1 a2 a3 a4 a5 a6 a7=>subst a3;exact⟨_,_,rfl,fun h=>by cases h⟩
    obtain⟨ad,c,hv,hn⟩:=hv
    have heq:(Op.equal t (.slice ad n c) (.slice none 0 0)).run P w=.ok ad.isNone w:=by
      show(Op.equalIn (9999+1) t (.slice ad n c) (.slice none 0 0)).run P w=_
      rw[Op.equalIn]
      cases ad<;>simp[run_underlying ht]
    rcases hop with rfl|rfl
    · refine⟨.bool ad.isNone,?_,?_⟩
      ·simp[execOp,ho,hv,k2.val,eqGuard,Go.binOp,heq]
      · simp only[if_true]
        exact .guess (fun h=>hn (by simpa using h)) (fun _=>trivial)
    · refine⟨.bool (!ad.isNone),?_,?_⟩
      ·simp[execOp,ho,hv,k2.val,eqGuard,Go.binOp,heq]
      · simp only[reduceCtorEq,if_false]
        exact .guess (fun _=>trivial) (fun h=>hn (by simpa using h))) hd
end
def fu (cs:List AV)(k:Nat)(xs:List AV):List AV:=cs.take k++xs++cs.drop (k+xs.length)
theorem uo {cs xs:List AV}{k:Nat}(h:k+xs.length≤cs.length):(fu cs k xs).length=cs.length:=by
  simp[fu,gh,List.length_drop];omega
theorem yV {cs xs:List AV}{k j:Nat}(h:k+xs.length≤cs.length):(fu cs k xs)[j]? =if k≤j∧j<k+xs.length then xs[j-k]? else cs[j]? :=by
  unfold fu
  rw[List.append_assoc,List.getElem?_append,gh,Nat.min_eq_left (by omega)]
  split
  ·rename_i h1;rw[if_neg (by omega),List.getElem?_take,if_pos h1]
  · rename_i h1
    rw[List.getElem?_append]
    split
    ·rename_i h2;rw[if_pos (by omega)]
    ·rename_i h2;rw[if_neg (by omega),List.getElem?_drop];congr 1;omega
inductive rf (P:Program) (t:TypeId) (r:AV) (k:Nat) (x:AV):AV→Prop
  |full {n:Nat}:eM P t n→(cells x).length=n→(cells r).length=n→k=0→rf P t r k x x
  |part {n:Nat}:eM P t n→(cells x).length=n→k+n≤ (cells r).length→rf P t r k x (.agg (fu (cells r) k (cells x)))
theorem rf.cells {P:Program}{t:TypeId}{r x r':AV}{k:Nat}(h:rf P t r k x r'):eM P t (Am.cells x).length∧k+ (Am.cells x).length≤ (Am.cells r).length∧Am.cells r'=fu (Am.cells r) k (Am.cells x):=by
  cases h with
  | full h1 h2 h3 h4=>
    subst h4
    refine⟨by rw[h2];exact h1,by omega,?_⟩
    simp only[fu,List.take_zero,List.nil_append,Nat.zero_add]
    rw[List.drop_eq_nil_of_le (by omega),List.append_nil]
  |part h1 h2 h3=>exact⟨by rw[h2];exact h1,by omega,rfl⟩
def kP (cs:List AV):Bool:=cs.all AV.one
theorem cH.one {W:Nat→Prop}{μ:Mu}{w:World}{cs:List AV}{vs:List Value}(h:cH W μ w cs vs)(ho:kP cs=true):∀v∈vs,v.oneCell'=true:=by
  intro v hv
  obtain⟨j,hj⟩:=List.getElem?_of_mem hv
  have hlt:=(aY hj).1
  have hjc:j<cs.length:=by rw[←h.1];exact hlt
  have hc:cs[j]? =some cs[j]:=bD hjc
  exact(h.2 j _ v hc hj).one (List.all_eq_true.1 ho _ (bO hc))
theorem bG.set {wd:Nat}{rows:List AV}(h:bG wd rows){i:Nat}{r:AV}(hr:(cells r).length=wd):bG wd (rows.set i r):=by
  intro j s hs
  rw[List.getElem?_set] at hs
  split at hs
  · split at hs
    ·cases hs;exact hr
    ·cases hs
  ·exact h j s hs
section
variable {P : Program} {N : Nat} {σ : az} {o : Oper}
theorem cB.sF {w0:World}{W0:Nat→Prop}{L μ:Mu}{a:Act}{w:World}{ups:List (Nat×MS)}(h:cB P N w0 W0 L μ ⟨σ.slots,bk σ.mem ups⟩ a w){dst:Option Tmp}{x:AV}{v:Value}
    (hx:cE (Wr W0 μ (bk σ.mem ups)) μ w x v) (hd:∀d,dst=some d→d<N):cB P N w0 W0 L μ (σ.zV dst x ups) (a.put dst v) w:=h.put hx hd
theorem aH.store {y z:Operand}{t:TypeId}{tk i k wd:Nat}{rows:List AV}{r r' x:AV}(ho:o.op=.store t y z)(he:σ.eval y=.ptr tk i k)(hz:σ.eval z=x)(hm:σ.mem tk=.live wd rows false)
    (hr:rows[i]? =some r) (hx:rf P t r k x r') (hone:kP (cells x)=true) (hsol:x.mw=true) (hd:o.dst=none):aH P N o σ [tk] .any [(tk,.live wd (rows.set i r') false)]:=by
  intro σ2 he2 hrd w0 W0 L μ a w K Q hs hK
  have h1:=hs.eval y
  have h2:=hs.eval z
  rw[he2 y (by simp[ho,Op.operands]),he] at h1
  rw[he2 z (by simp[ho,Op.operands]),hz] at h2
  have hm2:σ2.mem tk=.live wd rows false:=by rw[hrd tk (by simp)];exact hm
  obtain⟨B,hB,hobj⟩:=hs.objs tk wd rows false hm2
  have hvirt:=hobj.real hr
  have ap:B.mp=false:=by
    generalize hv:a.eval y=v at h1
    cases h1 with
    |ptr a1 ap=>rw[hB] at a1;cases a1;exact ap
  obtain⟨C,e,fz,c1,c2,c3⟩:=hobj.blk hvirt ap
  rw[c2 rfl] at c1
  obtain⟨s1,s2,s3⟩:=hx.cells
  have hrow:=hobj.wide i r hr
  have hilt:=(aY hr).1
  have hcx:=h2.cells hsol
  have hrun :∃C',(execOp a.eval o).run P w=.ok .skip (w.setRow B.b C')∧C'.size=C.size∧
      ∀q,C'[q]? =if B.o+ (i*wd+k)≤q∧q<B.o+ (i*wd+k)+ (cells x).length then(a.eval z).cells.toList[q- (B.o+ (i*wd+k))]? else C[q]? :=by
    generalize hv:a.eval y=v at h1
    cases h1 with
    | ptr a1 _=>
      rw[hB] at a1;cases a1
      have hle:B.o+ (i*wd+k)+0+ (a.eval z).cells.toList.length≤C.size:=by
        rw[hcx.1]
        have:(i+1)*wd≤rows.length*wd:=Nat.mul_le_mul_right _ hilt
        rw[Nat.add_mul] at this
        omega
      have hst:=run_storeCells_at (P:=P) B.b (B.o+ (i*wd+k)) e (a.eval z).cells.toList 0 C w c1 hle (hcx.one hone)
      have hsz:(a.eval z).cells.size=(cells x).length:=by rw[←hcx.1];simp
      simp only[Nat.add_zero] at hst
      refine⟨(C.toList.take (B.o+ (i*wd+k))++ (a.eval z).cells.toList++C.toList.drop (B.o+ (i*wd+k)+ (a.eval z).cells.toList.length)).toArray,?_,?_,?_⟩
      · simp only[execOp,ho,hv,Instr.storeAt,Instr.sureAddr,storeVar,Sem.run_bind,Sem.run_pure,Result.andThen_ok,s1 w,hobj.width,hsz,ne_eq,not_true,if_false]
        rw[hst];rfl
      · simp only[Nat.add_zero] at hle
        simp only[List.size_toArray,kf,gh,List.length_drop,Array.length_toList]
        simp only[Array.length_toList] at hle
        omega
      · intro q
        simp only[Nat.add_zero] at hle
        have hl2:(a.eval z).cells.toList.length=(cells x).length:=hcx.1
        simp only[List.getElem?_toArray]
        rw[List.append_assoc,List.getElem?_append,gh,Nat.min_eq_left (by simp only[Array.length_toList] at hle ⊢;omega)]
        split
        ·rename_i hq;rw[if_neg (by omega),List.getElem?_take,if_pos hq];simp
        · rename_i hq
          rw[List.getElem?_append]
          split
          ·rename_i hq2;rw[if_pos (by omega)]
          · rename_i hq2;rw[if_neg (by omega),List.getElem?_drop]
            simp only[Array.getElem?_toList]
            congr 1;omega
  obtain⟨C',k1,k2,k3⟩:=hrun
  have hr'w:(cells r').length=wd:=by rw[s3,uo s2];exact hrow
  have hs' :=hs.setObj (rows':=rows.set i r') hm2 hB hvirt ap c1 k2 (by simp) (hobj.wide.set hr'w) (fun q c hq=>by
    obtain⟨i',j,s,q1,q2,q3,q4⟩:=qo (hobj.wide.set hr'w) hq
    subst q1
    rw[List.getElem?_set] at q2
    by_cases hii:i=i'
    · subst hii
      rw[if_pos rfl,if_pos hilt] at q2;cases q2
      rw[s3,yV s2] at q3
      split at q3
      · rename_i hj
        have hv:(a.eval z).cells.toList[j-k]? =some ((a.eval z).cells.toList[j-k]'(by rw[hcx.1];omega)):=bD _
        refine⟨_,?_,hcx.2 _ _ _ q3 hv⟩
        rw[k3,if_pos (by omega),←hv];congr 1;omega
      · rename_i hj
        obtain⟨v,v1,v2⟩:=hobj.cell ap _ c (eE hobj.wide hr q3)
        refine⟨v,?_,v2⟩
        rw[k3,if_neg (by omega)]
        simpa[World.cell?,c1] using v1
    · rw [if_neg hii] at q2
      obtain⟨v,v1,v2⟩:=hobj.cell ap _ c (eE hobj.wide q2 q3)
      refine⟨v,?_,v2⟩
      have hne:¬ (B.o+ (i*wd+k)≤B.o+ (i'*wd+j)∧B.o+ (i'*wd+j)<B.o+ (i*wd+k)+ (cells x).length):=by
        rintro⟨n1,n2⟩
        rcases Nat.lt_or_gt_of_ne hii with h|h
        · have:(i+1)*wd≤i'*wd:=Nat.mul_le_mul_right _ h
          rw[Nat.add_mul] at this
          omega
        · have:(i'+1)*wd≤i*wd:=Nat.mul_le_mul_right _ h
          rw[Nat.add_mul] at this
          omega
      rw[k3,if_neg hne]
      simpa[World.cell?,c1] using v1)
  unfold Oper.wp
  rw[k1]
  refine hK μ _ _ ?_
  rw[hd]
  exact hs'
theorem aH.new {tk wd:Nat}{rows:List AV}{x:AV}(hf:σ.mem tk=.free)(hw:bG wd rows)
    (h : ∀ (σ2:az),(∀y∈o.op.operands,σ2.eval y=σ.eval y)→∀ (w0:World) (W0:Nat→Prop) (L μ:Mu) (a:Act) (w:World),cB P N w0 W0 L μ σ2 a w→
      ∃ (C:Array Value) (e:TypeId) (v:Value) (n:Nat),(execOp a.eval o).run P w=.ok (.value v) ({w with drawn:=n}.alloc (.cells C e))∧rows.length*wd≤C.size∧
        (∀ (q:Nat) (c:AV),(flat rows)[q]? =some c→∃v,C[q]? =some v∧cE (Wr W0 μ σ2.mem) μ w c v)∧
        (x=.ptr tk 0 0∧v=.pointer (some ⟨w.heap.size,0,none⟩)∨∃cap,x=.own tk 0 rows.length∧v=.slice (some ⟨w.heap.size,0,none⟩) rows.length cap∧rows.length≤cap∧cap*wd≤C.size))
    (hd:∀d,o.dst=some d→d<N):aH P N o σ [tk] x [(tk,.live wd rows false)]:=by
  intro σ2 he2 hrd w0 W0 L μ a w K Q hs hK
  obtain⟨C,e,v,n,h1,h2,h3,h4⟩:=h σ2 he2 w0 W0 L μ a w hs
  have hs1:=hs.drawn n
  have hf2:σ2.mem tk=.free:=by rw[hrd tk (by simp)];exact hf
  have g:Grow (Wr W0 μ σ2.mem) μ w (Wr W0 μ σ2.mem) μ {w with drawn:=n}:=⟨Nat.le_refl _,fun _ _ _=>rfl,fun _ _ _ h=>h,fun _ _ h=>h,fun _ _ h=>h⟩
  have hs2:=hs1.alloc (e:=e) hf2 hw h2 (fun q c hq=>let⟨v,a1,a2⟩:=h3 q c hq;⟨v,a1,a2.grow g⟩)
  unfold Oper.wp
  rw[h1]
  refine hK _ _ _ (cB.sF hs2 ?_ hd)
  rcases h4 with⟨rfl,rfl⟩|⟨cap,rfl,rfl,h5,h6⟩
  · have:=cE.ptr (W:=Wr W0 (bq μ tk ⟨w.heap.size,0,wd,false,false⟩) (bk σ2.mem [(tk,MS.live wd rows false)])) (μ:=bq μ tk ⟨w.heap.size,0,wd,false,false⟩) (w:=World.alloc {w with drawn:=n} (.cells C e)) (t:=tk) (i:=0) (k:=0) (B:=⟨w.heap.size,0,wd,false,false⟩) (by simp[bq]) rfl
    simpa using this
  · have:=cE.own (W:=Wr W0 (bq μ tk ⟨w.heap.size,0,wd,false,false⟩) (bk σ2.mem [(tk,MS.live wd rows false)])) (μ:=bq μ tk ⟨w.heap.size,0,wd,false,false⟩) (w:=World.alloc {w with drawn:=n} (.cells C e)) (t:=tk) (off:=0) (len:=rows.length) (cap:=cap) (e:=e) (n:=C.size) (B:=⟨w.heap.size,0,wd,false,false⟩)
      (by simp[bq]) rfl rfl h5 (by simp only[World.shape?];rw[show w.heap.size=({w with drawn:=n}:World).heap.size from rfl,heap_alloc_new]) (by simpa using h6)
    simpa using this
theorem aH.box {y:Operand}{t:TypeId}{tk:Nat}{x:AV}(ho:o.op=.box t y)(he:σ.eval y=x)(hsol:x.mw=true)(hf:σ.mem tk=.free)(hd:∀d,o.dst=some d→d<N):
    aH P N o σ [tk] (.ptr tk 0 0) [(tk,.live (cells x).length [x] false)]:=
  .new hf (.cons rfl (.nil _)) (fun σ2 he2 w0 W0 L μ a w hs=>by
    have h1:=hs.eval y
    rw[he2 y (by simp[ho,Op.operands]),he] at h1
    have hc:=h1.cells hsol
    refine⟨(a.eval y).cells,t,.pointer (some ⟨w.heap.size,0,none⟩),w.drawn,?_,?_,fun q c hq=>?_,.inl ⟨rfl,rfl⟩⟩
    ·simp[execOp,ho,Instr.box,newVar,newRow]
    ·have:=hc.1;simp at this;simp[this]
    · simp[flat] at hq
      have hq':=(aY hq).1
      have hv:(a.eval y).cells.toList[q]? =some ((a.eval y).cells.toList[q]'(by rw[hc.1];exact hq')):=bD _
      exact⟨_,by rw[←Array.getElem?_toList];exact hv,hc.2 q c _ hq hv⟩) hd
def n7:Value→AV
  |.agg xs=>.agg (xs.toList.map .lit)
  |x=>.lit x
theorem rA {W:Nat→Prop}{μ:Mu}{w:World}(x:Value):cE W μ w (n7 x) x:=by
  cases x with
  | agg xs=>
    have:=cH.lits (W:=W) (μ:=μ) (w:=w) xs.toList
    have h:cE W μ w (.agg (xs.toList.map .lit)) (.agg xs.toList.toArray):=.agg this.1 this.2
    simpa[n7] using h
  |_=>exact .lit
theorem yY (x:Value):(n7 x).mw=true:=by cases x<;>rfl
def jj (P:Program)(t:TypeId)(z:Value):Prop:=∀w,(zeroValue t).run P w=.ok z w
theorem aH.alloc {t:TypeId}{tk:Nat}{z:Value}(ho:o.op=.alloc t)(hz:jj P t z)(hf:σ.mem tk=.free)(hd:∀d,o.dst=some d→d<N):
    aH P N o σ [tk] (.ptr tk 0 0) [(tk,.live (cells (n7 z)).length [n7 z] false)]:=
  .new hf (.cons rfl (.nil _)) (fun σ2 he2 w0 W0 L μ a w hs=>by
    have hc:=(rA (W:=Wr W0 μ σ2.mem) (μ:=μ) (w:=w) z).cells (yY z)
    refine⟨z.cells,t,.pointer (some ⟨w.heap.size,0,none⟩),w.drawn,?_,?_,fun q c hq=>?_,.inl ⟨rfl,rfl⟩⟩
    ·simp[execOp,ho,Instr.alloc,hz w,newVar,newRow]
    ·have:=hc.1;simp at this;simp[this]
    · simp[flat] at hq
      have hq':=(aY hq).1
      have hv:z.cells.toList[q]? =some (z.cells.toList[q]'(by rw[hc.1];exact hq')):=bD _
      exact⟨_,by rw[←Array.getElem?_toList];exact hv,hc.2 q c _ hq hv⟩) hd
end
end Go.Am
