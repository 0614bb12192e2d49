/- Abstract values and what they say of memory; rules of code over them. By an AI agent. -/
import Derived.Test.YtkhjcnjicjgfiaaGreatDoorWN5
import Derived.Below
import Derived.Laws.IdiomStrings
import Derived.Laws.Concat
import Derived.Laws.Strings3
import Derived.Laws.Entries
set_option linter.unusedSimpArgs false
set_option linter.unusedVariables false
namespace Go.Am
open Go Go.RowKit
theorem sj {w w':World}(h:Below w.heap.size w w'):∀b e n,w.shape? b=some (e,n)→w'.shape? b=some (e,n):=fun b e n hb=>by
  have hb':b<w.heap.size:=by
    rcases Nat.lt_or_ge b w.heap.size with h'|h'
    ·exact h'
    ·simp[World.shape?,Array.getElem?_eq_none h'] at hb
  simpa[World.shape?,h.block b hb'] using hb
theorem kg.below {P:Program}{w w':World}(h:kg P w fun _=>none)(hb:Below w.heap.size w w'):kg P w' fun _=>none:=by
  refine⟨fun g hg=>?_,fun g hg=>?_⟩
  · obtain⟨h1,h2,h3⟩:=h.1 g hg
    refine⟨h1,jT h2 hb.size,fun c hc=>?_⟩
    rw[←h3 c hc]
    simp only[World.cell?,hb.block g h2]
  · obtain⟨h1,h2,v,h3,h4⟩:=h.2 g hg
    refine⟨h1,jT h2 hb.size,v,h3,?_⟩
    rw[←h4]
    simp only[World.cell?,hb.block g h2]
theorem Dg {P:Program}(w:World)(ht:kg P w fun _=>none):cB P 0 w (fun _=>False) (fun _=>none) (fun _=>none) (bare []) iH w where
  tabs:=ht
  tsize:=rfl
  defers:=.nil
  os:=rfl
  tape:=rfl
  output:=rfl
  hsize:=Nat.le_refl _
  shp _ _ _ h:=h
  keep _ _ _:=rfl
  w0lt _ h:=h.elim
  lentμ _ _ _ h:=by cases h
  free t:=by simp[bare,aG]
  slots _:=.any
  objs t wd rows ro h:=by simp[bare,aG] at h
  inj t t' wd rows wd' rows' ro' B B' _ h:=by simp[bare,aG] at h
  out t wd rows ro B h:=by simp[bare,aG] at h
theorem ak.below {P:Program}{f:FuncId}{vs:List Value}{v:Value}(h:ak P f [] (vs.map .lit) [] (.lit v))(w:World)(ht:kg P w fun _=>none):Calls P f vs.toArray w fun e w'=>e=.returned v∧Below w.heap.size w w':=by
  refine(h w (fun _=>False) (fun _=>none) vs (fun _ _=>rfl) (Dg w ht) (cH.lits vs)).mono ?_
  rintro e w' ⟨v',μ',rfl,hs,hv⟩
  cases hv
  exact⟨rfl,hs.os,hs.tape,hs.output,hs.hsize,fun b hb=>hs.keep b hb (by rintro⟨t,B,h,_⟩;cases h)⟩
theorem ak.jG {P:Program}{f:FuncId}{vs:List Value}{v:Value}(h:∀w,kg P w (fun _=>none)→Calls P f vs.toArray w fun e w'=>e=.returned v∧Below w.heap.size w w'):ak P f [] (vs.map .lit) [] (.lit v):=by
  intro w W0 L us hL hs hr
  have:=cH.Bn hr
  subst this
  refine(h w (hs.qm fun b h=>by obtain⟨_,_,h,_⟩:=h;cases h)).mono ?_
  rintro e w' ⟨rfl,hb⟩
  have hL':L=fun _=>none:=funext fun t=>hL t (Nat.zero_le _)
  subst hL'
  refine⟨_,fun _=>none,rfl,?_,.lit⟩
  exact{  tabs:=hs.tabs,tsize:=rfl,defers:=.nil,os:=hb.os,tape:=hb.tape,output:=hb.output,hsize:=hb.size,shp:=sj hb,keep:=fun b h1 _=>hb.block b h1,w0lt:=hs.w0lt,lentμ:=fun _ _ _ h=>h,free:=fun t=>by simp[bare,aG],
          slots:=fun _=>.any,objs:=fun t wd rows ro h=>by simp[bare,aG] at h,inj:=fun t t' wd rows wd' rows' ro' B B' _ h=>by simp[bare,aG] at h,out:=fun t wd rows ro B h=>by simp[bare,aG] at h}
end Go.Am
namespace Go.Am
open Go
section
variable {P : Program} {N : Nat} {σ : az} {o : Oper}
theorem iG:∀ {l:List Nat} {t:Nat},t∈l→l[l.idxOf t]? =some t
  | x ::r,t,h=>by
    rw[List.idxOf_cons]
    by_cases e:x=t
    ·subst e;simp
    · have hr:t∈r:=by rcases dU.1 h with h|h;exact absurd h.symm e;exact h
      have:(x==t)=false:=by simpa using e
      rw[this];simpa using iG hr
theorem AJ:∀ {l:List Nat} {k t:Nat},l.Nodup→l[k]? =some t→l.idxOf t=k:=by
  intro l k t hn hk
  have h1:=iG (bO hk)
  have hk':=(aY hk).1
  have h1':=(aY h1).1
  exact(List.getElem?_inj h1' hn).1 (by rw[h1,hk])
theorem sR {m:Nat→MS}:∀ {names:List Nat} {news:List MS} {t:Nat},bk m (names.zip news) t=if t∈names then(news[names.idxOf t]?).getD (m t) else m t
  |[],_,t=>by simp[bk]
  |x::r,[],t=>by simp[bk]
  | x ::r,s::q,t=>by
    simp only[List.zip_cons_cons,bk]
    rw[sR,List.idxOf_cons]
    by_cases e:t=x
    ·subst e;simp
    · have:(x==t)=false:=by simpa using fun h=>e h.symm
      rw[this]
      simp[e]
theorem oN {l:List MS}{k:Nat}{s:MS}(h:l[k]? =some s):aG l k=s:=by simp[aG,h]
theorem aH.c7 {f:FuncId}{ys args:List AV}{ins outs news:List MS}{res x:AV}(names T:List Nat)(hto:gu σ o f ys)(hc:aq P f)
    (hargs:gR σ.mem (names.getD · 0) (· <ins.length) (· ∈T) args ys)
    (hT:∀t∈T,∃wd rows ro,σ.mem t=.live wd rows ro) (hTn:∀t∈T,t∉names) (hnd:names.Nodup)
    (hib:ins.length≤j9) (hil:ins.length≤names.length) (hnl:news.length=names.length)
    (hins:∀ (k:Nat) (s:MS) (t:Nat),ins[k]? =some s→names[k]? =some t→∃wd rows rows0,s=.live wd rows0 false∧σ.mem t=.live wd rows false∧(bG wd rows→bG wd rows0)∧gR σ.mem (names.getD · 0) (· <ins.length) (· ∈T) rows0 rows)
    (hfree:∀ (k:Nat) (t:Nat),ins.length≤k→names[k]? =some t→σ.mem t=.free)
    (hf:ak P f ins args outs res)
    (hnews:∀ (k:Nat) (s:MS),news[k]? =some s→(∃wd rows rows0,s=.live wd rows false∧outs[k]? =some (.live wd rows0 false)∧(bG wd rows0→bG wd rows)∧gR (aG outs) (names.idxOf ·) (· ∈names) (fun _=>False) rows rows0)∨(s=.dead∧outs[k]? =some .dead))
    (hx:Cv (aG outs) (names.idxOf ·) (· ∈names) (fun _=>False) x res) (hd:∀d,o.dst=some d→d<N):
    aH P N o σ (T++names) x (names.zip news++T.map fun t=>(t,lJ (σ.mem t))):=by
  intro σ2 he2 hrd w0 W0 L μ a w K Q hs hK
  obtain⟨vs,h1,h2⟩:=hto.run hc he2 hs
  have hrdT:∀t∈T,σ2.mem t=σ.mem t:=fun t ht=>hrd t (by simp[ht])
  have hrdN:∀t∈names,σ2.mem t=σ.mem t:=fun t ht=>hrd t (by simp[ht])
  have hargs2:gR σ2.mem (names.getD · 0) (· <ins.length) (· ∈T) args ys:=⟨hargs.1,fun q c d a b=>(hargs.2 q c d a b).congr hrdT⟩
  have hins2:∀ (k:Nat),k<ins.length→∃t wd rows rows0,names[k]? =some t∧ins[k]? =some (.live wd rows0 false)∧σ2.mem t=.live wd rows false∧bG wd rows0∧gR σ2.mem (names.getD · 0) (· <ins.length) (· ∈T) rows0 rows:=by
    intro k hk
    have hn:names[k]? =some (names[k]'(jT hk hil)):=bD _
    have hi:ins[k]? =some (ins[k]'hk):=bD _
    obtain⟨wd,rows,rows0,e1,e2,e3,e4⟩:=hins k _ _ hi hn
    rw[e1] at hi
    have e2':σ2.mem (names[k]'(jT hk hil))=.live wd rows false:=by rw[hrdN _ (bO hn)];exact e2
    obtain⟨B,_,hobj⟩:=hs.objs _ _ _ _ e2'
    exact⟨_,wd,rows,rows0,hn,hi,e2',e3 hobj.wide,e4.1,fun q c d a b=>(e4.2 q c d a b).congr hrdT⟩
  have hfree2:∀k t,ins.length≤k→names[k]? =some t→σ2.mem t=.free:=fun k t h1 h2=>by rw[hrdN t (bO h2)];exact hfree k t h1 h2
  have hT2:∀t∈T,∃wd rows ro,σ2.mem t=.live wd rows ro:=fun t ht=>by rw[hrdT t ht];exact hT t ht
  clear hargs hins hfree hT
  classical
  let L':Mu:=fun k=>if k<ins.length then(names[k]?).bind μ else none
  have hL:∀k B,L' k=some B→∃t wd rows rows0,k<ins.length∧names[k]? =some t∧ins[k]? =some (.live wd rows0 false)∧σ2.mem t=.live wd rows false∧μ t=some B∧bG wd rows0∧gR σ2.mem (names.getD · 0) (· <ins.length) (· ∈T) rows0 rows:=by
    intro k B h
    by_cases hk:k<ins.length
    · obtain⟨t,wd,rows,rows0,e1,e2,e3,e4,e5⟩:=hins2 k hk
      simp only[L',if_pos hk,e1,Option.bind_some] at h
      exact⟨t,wd,rows,rows0,hk,e1,e2,e3,h,e4,e5⟩
    ·simp only[L',if_neg hk] at h;cases h
  have hLget:∀k t,k<ins.length→names[k]? =some t→L' k=μ t:=fun k t h1 h2=>by simp only[L',if_pos h1,h2,Option.bind_some]
  have hmem:∀k wd rows0 ro,aG ins k=.live wd rows0 ro→k<ins.length∧ins[k]? =some (.live wd rows0 ro):=by
    intro k wd rows0 ro h
    cases hk:ins[k]? with
    |none=>simp[aG,hk] at h
    |some s=>simp[aG,hk] at h;subst h;exact⟨(aY hk).1,rfl⟩
  have hWr:∀b,b<w.heap.size→Wr (fun b=>Wr W0 μ σ2.mem b∧¬tY μ (T++names) b) L' (aG ins) b→Wr W0 μ σ2.mem b:=by
    rintro b hb (h|⟨k,B,wd,rows,h1,h2,rfl,h4⟩)
    ·exact h.1
    · obtain⟨t,wd',rows',rows0,_,e1,e2,e3,e4,_⟩:=hL k B h2
      exact .inr ⟨t,B,wd',rows',e3,e4,rfl,h4⟩
  have hDr:∀k,k<ins.length→L' k=μ (names.getD k 0):=by
    intro k hk
    obtain⟨t,wd,rows,rows0,e1,_⟩:=hins2 k hk
    rw[hLget k t hk e1]
    simp[List.getD,e1]
  have hFr:∀s B,s∈T→μ s=some B→B.virt=false→¬Wr (fun b=>Wr W0 μ σ2.mem b∧¬tY μ (T++names) b) L' (aG ins) B.b:=by
    rintro s B hsT hB hv (h|⟨k,B',wd,rows,h1,h2,h3,h4⟩)
    ·exact h.2 ⟨s,by simp[hsT],B,hB,rfl,hv⟩
    · obtain⟨t,wd',rows',rows0,_,e1,e2,e3,e4,_⟩:=hL k B' h2
      obtain⟨wd2,rows2,ro2,hl⟩:=hT2 s hsT
      exact hs.inj t s _ _ _ _ _ B' B (fun e=>hTn s hsT (e▸bO e1)) e3 hl e4 hB h4 hv h3
  have hrep0:∀x y v,Cv σ2.mem (names.getD · 0) (· <ins.length) (· ∈T) x y→cE (Wr W0 μ σ2.mem) μ w y v→cE (Wr (fun b=>Wr W0 μ σ2.mem b∧¬tY μ (T++names) b) L' (aG ins)) L' w x v:=
    fun x y v hcv hy=>hcv.rep hs.objs hWr hDr hFr hy
  have hsim:cB P 0 w (fun b=>Wr W0 μ σ2.mem b∧¬tY μ (T++names) b) L' L' (bare ins) iH w:=by
    refine{tabs:=?tabs,tsize:=rfl,defers:=.nil,os:=rfl,tape:=rfl,output:=rfl,hsize:=Nat.le_refl _,shp:=fun _ _ _ h=>h,keep:=fun _ _ _=>rfl,w0lt:=?_,lentμ:=fun _ _ _ h=>h,free:=?_,slots:=fun _=>.any,objs:=?_,inj:=?_,out:=?_}
    case tabs=>
      refine hs.qm ?_
      rintro b ⟨k,B,k1,rfl,k3⟩
      obtain⟨t,wd,rows,rows0,_,_,_,e3,e4,_⟩:=hL k B k1
      exact(hs.out t wd rows false B e3 e4 k3).2 rfl
    · rintro b ⟨h|⟨t,B,wd,rows,h1,h2,rfl,h4⟩,_⟩
      ·exact jT (hs.w0lt b h) hs.hsize
      ·exact hs.dO h1 h2 h4
    · intro k
      show aG ins k=.free↔L' k=none
      by_cases hk:k<ins.length
      · obtain⟨t,wd,rows,rows0,e1,e2,e3,_⟩:=hins2 k hk
        obtain⟨B,hB,_⟩:=hs.objs t _ _ _ e3
        rw[oN e2,hLget k t hk e1,hB]
        simp
      ·simp only[L',if_neg hk,aG,mD (Nat.le_of_not_lt hk),Option.getD_none]
    · intro k wd rows0 ro h
      obtain⟨hk,h2⟩:=hmem k wd rows0 ro h
      obtain⟨t,wd',rows,rows0',e1,e2,e3,e4,e5⟩:=hins2 k hk
      rw[h2] at e2;cases e2
      obtain⟨B,hB,hobj⟩:=hs.objs t _ _ _ e3
      exact⟨B,by rw[hLget k t hk e1];exact hB,hobj.cv e5 e4 (fun _=>rfl) hrep0⟩
    · intro k k' wd rows wd' rows' ro' B B' hne h3 h4 h5 h6 v1 v2
      obtain⟨t,_,_,_,_,e1,_,e3,e4,_⟩:=hL k B h5
      obtain⟨t',_,_,_,_,f1,_,f3,f4,_⟩:=hL k' B' h6
      refine hs.inj t t' _ _ _ _ _ B B' (fun e=>hne ?_) e3 f3 e4 f4 v1 v2
      rw[←AJ hnd e1,←AJ hnd f1,e]
    · intro k wd rows ro B h h5 hv
      obtain⟨t,_,_,_,_,e1,_,e3,e4,_⟩:=hL k B h5
      exact⟨fun hb=>hb.2 ⟨t,by simp[bO e1],B,e4,rfl,hv⟩,fun _=>.inr ⟨k,B,h5,rfl,hv⟩⟩
  have hargsR:cH (Wr (fun b=>Wr W0 μ σ2.mem b∧¬tY μ (T++names) b) L' (aG ins)) L' w args vs:=by
    refine⟨by rw[h1.1,hargs2.1],fun j c v e1 e2=>?_⟩
    have hj:=(aY e1).1
    have hy:ys[j]? =some (ys[j]'(by rw[←hargs2.1];exact hj)):=bD _
    exact hrep0 c _ v (hargs2.2 j c _ e1 hy) (h1.2 j _ v hy e2)
  have hcall:=hf w _ L' vs (fun t ht=>by simp only[L',if_neg (Nat.not_lt.2 ht)]) hsim hargsR
  unfold Oper.wp
  rw[h2]
  simp only[Oper.upon]
  refine Calls.mono hcall ?_
  rintro e w' ⟨v,μ',rfl,hs',hv⟩
  have hro:(T.map fun t=>(t,lJ (σ.mem t)))=T.map fun t=>(t,lJ (σ2.mem t)):=List.map_congr_left fun t ht=>by rw[hrdT t ht]
  rw[hro] at hK
  generalize hm2:bk σ2.mem (names.zip news++T.map fun t=>(t,lJ (σ2.mem t)))=m2 at*
  have m2new:∀t,t∈names→(∃wd rows rows0,m2 t=.live wd rows false∧aG outs (names.idxOf t)=.live wd rows0 false∧(bG wd rows0→bG wd rows)∧gR (aG outs) (names.idxOf ·) (· ∈names) (fun _=>False) rows rows0)∨(m2 t=.dead∧aG outs (names.idxOf t)=.dead):=by
    intro t ht
    have hlt:=(aY (iG ht)).1
    have hk:news[names.idxOf t]? =some (news[names.idxOf t]'(by rw[hnl];exact hlt)):=bD _
    have hm:m2 t=news[names.idxOf t]'(by rw[hnl];exact hlt):=by
      rw[←hm2,kH,sR,if_pos ht,hk,Option.getD_some]
    rcases hnews _ _ hk with⟨wd,rows,rows0,e1,e2,e3,e4⟩|⟨e1,e2⟩
    ·exact .inl ⟨wd,rows,rows0,by rw[hm,e1],oN e2,e3,e4⟩
    ·exact .inr ⟨by rw[hm,e1],oN e2⟩
  have m2live:∀t wd rows ro,t∈names→m2 t=.live wd rows ro→ro=false∧∃rows0,aG outs (names.idxOf t)=.live wd rows0 false∧(bG wd rows0→bG wd rows)∧gR (aG outs) (names.idxOf ·) (· ∈names) (fun _=>False) rows rows0:=by
    intro t wd rows ro ht h
    rcases m2new t ht with⟨wd',rows',rows0,e1,e2,e3,e4⟩|⟨e1,e2⟩
    ·rw[h] at e1;cases e1;exact⟨rfl,rows0,e2,e3,e4⟩
    ·rw[h] at e1;cases e1
  have m2old:∀t,t∉names→m2 t=if t∈T then lJ (σ2.mem t) else σ2.mem t:=by
    intro t ht
    rw[←hm2,kH,sR,if_neg ht,BH]
  let μ2:Mu:=fun t=>if t∈names then μ' (names.idxOf t) else μ t
  have μnew:∀t,t∈names→μ2 t=μ' (names.idxOf t):=fun t h=>if_pos h
  have μold:∀t,t∉names→μ2 t=μ t:=fun t h=>if_neg h
  have oldlive:∀t wd rows ro,t∉names→m2 t=.live wd rows ro→∃ro',σ2.mem t=.live wd rows ro'∧(ro=false→ro'=false∧t∉T):=by
    intro t wd rows ro hn h
    rw[m2old t hn] at h
    split at h
    · cases hmt:σ2.mem t with
      | live wd' rows' ro'=>
        rw[hmt] at h;simp only[lJ] at h;cases h
        exact⟨ro',rfl,fun h=>by cases h⟩
      |free=>rw[hmt] at h;cases h
      |dead=>rw[hmt] at h;cases h
    ·rename_i hT';exact⟨ro,h,fun h'=>⟨h',hT'⟩⟩
  -- a lent block is one of this frame's own
  have lent:∀b,so L' b→∃t B wd rows,t∈names∧σ2.mem t=.live wd rows false∧μ t=some B∧B.b=b∧B.virt=false:=by
    rintro b ⟨k,B,h,rfl,hv'⟩
    obtain⟨t,wd,rows,_,_,e1,_,e3,e4,_⟩:=hL k B h
    exact⟨t,B,wd,rows,bO e1,e3,e4,rfl,hv'⟩
  have jX:∀b,b<w.heap.size→¬iM μ σ2.mem b→w'.heap[b]? =w.heap[b]? :=fun b hb hm=>hs'.keep b hb fun h=>by
    obtain⟨t,B,wd,rows,_,e3,e4,e5,e6⟩:=lent b h
    exact hm ⟨t,B,wd,rows,e3,e4,e5,e6⟩
  have mu:∀t B,μ t=some B→μ2 t=some B:=fun t B h=>by
    by_cases hn:t∈names
    · rw [μnew t hn]
      have hg:=iG hn
      by_cases hk:names.idxOf t<ins.length
      ·exact hs'.lentμ _ _ (jT hk hib) (by rw[hLget _ t hk hg];exact h)
      · have:=(hs.free t).1 (hfree2 _ t (Nat.le_of_not_lt hk) hg)
        rw[this] at h;cases h
    ·rw[μold t hn];exact h
  have newge:∀k B wd rows,aG outs k=.live wd rows false→μ' k=some B→B.virt=false→w.heap.size≤B.b∨∃t B1 wd rows,t∈names∧σ2.mem t=.live wd rows false∧μ t=some B1∧B1.b=B.b∧B1.virt=false:=by
    intro k B wd rows h3 h4 h5
    exact((hs'.out _ _ _ _ B h3 h4 h5).2 rfl).imp id (lent _)
  have old:∀t wd rows ro B,m2 t=.live wd rows ro→μ2 t=some B→B.virt=false→w.heap.size≤B.b∨∃t1 wd1 rows1 ro1 B1,σ2.mem t1=.live wd1 rows1 ro1∧μ t1=some B1∧B1.b=B.b∧B1.virt=false∧(ro=false→ro1=false):=by
    intro t wd rows ro B h3 h4 h5
    by_cases hn:t∈names
    · obtain⟨_,rows0,e2,_⟩:=m2live t _ _ _ hn h3
      rw[μnew t hn] at h4
      rcases newge _ B _ _ e2 h4 h5 with h|⟨t1,B1,wd1,rows1,_,f1,f2,f3,f4⟩
      ·exact .inl h
      ·exact .inr ⟨t1,wd1,rows1,false,B1,f1,f2,f3,f4,fun _=>rfl⟩
    · obtain⟨ro',e1,e2⟩:=oldlive t wd rows ro hn h3
      rw[μold t hn] at h4
      exact .inr ⟨t,wd,rows,ro',B,e1,h4,rfl,h5,fun h=>(e2 h).1⟩
  have g:=hs.grow (m':=m2) (μ':=μ2) hs'.hsize jX hs'.shp mu (eX old)
  have hW : ∀ b,b<w'.heap.size→Wr W0 μ2 m2 b→Wr (fun b=>Wr W0 μ σ2.mem b∧¬tY μ (T++names) b) μ' (aG outs) b:=by
    rintro b hb (h|⟨t,B,wd,rows,h3,h4,rfl,h5⟩)
    · refine .inl ⟨.inl h,?_⟩
      rintro⟨s,hs1,B,hB,rfl,hv'⟩
      cases hms:σ2.mem s with
      |free=>rw[(hs.free s).1 hms] at hB;cases hB
      |live wd rows ro=>exact(hs.out s wd rows ro B hms hB hv').1 h
      | dead =>
        rcases List.mem_append.1 hs1 with h'|h'
        · obtain⟨_,_,_,hl⟩:=hT2 s h'
          rw[hms] at hl;cases hl
        · by_cases hk:names.idxOf s<ins.length
          · obtain⟨t,wd,rows,rows0,e1,e2,e3,_⟩:=hins2 _ hk
            rw[iG h'] at e1;cases e1
            rw[hms] at e3;cases e3
          · have:=hfree2 _ s (Nat.le_of_not_lt hk) (iG h')
            rw[hms] at this;cases this
    · by_cases hn:t∈names
      · obtain⟨_,rows0,e2,_⟩:=m2live t _ _ _ hn h3
        rw[μnew t hn] at h4
        exact .inr ⟨names.idxOf t,B,wd,rows0,e2,h4,rfl,h5⟩
      · obtain ⟨ro',e1,e2⟩:=oldlive t wd rows false hn h3
        obtain⟨rfl,hnT⟩:=e2 rfl
        rw[μold t hn] at h4
        refine .inl ⟨.inr ⟨t,B,wd,rows,e1,h4,rfl,h5⟩,?_⟩
        rintro⟨s,hs1,B',hB,hbe,hv'⟩
        have hne:t≠s:=fun e=>by
          subst e
          rcases List.mem_append.1 hs1 with h'|h'
          ·exact hnT h'
          ·exact hn h'
        cases hms:σ2.mem s with
        |free=>rw[(hs.free s).1 hms] at hB;cases hB
        |live wd' rows' ro=>exact hs.inj t s wd rows wd' rows' ro B B' hne e1 hms h4 hB h5 hv' hbe.symm
        | dead =>
          rcases List.mem_append.1 hs1 with h'|h'
          · obtain⟨_,_,_,hl⟩:=hT2 s h'
            rw[hms] at hl;cases hl
          · by_cases hk:names.idxOf s<ins.length
            · obtain⟨t,wd,rows,rows0,e1,e2,e3,_⟩:=hins2 _ hk
              rw[iG h'] at e1;cases e1
              rw[hms] at e3;cases e3
            · have:=hfree2 _ s (Nat.le_of_not_lt hk) (iG h')
              rw[hms] at this;cases this
  have hrep:∀x y v,Cv (aG outs) (names.idxOf ·) (· ∈names) (fun _=>False) x y→cE (Wr (fun b=>Wr W0 μ σ2.mem b∧¬tY μ (T++names) b) μ' (aG outs)) μ' w' y v→cE (Wr W0 μ2 m2) μ2 w' x v:=
    fun x y v hcv hy=>hcv.rep hs'.objs hW (fun t ht=>μnew t ht) (fun s B h=>h.elim) hy
  have hstep:=hs.step (m':=m2) (μ':=μ2) hs'.hsize hs'.os hs'.tape hs'.output jX hs'.shp mu old (fun t=>by
      by_cases hn:t∈names
      · rw [μnew t hn]
        have:=hs'.free (names.idxOf t)
        rcases m2new t hn with⟨wd,rows,rows0,e1,e2,_⟩|⟨e1,e2⟩
        · simp only[bare,e2] at this
          rw[e1,←this];simp
        · simp only[bare,e2] at this
          rw[e1,←this]
      · rw[μold t hn,m2old t hn,←hs.free t]
        split
        ·cases hmt:σ2.mem t<;>simp[lJ]
        ·rfl)
    (fun t wd rows ro h3=>by
      by_cases hn:t∈names
      · obtain⟨rfl,rows0,e2,e3,e4⟩:=m2live t _ _ _ hn h3
        obtain⟨B,hB,hobj⟩:=hs'.objs (names.idxOf t) _ _ _ e2
        exact⟨B,by rw[μnew t hn];exact hB,hobj.cv e4 (e3 hobj.wide) (fun _=>rfl) hrep⟩
      · obtain⟨ro',e1,e2⟩:=oldlive t wd rows ro hn h3
        obtain⟨B,hB,hobj⟩:=hs.objs t wd rows ro' e1
        refine⟨B,by rw[μold t hn];exact hB,?_⟩
        have:=hobj.grow g fun hv'=>hs'.keep _ (hs.dO e1 hB hv') fun hl=>by
          obtain⟨t1,B1,wd1,rows1,f0,f1,f2,f3,f4⟩:=lent _ hl
          exact hs.inj t1 t _ _ _ _ _ B1 B (fun e=>hn (e▸f0)) f1 e1 f2 hB f4 hv' f3
        cases ro with
        |true=>exact this.ro
        |false=>rw[(e2 rfl).1] at this;exact this)
    (by
      intro t t' wd rows wd' rows' ro' B B' hne h3 h4 h5 h6 v1 v2
      by_cases hn:t∈names<;>by_cases hn':t'∈names
      · obtain⟨_,_,e2,_⟩:=m2live t _ _ _ hn h3
        obtain⟨rfl,_,f2,_⟩:=m2live t' _ _ _ hn' h4
        rw[μnew t hn] at h5;rw[μnew t' hn'] at h6
        refine hs'.inj (names.idxOf t) (names.idxOf t') _ _ _ _ _ B B' (fun e=>hne ?_) e2 f2 h5 h6 v1 v2
        have a1:=iG hn
        rw[e,iG hn'] at a1
        cases a1;rfl
      · obtain⟨_,_,e2,_⟩:=m2live t _ _ _ hn h3
        obtain⟨_,f1,_⟩:=oldlive t' _ _ _ hn' h4
        rw[μnew t hn] at h5;rw[μold t' hn'] at h6
        have:=hs.dO f1 h6 v2
        rcases newge _ B _ _ e2 h5 v1 with h|⟨t1,B1,wd1,rows1,k0,k1,k2,k3,k4⟩
        ·omega
        ·rw[←k3];exact hs.inj t1 t' _ _ _ _ _ B1 B' (fun e=>hn' (e▸k0)) k1 f1 k2 h6 k4 v2
      · obtain⟨_,e1,e2⟩:=oldlive t _ _ _ hn h3
        obtain⟨_,_,f2,_⟩:=m2live t' _ _ _ hn' h4
        rw[μold t hn] at h5;rw[μnew t' hn'] at h6
        have:=hs.dO e1 h5 v1
        rcases newge _ B' _ _ f2 h6 v2 with h|⟨t1,B1,wd1,rows1,k0,k1,k2,k3,k4⟩
        ·omega
        ·rw[←k3];exact(hs.inj t1 t _ _ _ _ _ B1 B (fun e=>hn (e▸k0)) k1 e1 k2 h5 k4 v1).symm
      · obtain⟨_,e1,e2⟩:=oldlive t _ _ _ hn h3
        obtain⟨_,f1,_⟩:=oldlive t' _ _ _ hn' h4
        rw[μold t hn] at h5;rw[μold t' hn'] at h6
        rw[(e2 rfl).1] at e1
        exact hs.inj t t' _ _ _ _ _ B B' hne e1 f1 h5 h6 v1 v2)
  refine hK μ2 _ _ ?_
  have:=hstep.put (hrep x res v hx hv) hd
  unfold az.zV
  rw[hm2]
  exact this
end
section
variable {P : Program} {N : Nat} {σ : az} {o : Oper}
theorem aH.JP {t:TypeId}{y z:Operand}{s:ByteArray}{kd:IntKind}{k:Nat}{c:UInt8}(ho:o.op=.index t y z)(he:σ.eval y=.lit (.string s))(hz:σ.eval z=.lit (.int kd k))(ht:P.underlying t=some .string)
    (hc:s.data.toList[k]? =some c) (hd:∀d,o.dst=some d→d<N):aH P N o σ [] (.lit (.int .u8 c.toNat)) []:=
  .val (fun σ2 he2 hrd w0 W0 L μ a w hs=>by
    have k1:=hs.eval y
    have k2:=hs.eval z
    rw[he2 y (by simp[ho,Op.operands]),he] at k1
    rw[he2 z (by simp[ho,Op.operands]),hz] at k2
    refine⟨_,?_,.lit⟩
    obtain⟨hk,hc⟩:=aY hc
    have hk':k<s.size:=hk
    have hc':s[k]'hk'=c:=by rw[←hc];rfl
    have hr:=run_index_string (P:=P) w t s kd (k:Int) ht
    rw[dif_pos ⟨Int.natCast_nonneg k,by omega⟩] at hr
    simp only[Int.toNat_natCast] at hr
    rw[hc'] at hr
    simp[execOp,ho,k1.val,k2.val,hr]) hd
theorem aH.Ht {src dst:TypeId}{y:Operand}{v r:Value}(ho:o.op=.convert src dst y)(he:σ.eval y=.lit v)(hr:∀w,(convert src dst v).run P w=.ok r w)(hd:∀d,o.dst=some d→d<N):aH P N o σ [] (.lit r) []:=
  .val (fun σ2 he2 hrd w0 W0 L μ a w hs=>by
    have k1:=hs.eval y
    rw[he2 y (by simp[ho,Op.operands]),he] at k1
    refine⟨_,?_,.lit⟩
    simp[execOp,ho,k1.val,hr w]) hd
theorem aH.D6 {src dst e:TypeId}{y:Operand}{tk off len:Nat}{rows:List AV}{ro:Bool}{bs:List UInt8}(ho:o.op=.convert src dst y)(he:σ.eval y=.own tk off len)
    (h1:P.underlying src=some (.slice e)) (h2:P.underlying e=some (.int .u8)) (h3:P.underlying dst=some .string) (hm:σ.mem tk=.live 1 rows ro) (hl:len=bs.length) (hne:bs≠ [])
    (hb:∀ (i:Nat) (b:UInt8),bs[i]? =some b→(flat rows)[off+i]? =some (.lit (.int .u8 b.toNat))) (hd:∀d,o.dst=some d→d<N):aH P N o σ [tk] (.lit (.string ⟨bs.toArray⟩)) []:=
  .val (fun σ2 he2 hrd w0 W0 L μ a w hs=>by
    have k1:=hs.eval y
    rw[he2 y (by simp[ho,Op.operands]),he] at k1
    have hm2:σ2.mem tk=.live 1 rows ro:=by rw[hrd tk (by simp)];exact hm
    obtain⟨B,hB,hobj⟩:=hs.objs tk 1 rows ro hm2
    refine⟨_,?_,.lit⟩
    subst hl
    generalize hv:a.eval y=v at k1
    generalize hn:bs.length=n at k1
    cases k1 with
    | @own _ _ _ cap e' n' B' a1 av ap a2 a3 a4=>
      rw[hB] at a1;cases a1
      subst hn
      have:=run_convert_bytes_back (P:=P) w src dst e ⟨B.b,B.o+off*B.wd,none⟩ cap bs h1 h2 h3 (fun j hj=>by
        obtain⟨u,u1,u2⟩:=hobj.cell ap _ _ (hb j _ (bD hj))
        rw[u2.val] at u1
        rw[Addr.add_lit,hobj.width,Nat.mul_one,Nat.add_assoc]
        exact u1)
      simp only[execOp,ho,hv,Sem.run_bind,this,Result.andThen_ok,Sem.run_pure]
    |ownNil a1=>exact absurd (List.eq_nil_of_length_eq_zero hn) hne) hd
theorem zS {t:TypeId}(ht:P.underlying t=some .string){s:ByteArray}{lo hi:Option Value}{a b:Nat}(hl:lo=none∧a=0∨∃k,lo=some (.int k (a:Int)))(hh:hi=none∧b=s.size∨∃k,hi=some (.int k (b:Int)))(h1:a≤b)(h2:b≤s.size)(w:World):
    (Instr.slice t (.string s) lo hi none).run P w=.ok (.string (s.extract a b)) w:=by
  rcases hl with⟨rfl,rfl⟩|⟨k,rfl⟩<;>rcases hh with⟨rfl,rfl⟩|⟨k',rfl⟩
  ·exact run_slice_string_all w t s ht
  ·rw[run_slice_string_to_if w t s k' b ht,if_pos ⟨by omega,by omega⟩];simp
  ·rw[run_slice_string_from_if w t s k a ht,if_pos ⟨by omega,by omega⟩];simp
  ·rw[run_slice_string w t s k k' a b ht (by omega) (by omega) (by omega)];simp
theorem aH.J3 {t:TypeId}{y:Operand}{lo hi:Option Operand}{s:ByteArray}{a b:Nat}(ho:o.op=.slice t y lo hi none)(he:σ.eval y=.lit (.string s))(ht:P.underlying t=some .string)
    (hl:lo=none∧a=0∨∃z k,lo=some z∧σ.eval z=.lit (.int k a)) (hh:hi=none∧b=s.size∨∃z k,hi=some z∧σ.eval z=.lit (.int k b)) (h1:a≤b) (h2:b≤s.size) (hd:∀d,o.dst=some d→d<N):
    aH P N o σ [] (.lit (.string (s.extract a b))) []:=
  .val (fun σ2 he2 hrd w0 W0 L μ ac w hs=>by
    have k1:=hs.eval y
    rw[he2 y (by simp[ho,Op.operands]),he] at k1
    have hl':lo.map ac.eval=none∧a=0∨∃k,lo.map ac.eval=some (.int k a):=by
      rcases hl with⟨rfl,rfl⟩|⟨z,k,rfl,hz⟩
      ·exact .inl ⟨rfl,rfl⟩
      · have:=hs.eval z
        rw[he2 z (by simp[ho,Op.operands]),hz] at this
        exact .inr ⟨k,by simp[this.val]⟩
    have hh':hi.map ac.eval=none∧b=s.size∨∃k,hi.map ac.eval=some (.int k b):=by
      rcases hh with⟨rfl,rfl⟩|⟨z,k,rfl,hz⟩
      ·exact .inl ⟨rfl,rfl⟩
      · have:=hs.eval z
        rw[he2 z (by simp[ho,Op.operands]),hz] at this
        exact .inr ⟨k,by simp[this.val]⟩
    refine⟨_,?_,.lit⟩
    have hr:=zS (P:=P) ht hl' hh' h1 h2 w
    simp only[execOp,ho,k1.val,Instr.sliceAt,Option.map_none,run_underlying ht,hr,Sem.run_bind,Result.andThen_ok,Sem.run_pure]) hd
end
end Go.Am
