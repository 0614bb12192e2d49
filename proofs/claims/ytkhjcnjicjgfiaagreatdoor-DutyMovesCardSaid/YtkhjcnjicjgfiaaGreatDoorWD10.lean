/- Walks of functions by unfolding over abstract states; runs of functions by an evaluator that is proved. By an AI agent. -/
import Derived.Test.YtkhjcnjicjgfiaaGreatDoorWD9
import Derived.RangeFuncSeq
set_option linter.unusedSimpArgs false
set_option linter.unusedVariables false
namespace Go.Am
open Go
theorem nf {b:Bool}(h:b=false):(!b)=true:=by rw[h];rfl
theorem nt {b:Bool}(h:b=true):(!b)=false:=by rw[h];rfl
theorem ak (n:Nat):(NatCast.natCast n:Int)=(Nat.cast n:Int):=rfl
section
variable {P : Program} {N : Nat} {o : Oper} {f : FuncId} {args args' : List AV} {acc : Tk} {sl : SL} {m : ML} {R : Rest} {res : AV} {ins outs news : List MS}
@[reducible] def kO : Nat → Nat → List Nat → List (Nat × Nat)
  |_,_,[]=>[]
  | n,k,t::r=>match n with
    |0=>[]
    |n+1=>(k,t)::kO n (Nat.add k 1) r
theorem Ce:∀ {n k:Nat} {l:List Nat} {i u:Nat},mJ (kO n k l) i=some u→k≤i∧i-k<n∧l[i-k]? =some u
  |n,k,[],i,u,h=>by rw[kO] at h;cases h
  |0,k,t::r,i,u,h=>by rw[kO] at h;cases h
  | n +1,k,t::r,i,u,h=>by
    simp only[kO,mJ] at h
    split at h
    · rename_i hb
      have:=beq_eq hb
      subst this
      cases h
      simp
    · rename_i hb
      obtain⟨a,b,c⟩:=Ce h
      have a':k+1≤i:=a
      have b':i- (k+1)<n:=b
      refine⟨by omega,by omega,?_⟩
      rw[show i-k=(i- (k+1))+1 from by omega,List.getElem?_cons_succ]
      exact c
theorem Cv.NO {mm:Nat→MS}{ρ ρ':Nat→Nat}{D D' F:Nat→Prop}(h:∀t,D t→D' t∧ρ t=ρ' t){x y:AV}(hc:Cv mm ρ D F x y):Cv mm ρ' D' F x y:=by
  induction hc with
  |any=>exact .any
  |same h=>exact .same h
  |own h1=>rw[(h _ h1).2];exact .own (h _ h1).1
  |ptr h1=>rw[(h _ h1).2];exact .ptr (h _ h1).1
  |mapr h1=>rw[(h _ h1).2];exact .mapr (h _ h1).1
  |fmap a b c d e f ih=>exact .fmap a b c d (fun i key key' x' x h1 h2=>ih i key key' x' x h1 h2) f
  |nil=>exact .nil
  |nilE=>exact .nilE
  |empS=>exact .empS
  |frz a b c d e _ g ih=>exact .frz a b c d e (fun q c d h1 h2=>ih q c d h1 h2) g
  |frzp a b c d _ g ih=>exact .frzp a b c d (fun q c d h1 h2=>ih q c d h1 h2) g
  |agg a _ ih=>exact .agg a (fun q c d h1 h2=>ih q c d h1 h2)
  |tup a _ ih=>exact .tup a (fun q c d h1 h2=>ih q c d h1 h2)
  |clo a b _ _ ih1 ih2=>exact .clo a b (fun q c d h1 h2=>ih1 q c d h1 h2) (fun q c d h1 h2=>ih2 q c d h1 h2)
@[reducible] def oN (names : List Nat) : Nat → AV → AV
  |0,x=>x
  | n +1,x=>match x with
    | .own t o l=>match gh names t with
      |some u=>.own u o l
      |none=>.any
    | .ptr t i k=>match gh names t with
      |some u=>.ptr u i k
      |none=>.any
    | .mapr t=>match gh names t with
      |some u=>.mapr u
      |none=>.any
    |.agg cs=>.agg (dO (oN names n) cs)
    |.tup cs=>.tup (dO (oN names n) cs)
    |x=>x
theorem xG {mm:Nat→MS}{F:Nat→Prop}{names:List Nat}(hn:names.Nodup):∀ (n:Nat) (x:AV),Ao n (dD names) x=true→Cv mm (names.idxOf ·) (· ∈names) F (oN names n x) x
  |0,x,h=>.same h
  | n + 1,x,h=>by
    have list:∀cs:List AV,iQ (Ao n (dD names)) cs=true→gJ mm (names.idxOf ·) (· ∈names) F (dO (oN names n) cs) cs:=by
      intro cs
      induction cs with
      |nil=>intro _;exact .nil
      | cons c cs ih=>
        intro h
        simp only[iQ] at h
        split at h
        ·rename_i h1;exact .cons (xG hn n c h1) (ih h)
        ·cases h
    have tk:∀t,t+1≤dD names→∃u,gh names t=some u∧u∈names∧names.idxOf u=t:=by
      intro t ht
      rw[cq] at ht
      have hg:names[t]? =some (names[t]'ht):=bh _
      exact⟨_,by rw[eN];exact hg,bN hg,qC hn hg⟩
    cases x with
    | own t o l=>
      obtain⟨u,h1,h2,h3⟩:=tk t (bT h)
      simp only[oN,h1]
      have:=Cv.own (m:=mm) (ρ:=(names.idxOf ·)) (D:=(· ∈names)) (F:=F) (t:=u) (o:=o) (l:=l) h2
      rwa [h3] at this
    | ptr t i k'=>
      obtain⟨u,h1,h2,h3⟩:=tk t (bT h)
      simp only[oN,h1]
      have:=Cv.ptr (m:=mm) (ρ:=(names.idxOf ·)) (D:=(· ∈names)) (F:=F) (t:=u) (i:=i) (k:=k') h2
      rwa [h3] at this
    | mapr t=>
      obtain⟨u,h1,h2,h3⟩:=tk t (bT h)
      simp only[oN,h1]
      have:=Cv.mapr (m:=mm) (ρ:=(names.idxOf ·)) (D:=(· ∈names)) (F:=F) (t:=u) h2
      rwa [h3] at this
    |agg cs=>exact .tT (list cs h)
    |tup cs=>exact .ue (list cs h)
    |_=>exact .same h
@[reducible] def oc : List AV → List AV → Bool
  |[],[]=>true
  | x::xs,y::ys=>match rT (dD (cO x)) (dD (cO y)) with
    |true=>oc xs ys
    |false=>false
  |_,_=>false
theorem oz {wd:Nat}:∀ {xs ys:List AV},oc xs ys=true→bB wd ys→bB wd xs
  |[],[],_,h=>h
  | x ::xs,y::ys,h,hw=>by
    simp only[oc] at h
    split at h
    · rename_i h1
      have h1':=beq_eq (by rw[←dW];exact h1)
      rw[cq,cq,eD,eD] at h1'
      have ih:=oz h hw.tail.2
      intro i r hr
      cases i with
      |zero=>simp at hr;subst hr;rw[h1'];exact hw.tail.1
      |succ i=>exact ih i r (by simpa using hr)
    ·cases h
  |[],_::_,h,_=>by simp[oc] at h
  |_::_,[],h,_=>by simp[oc] at h
@[reducible] def Kl (tab : List (Nat × Nat)) (T : List Nat) (m : ML) (rows0 rows : List AV) : Prop := (rows0 = rows ∧ aV rows = true) ∨ (u5 (MF tab (Mv T) m 12) rows0 rows ∧ oc rows0 rows = true)
@[reducible] def oU (tab : List (Nat × Nat)) (T : List Nat) (m : ML) : List MS → List Nat → Prop
  |[],_=>True
  | s::r,t::q=>match s,dc m t with
    |.live wd rows0 false,.live wd' rows false=>(rT wd wd'=true∧Kl tab T m rows0 rows)∧oU tab T m r q
    |_,_=>False
  |_::_,[]=>False
@[reducible] def Dn (m : ML) : List Nat → Bool
  |[]=>true
  | t::r=>match dc m t with
    |.free=>Dn m r
    |_=>false
theorem zB {m:ML}:∀ {l:List Nat},Dn m l=true→∀t∈l,aN m t=.free
  |[],_,t,h=>by simp at h
  | u ::r,h,t,ht=>by
    simp only[Dn] at h
    split at h
    · rename_i hm
      rcases dZ.1 ht with rfl|ht
      ·exact cI hm
      ·exact zB h t ht
    ·cases h
@[reducible] def vU : Nat → List Nat → List Nat
  |_,[]=>[]
  | n,x::r=>match n with
    |0=>x::r
    |n+1=>vU n r
theorem Al:∀ (n:Nat) (l:List Nat),vU n l=l.drop n
  |n,[]=>by rw[vU];simp
  |0,x::r=>by rw[vU];rfl
  |n+1,x::r=>by simp only[vU,List.drop_succ_cons];exact Al n r
@[reducible] def l8 (names : List Nat) : List MS → List MS → Prop
  |[],[]=>True
  | s::r,s'::r'=>match s,s' with
    |.dead,.dead=>l8 names r r'
    |.live wd rows0 false,.live wd' rows false=>(rT wd' wd=true∧((rows=rows0∧aV rows0=true)∨(rows=dO (oN names 12) rows0∧iQ (Ao 12 (dD names)) rows0=true∧oc rows rows0=true)))∧l8 names r r'
    |_,_=>False
  |_,_=>False
@[reducible] def Ep : List Nat → List MS → ML
  |t::r,s::q=>(t,s)::Ep r q
  |_,_=>[]
theorem Ci:∀ (l:List Nat) (q:List MS),Ep l q=l.zip q
  |[],q=>by simp[Ep]
  |t::r,[]=>by simp[Ep]
  |t::r,s::q=>by simp only[Ep,List.zip_cons_cons,Ci r q]
@[reducible] def oO : List Nat → Bool
  |[]=>true
  | t::r=>match oy r t with
    |true=>false
    |false=>oO r
theorem k7:∀ {l:List Nat},oO l=true→l.Nodup
  |[],_=>.nil
  | t ::r,h=>by
    simp only[oO] at h
    split at h
    ·cases h
    · rename_i hm
      refine List.nodup_cons.2 ⟨fun hh=>?_,k7 h⟩
      rw[dJ.2 hh] at hm;cases hm
@[reducible] def xH (names : List Nat) : List Nat → Bool
  |[]=>true
  | t::r=>match oy names t with
    |true=>false
    |false=>xH names r
theorem wI {names:List Nat}:∀ {l:List Nat},xH names l=true→∀t∈l,t∉names
  |[],_,t,h=>by simp at h
  | u ::r,h,t,ht=>by
    simp only[xH] at h
    split at h
    ·cases h
    · rename_i hm
      rcases dZ.1 ht with rfl|ht
      ·intro hh;rw[dJ.2 hh] at hm;cases hm
      ·exact wI h t ht
theorem yy {mm:Nat→MS}{F:Nat→Prop}{names:List Nat}(hn:names.Nodup):∀ (cs:List AV),iQ (Ao 12 (dD names)) cs=true→gJ mm (names.idxOf ·) (· ∈names) F (dO (oN names 12) cs) cs
  |[],_=>.nil
  | c::cs,h=>by
    simp only[iQ] at h
    split at h
    ·rename_i h1;exact .cons (xG hn 12 c h1) (yy hn cs h)
    ·cases h
theorem sH {mm:Nat→MS}{names:List Nat}(hn:names.Nodup):∀ {outs news:List MS},l8 names outs news→news.length=outs.length∧∀ (k:Nat) (s:MS),news[k]? =some s→
    (∃wd rows rows0,s=.live wd rows false∧outs[k]? =some (.live wd rows0 false)∧(bB wd rows0→bB wd rows)∧gJ mm (names.idxOf ·) (· ∈names) (fun _=>False) rows rows0)∨(s=.dead∧outs[k]? =some .dead)
  |[],[],_=>⟨rfl,fun k s h=>by simp at h⟩
  |s::r,[],h=>by cases s<;>simp[l8] at h
  |[],_::_,h=>by simp[l8] at h
  | s :: r,s'::r',h=>by
    simp only[l8] at h
    split at h
    · obtain⟨a,b⟩:=sH hn h
      refine⟨by simp[a],fun k s h=>?_⟩
      cases k with
      |zero=>simp at h;subst h;exact .inr ⟨rfl,rfl⟩
      |succ k=>simpa using b k s (by simpa using h)
    · rename_i wd rows0 wd' rows
      obtain⟨⟨hw,hr⟩,h⟩:=h
      have hw':=beq_eq (by rw[←dW];exact hw)
      subst hw'
      obtain⟨a,b⟩:=sH hn h
      refine⟨by simp[a],fun k s h=>?_⟩
      cases k with
      | zero=>
        simp at h;subst h
        refine .inl ⟨_,rows,rows0,rfl,rfl,?_⟩
        rcases hr with⟨rfl,h1⟩|⟨h1,h2,h3⟩
        ·exact⟨id,.same h1⟩
        ·exact⟨oz h3,h1▸yy hn rows0 h2⟩
      |succ k=>simpa using b k s (by simpa using h)
    ·exact h.elim
theorem Cz {tab:List (Nat×Nat)}{T:List Nat}{m:ML}{D:Nat→Prop}{ρ:Nat→Nat}(hw:∀t wd rows ro,dc m t=.live wd rows ro→t∈T→bB wd rows)(hD:∀t u,mJ tab t=some u→D t∧gH tab t=ρ t):
    ∀ {ins:List MS} {names:List Nat},oU tab T m ins names→ins.length≤names.length∧∀ (k:Nat) (s:MS) (t:Nat),ins[k]? =some s→names[k]? =some t→
      ∃wd rows rows0,s=.live wd rows0 false∧aN m t=.live wd rows false∧(bB wd rows→bB wd rows0)∧gJ (aN m) ρ D (· ∈T) rows0 rows
  |[],names,_=>⟨by simp,fun k s t h=>by simp at h⟩
  |s::r,[],h=>by simp[oU] at h
  | s :: r,t::q,h=>by
    simp only[oU] at h
    split at h
    · rename_i wd rows0 wd' rows hm
      obtain⟨⟨hw1,hr⟩,h⟩:=h
      have hw':=beq_eq (by rw[←dW];exact hw1)
      subst hw'
      obtain⟨a,b⟩:=Cz hw hD h
      refine⟨by simpa using a,fun k s t h1 h2=>?_⟩
      cases k with
      | zero=>
        simp at h1 h2;subst h1;subst h2
        refine⟨_,rows,rows0,rfl,cI hm,?_⟩
        rcases hr with⟨rfl,h1⟩|⟨h1,h3⟩
        ·exact⟨id,.same h1⟩
        · refine⟨oz h3,?_⟩
          have:=jE (D:=fun t=> ∃u,mJ tab t=some u) (F:=(· ∈T)) (ρ:=gH tab) (mm:=aN m) (fun r x=>kL (fun t wd rows ro h1 h2=>hw t wd rows ro h1 (dJ.1 h2)) (fun t u h=>⟨u,h⟩) (fun t wd rows ro _ h2=>dJ.1 h2) 12 r x) h1
          exact⟨this.1,fun q c d e1 e2=>(this.2 q c d e1 e2).NO fun t ⟨u,hu⟩=>hD t u hu⟩
      |succ k=>exact b k s t (by simpa using h1) (by simpa using h2)
    ·exact h.elim
theorem ah.dw (names T:List Nat)(hf:an P f ins args' outs res)(hc:af P f)(ha:u5 (MF (kO (dD ins) 0 names) (Mv T) m 12) args' args)
    (hi:oU (kO (dD ins) 0 names) T m ins names) (hT:wE m T=true) (hs:(oO names=true∧xH names T=true)∧Dn m (vU (dD ins) names)=true) (hl:dD outs=dD names)
    (hn:l8 names outs news) (hd:jS N o.dst=true) (hp:Ao 12 (dD names) res=true)
    (h:R (dH T names) (oN names 12 res) (dH (Ep names news) (dO (fun t=>(t,Mw (dc m t))) T)) acc sl m) (hib:Nat.ble (dD ins) jf=true:=by rfl):ah P N f args acc sl m (o:=o) (R:=R):=by
  intro hto
  have e:dO (fun t=>(t,Mw (dc m t))) T=T.map fun t=>(t,lA ((St sl m).mem t)):=by
    rw[dX];apply List.map_congr_left;intro t _;rw[mem_eq];rfl
  rw[e,gU,gU,Ci] at h
  rw[cq] at hi ha hib
  rw[cq,Al] at hs
  rw[cq,cq] at hl
  have hnd:=k7 hs.1.1
  obtain⟨n1,n2⟩:=sH (mm:=aD outs) hnd hn
  refine⟨_,_,_,az.r9 fun hsim=>?_,h⟩
  have hwd:∀t wd rows ro,dc m t=.live wd rows ro→t∈T→bB wd rows:=by
    obtain⟨w0,W0,L,μ,a,w,σ2,h1,h2⟩:=hsim
    exact CU (sl:=sl) rfl ⟨w0,W0,L,μ,a,w,σ2,fun t ht=>h1 t (by simp[ht]),h2⟩
  have hD:∀t u,mJ (kO ins.length 0 names) t=some u→t<ins.length∧gH (kO ins.length 0 names) t=names.getD t 0:=by
    intro t u hu
    obtain⟨_,b,c⟩:=Ce hu
    simp only[Nat.sub_zero] at b c
    exact⟨b,by simp[gH,hu,List.getD,c]⟩
  obtain⟨i1,i2⟩:=Cz hwd hD hi
  refine az.dw (P:=P) (N:=N) (o:=o) (σ:=St sl m) names T hto hc ?_ (fun t ht=>pg hT t ht) (wI hs.1.2) hnd (bT hib) i1 (by rw[n1,hl]) i2 (fun k t hk ht=>?_) hf n2 (xG hnd 12 res hp) (gr hd)
  · have:=jE (D:=fun t=> ∃u,mJ (kO ins.length 0 names) t=some u) (F:=(· ∈T)) (ρ:=gH (kO ins.length 0 names)) (mm:=aN m) (fun r x=>kL (fun t wd rows ro h1 h2=>hwd t wd rows ro h1 (dJ.1 h2)) (fun t u h=>⟨u,h⟩) (fun t wd rows ro _ h2=>dJ.1 h2) 12 r x) ha
    exact⟨this.1,fun q c d e1 e2=>(this.2 q c d e1 e2).NO fun t ⟨u,hu⟩=>hD t u hu⟩
  · refine zB hs.2 t (bN (i:=k-ins.length) ?_)
    rw[List.getElem?_drop,show ins.length+ (k-ins.length)=k from by omega]
    exact ht
end
theorem vH.mk {s:ByteArray}{i:Int}{acc:Tk}{sl:SL}{m:ML}{A:Int→Tk→SL→ML→Prop}(k:Nat)(c:UInt8)(h0:i=k)(h1:s.data.toList[k]? =some c)(h:A c.toNat acc sl m):vH s i acc sl m (A:=A):=⟨k,c,h0,h1,h⟩
theorem E5.mk {s:ByteArray}{l h:Int}{acc:Tk}{sl:SL}{m:ML}{A:ByteArray→Tk→SL→ML→Prop}(a b:Nat)(h0:l=a)(h1:h=b)(h2:a≤b)(h3:b≤s.size)(hh:A (s.extract a b) acc sl m):E5 s l h acc sl m (A:=A):=⟨a,b,h0,h1,h2,h3,hh⟩
theorem ni.mk {P:Program}{src dst:TypeId}{v:Value}{acc:Tk}{sl:SL}{m:ML}{A:Value→Tk→SL→ML→Prop}(r:Value)(hr:∀w,(convert src dst v).run P w=.ok r w)(h:A r acc sl m):ni P src dst v acc sl m (A:=A):=⟨r,hr,h⟩
theorem ni.int {P:Program}{src dst:TypeId}{k k':IntKind}{n:Int}{acc:Tk}{sl:SL}{m:ML}{A:Value→Tk→SL→ML→Prop}(hs:(P.underlying src).isSome=true)(hd:P.underlying dst=some (.int k'))(hn:k'.wrap n=n)(h:A (.int k' n) acc sl m):ni P src dst (.int k n) acc sl m (A:=A):=by
  refine⟨_,fun w=>?_,h⟩
  have hk:P.intKind dst=k':=by simp[Program.intKind,hd]
  have:=run_convert_int (P:=P) w src dst k n hs (by rw[hk];exact hd)
  rw[hk,hn] at this
  exact this
theorem BR.mk {P:Program}{src dst:TypeId}{rows:List AV}{off len:Nat}{acc:Tk}{sl:SL}{m:ML}{A:Value→Tk→SL→ML→Prop}(bs:List UInt8){e:TypeId}(h1:P.underlying src=some (.slice e))(h2:P.underlying e=some (.int .u8))(h3:P.underlying dst=some .string)(h4:len=bs.length)(h5:bs≠ [])
    (h6:∀ (i:Nat) (b:UInt8),bs[i]? =some b→(flat rows)[off+i]? =some (.lit (.int .u8 b.toNat))) (h:A (.string ⟨bs.toArray⟩) acc sl m):BR P src dst rows off len acc sl m (A:=A):=⟨bs,e,h1,h2,h3,h4,h5,h6,h⟩
theorem K6.mk {P:Program}{op:BinOp}{t:TypeId}{us vs:List Value}{acc:Tk}{sl:SL}{m:ML}{A:Bool→Tk→SL→ML→Prop}(b:Bool)(hr:∀ (y z:Operand) (w:World),((do eqGuard op t y z (.agg us.toArray) (.agg vs.toArray);binOp op t (.agg us.toArray) (.agg vs.toArray):Sem Value)).run P w=.ok (.bool b) w)(h:A b acc sl m):K6 P op t us vs acc sl m (A:=A):=⟨b,hr,h⟩
end Go.Am
section
namespace Go.Am
open Go Go.RowKit Go.Lib
variable {P : Program}
theorem wrap_u8 {a:Int}(h:0≤a∧a<256):IntKind.i64.wrap a=a:=IntWalk.i64_in _ (by omega)
theorem bt.rem {N:Nat}{o:Oper}{acc:Tk}{sl:SL}{m:ML}{R:Rest}{ty:TypeId}{κ:IntKind}{x y:Operand}{a b:Int}(ha:0≤a)(hb:0<b)(ho:o.op=.binOp .rem ty x y ty)(h1:eI sl x=.lit (.int κ a))(h2:eI sl y=.lit (.int κ b))(hd:jS N o.dst=true)(h:R [] (.lit (.int κ (a%b))) [] acc sl m):bt P N acc sl m (o:=o) (R:=R):=by
  rw[di] at h1 h2
  refine⟨[],.lit (.int κ (a%b)),[],?_,h⟩
  refine .val (fun σ2 he2 hrd w0 W0 L μ a' w hs=>⟨.int κ (a%b),?_,.lit⟩) (gr hd)
  have k1:=hs.eval x
  have k2:=hs.eval y
  rw[he2 x (by simp[ho,Op.operands]),eU,h1] at k1
  rw[he2 y (by simp[ho,Op.operands]),eU,h2] at k2
  have hx:=k1.val
  have hy:=k2.val
  have hb0:b≠0:=by omega
  simp only[execOp,ho,hx,hy]
  simp only[eqGuard,binOp,Op.intDiv]
  go_simp
  exact Int.tmod_eq_emod_of_nonneg ha
theorem bt.min {N:Nat}{o:Oper}{acc:Tk}{sl:SL}{m:ML}{R:Rest}{x y:Operand}{ts:Array TypeId}{κ:IntKind}{a b c:Int}(hc:(if b<a then b else a)=c)(ho:o.op=.call {callee:=.builtin .min,args:= #[x,y],argTypes:=ts})(h1:eI sl x=.lit (.int κ a))(h2:eI sl y=.lit (.int κ b))(hd:jS N o.dst=true)(h:R [] (.lit (.int κ c)) [] acc sl m):bt P N acc sl m (o:=o) (R:=R):=by
  rw[di] at h1 h2
  refine⟨[],.lit (.int κ c),[],?_,h⟩
  refine .val (fun σ2 he2 hrd w0 W0 L μ a' w hs=>⟨.int κ c,?_,.lit⟩) (gr hd)
  have k1:=hs.eval x
  have k2:=hs.eval y
  rw[he2 x (by simp[ho,Op.operands,Call.operands]),eU,h1] at k1
  rw[he2 y (by simp[ho,Op.operands,Call.operands]),eU,h2] at k2
  have hx:=k1.val
  have hy:=k2.val
  subst hc
  simp[execOp,ho,hx,hy,resolve,invoke,builtin,Builtin.min_,Builtin.min2]
end Go.Am
namespace Go.Am
open Go Go.RowKit Go.Lib
section
variable {P : Program} {N : Nat} {w0 : World} {W0 : Nat → Prop} {L μ : Mu} {σ : au} {a : Act} {w : World}
theorem zn {m:Nat→MS}{tb wd:Nat}{rows rows':List AV}{ro:Bool}(hm:m tb=.live wd rows ro):Wr W0 μ (bg m [(tb,.live wd rows' ro)])=Wr W0 μ m:=by
  have h :iI μ (bg m [(tb,.live wd rows' ro)])=iI μ m:=by
    funext b
    apply propext
    constructor
    · rintro⟨t,B,wd1,rows1,h1,h2⟩
      by_cases ht:t=tb
      · subst ht
        simp[bg] at h1
        obtain⟨rfl,rfl,rfl⟩:=h1
        exact⟨t,B,_,_,hm,h2⟩
      · simp[bg,ht] at h1
        exact⟨t,B,_,_,h1,h2⟩
    · rintro⟨t,B,wd1,rows1,h1,h2⟩
      by_cases ht:t=tb
      · subst ht
        rw[hm] at h1
        cases h1
        exact⟨t,B,wd,rows',by simp[bg],h2⟩
      ·exact⟨t,B,_,_,by simp[bg,ht];exact h1,h2⟩
  unfold Wr
  rw[h]
theorem bV.Nu (h:bV P N w0 W0 L μ σ a w){tb wd:Nat}{rows rows':List AV}{ro:Bool}(hm:σ.mem tb=.live wd rows ro)
    (hob:∀B,μ tb=some B→eu (Wr W0 μ σ.mem) μ w B wd rows ro→eu (Wr W0 μ σ.mem) μ w B wd rows' ro):bV P N w0 W0 L μ ⟨σ.slots,bg σ.mem [(tb,.live wd rows' ro)]⟩ a w where
  tsize:=h.tsize
  defers:=h.defers
  os:=h.os
  tape:=h.tape
  output:=h.output
  hsize:=h.hsize
  shp:=h.shp
  keep:=h.keep
  w0lt:=h.w0lt
  lentμ:=h.lentμ
  free t:=by
    by_cases ht:t=tb
    ·subst ht;have:=h.free t;rw[hm] at this;simpa[bg] using this
    ·simpa[bg,ht] using h.free t
  slots i:=by rw[show(⟨σ.slots,bg σ.mem [(tb,.live wd rows' ro)]⟩:au).mem=bg σ.mem [(tb,.live wd rows' ro)] from rfl,zn hm];exact h.slots i
  objs t wd1 rows1 ro1 h1:=by
    rw[show(⟨σ.slots,bg σ.mem [(tb,.live wd rows' ro)]⟩:au).mem=bg σ.mem [(tb,.live wd rows' ro)] from rfl] at h1 ⊢
    rw[zn hm]
    by_cases ht:t=tb
    · subst ht
      simp[bg] at h1
      obtain⟨rfl,rfl,rfl⟩:=h1
      obtain⟨B,h2,h3⟩:=h.objs t _ _ _ hm
      exact⟨B,h2,hob B h2 h3⟩
    · simp[bg,ht] at h1
      exact h.objs t _ _ _ h1
  inj t t' wd1 rows1 wd2 rows2 ro2 B B' hne h1 h2 h3 h4:=by
    have key:∀u wd1 rows1 ro1,bg σ.mem [(tb,.live wd rows' ro)] u=.live wd1 rows1 ro1→∃wd2 rows2,σ.mem u=.live wd2 rows2 ro1:=by
      intro u wd1 rows1 ro1 hu
      by_cases ht:u=tb
      ·subst ht;simp[bg] at hu;exact⟨_,_,by rw[hm,hu.2.2]⟩
      ·simp[bg,ht] at hu;exact⟨_,_,hu⟩
    obtain⟨_,_,k1⟩:=key t _ _ _ h1
    obtain⟨_,_,k2⟩:=key t' _ _ _ h2
    exact h.inj t t' _ _ _ _ _ B B' hne k1 k2 h3 h4
  out t wd1 rows1 ro1 B h1:=by
    have h1':bg σ.mem [(tb,.live wd rows' ro)] t=.live wd1 rows1 ro1:=h1
    by_cases ht:t=tb
    ·subst ht;simp[bg] at h1';exact h.out t _ _ _ B (by rw[hm,h1'.2.2])
    ·simp[bg,ht] at h1';exact h.out t _ _ _ B h1'
  tabs:=h.tabs
theorem bV.gW (h:bV P N w0 W0 L μ σ a w){d0 tb t wd wdt i i0 k0 j:Nat}{rows:List AV}{r r':AV}{ro:Bool}(hp:σ.slots d0=.ptr tb i0 k0)(hm:σ.mem tb=.live wd rows ro)(hr:rows[i]? =some r)(hj:(cells r)[j]? =some (.lit (.slice none 0 0)))
    (hc:cells r'=(cells r).set j (.own t 0 0)) (ht:σ.mem t=.free):
    bV P N w0 W0 L (bq μ t ⟨0,0,wdt,true,false⟩) ⟨σ.slots,bg (bg σ.mem [(t,.live wdt [] false)]) [(tb,.live wd (rows.set i r') ro)]⟩ a w:=by
  have h1:=h.nO (t:=t) (wd:=wdt) ht
  have hne:tb≠t:=fun e=>by rw[e,ht] at hm;cases hm
  refine h1.Nu (σ:=⟨σ.slots,bg σ.mem [(t,.live wdt [] false)]⟩) (rows:=rows) (by simp[bg,hne];exact hm) fun B hB O=>?_
  have hmp:B.mp=false:=by
    have:=h1.slots d0
    rw[show(⟨σ.slots,bg σ.mem [(t,.live wdt [] false)]⟩:au).slots d0=.ptr tb i0 k0 from hp] at this
    generalize a.tmps.getD d0 undef=v at this
    cases this with
    |ptr a1 ap=>rw[hB] at a1;cases a1;exact ap
  have hlen:(cells r').length=wd:=by rw[hc,List.length_set];exact O.wide i r hr
  exact {
    width:=O.width
    wide:=O.wide.set hlen
    blk:=fun hv hm'=>by rw[List.length_set];exact O.blk hv hm'
    virt:=fun hv=>by rw[O.real hr] at hv;cases hv
    cell :=fun _ q c hq=>by
      obtain⟨i',k,r2,rfl,h2,h3,_⟩:=pB (O.wide.set hlen) hq
      have hil:=(br hr).1
      by_cases hi:i'=i
      · subst hi
        rw[List.getElem?_set_self hil] at h2
        cases h2
        rw[hc] at h3
        by_cases hk:k=j
        · subst hk
          rw[List.getElem?_set_self (br hj).1] at h3
          cases h3
          obtain⟨v,e1,e2⟩:=O.cell hmp _ _ (dn O.wide hr hj)
          cases e2
          exact⟨_,e1,.ownNil (B:=⟨0,0,wdt,true,false⟩) (by simp[bq])⟩
        · rw[List.getElem?_set_ne (by omega)] at h3
          exact O.cell hmp _ _ (dn O.wide hr h3)
      · rw[List.getElem?_set_ne (by omega)] at h2
        exact O.cell hmp _ _ (dn O.wide h2 h3)
    vm:=O.vm
    map:=fun hm'=>by rw[hmp] at hm';cases hm'}
end
theorem pM {sl:SL}{m:ML}{t:Nat}{s:MS}:bg (St sl m).mem [(t,s)]=(St sl (jw t s m)).mem:=by
  have h1:bg (St sl m).mem [(t,s)]=aN ([(t,s)]++m):=by
    have:=congrArg au.mem (sJ sl m [(t,s)] none .any)
    exact this
  rw[h1]
  funext i
  exact(qN [(t,s)] m i).symm
theorem bD.gW {P:Program}{N nL:Nat}{sl:SL}{m:ML}{c:Code}{Q:Exit→SL→ML→Prop}(d0 tb t wdt i j:Nat)(r r':AV){i0 k0 wd:Nat}{rows:List AV}{ro:Bool}(hp:sZ sl d0=.ptr tb i0 k0)(hm:dc m tb=.live wd rows ro)(hr:rows[i]? =some r)(hj:(cells r)[j]? =some (.lit (.slice none 0 0)))
    (hcell:cells r'=(cells r).set j (.own t 0 0)) (ht:dc m t=.free) (hc:bD P N nL sl (jw tb (.live wd (rows.set i r') ro) (jw t (.live wdt [] false) m)) (c:=c) (Q:=Q)):bD P N nL sl m (c:=c) (Q:=Q):=by
  intro rd hrd w0 W0 L μ a w hL hs
  have h1:=hs.gW (d0:=d0) (tb:=tb) (t:=t) (wdt:=wdt) (i:=i) (j:=j) (r:=r) (r':=r') (by show bX sl d0=_;rw[←gQ];exact hp) (cI hm) hr hj hcell (cI ht)
  rw[pM,pM] at h1
  exact hc rd hrd w0 W0 L _ a w hL h1
def zV (P:Program){ι:Type}(sl:SL)(m:ML){nL:Nat}{S:ι→SL}{M:ι→ML}{I:ι→Prop}{μ:ι→Nat}{i:ι}:Prop:=∃j,I j∧μ j<μ i∧gY P nL (St sl m) (St (S j) (M j))
theorem zV.mk {P:Program}{ι:Type}{sl:SL}{m:ML}{nL:Nat}{S:ι→SL}{M:ι→ML}{I:ι→Prop}{μ:ι→Nat}{i:ι}(j:ι)(h1:I j)(h2:μ j<μ i)(h3:Fit nL sl m (S j) (M j)):zV P sl m (nL:=nL) (S:=S) (M:=M) (I:=I) (μ:=μ) (i:=i):=⟨j,h1,h2,h3.sE⟩
theorem gY.gW {P:Program}{nL:Nat}{sl:SL}{m:ML}(d0 tb t wdt i j:Nat)(r r':AV){i0 k0 wd:Nat}{rows:List AV}{ro:Bool}(hp:sZ sl d0=.ptr tb i0 k0)(hm:dc m tb=.live wd rows ro)(hr:rows[i]? =some r)(hj:(cells r)[j]? =some (.lit (.slice none 0 0)))
    (hcell:cells r'=(cells r).set j (.own t 0 0)) (ht:dc m t=.free):gY P nL (St sl m) (St sl (jw tb (.live wd (rows.set i r') ro) (jw t (.live wdt [] false) m))):=by
  intro N w0 W0 L μ a w hL hs
  have h1:=hs.gW (d0:=d0) (tb:=tb) (t:=t) (wdt:=wdt) (i:=i) (j:=j) (r:=r) (r':=r') (by show bX sl d0=_;rw[←gQ];exact hp) (cI hm) hr hj hcell (cI ht)
  rw[pM,pM] at h1
  exact⟨_,h1⟩
theorem zV.gW {P:Program}{ι:Type}{sl:SL}{m:ML}{nL:Nat}{S:ι→SL}{M:ι→ML}{I:ι→Prop}{μ:ι→Nat}{x:ι}(d0 tb t wdt i j:Nat)(r r':AV){i0 k0 wd:Nat}{rows:List AV}{ro:Bool}(hp:sZ sl d0=.ptr tb i0 k0)(hm:dc m tb=.live wd rows ro)(hr:rows[i]? =some r)(hj:(cells r)[j]? =some (.lit (.slice none 0 0)))
    (hcell:cells r'=(cells r).set j (.own t 0 0)) (ht:dc m t=.free) (hc:zV P sl (jw tb (.live wd (rows.set i r') ro) (jw t (.live wdt [] false) m)) (nL:=nL) (S:=S) (M:=M) (I:=I) (μ:=μ) (i:=x)):zV P sl m (nL:=nL) (S:=S) (M:=M) (I:=I) (μ:=μ) (i:=x):=by
  obtain⟨y,h1,h2,h3⟩:=hc
  exact⟨y,h1,h2,(gY.gW d0 tb t wdt i j r r' hp hm hr hj hcell ht).trans h3⟩
end Go.Am
end
namespace Go.Am
open Go Go.RowKit Go.Lib MapKept
section
variable {P : Program} {N : Nat} {o : Oper} {σ : au}
end
section
variable {P : Program} {N : Nat} {o : Oper} {acc : Tk} {sl : SL} {m : ML} {R : Rest}
end
end Go.Am
namespace Go.Am
open Go
@[reducible] def iB (m' m : ML) : ML → List (Nat × Nat)
  |[]=>[]
  | (k,_)::r=>match vE k with
    | true=>match dc m' k,dc m k with
      |.live _ rows' _,.live _ rows _=>dH (A4 (ee m' m 6) rows' rows) (iB m' m r)
      |_,_=>iB m' m r
    |false=>iB m' m r
section
variable {P : Program} {Γ : bL} {sl : SL} {m : ML}
@[reducible] def K0 (nL : Nat) (x : AV) (m : ML) (outs : List MS) (res : AV) : Prop :=
  (lp (gS (aW 0 outs) (cE (dH (ee (aW 0 outs) m 6 res x) (iB (aW 0 outs) m (gA nL (aW 0 outs)))) (aW 0 outs)))=true∧oa m (cE (dH (ee (aW 0 outs) m 6 res x) (iB (aW 0 outs) m (gA nL (aW 0 outs)))) (aW 0 outs)) nL=true)∧
    MF (cE (dH (ee (aW 0 outs) m 6 res x) (iB (aW 0 outs) m (gA nL (aW 0 outs)))) (aW 0 outs)) (jM (cE (dH (ee (aW 0 outs) m 6 res x) (iB (aW 0 outs) m (gA nL (aW 0 outs)))) (aW 0 outs))) m 12 res x∧
    pO (cE (dH (ee (aW 0 outs) m 6 res x) (iB (aW 0 outs) m (gA nL (aW 0 outs)))) (aW 0 outs)) (jM (cE (dH (ee (aW 0 outs) m 6 res x) (iB (aW 0 outs) m (gA nL (aW 0 outs)))) (aW 0 outs))) m (aW 0 outs)
@[reducible] def JT (Γ : bL) (nL : Nat) (rvs : List ResultVar) (outs : List MS) (res : AV) : SL × ML → Prop
  | (sl,m)=>match AN Γ sl m rvs with
    |some xs=>K0 nL (CD xs) m outs res
    |none=>False
@[reducible] def NX (Γ : bL) (nL : Nat) (rvs : List ResultVar) (outs : List MS) (res : AV) (e : Exit) (sl : SL) (m : ML) : Prop :=
  match e with
  |.normal=>JT Γ nL rvs outs res (eJ outs rvs (jg rvs res) sl m)
  |.ret=>JT Γ nL rvs outs res (eJ outs rvs (jg rvs res) sl m)
  |_=>False
theorem K0.end {nL:Nat}{x:AV}{outs:List MS}{res:AV}(h:K0 nL x m outs res){N:Nat}{w0:World}{W0:Nat→Prop}{L μ:Mu}{a:Act}{w:World}{v:Value}(hL:∀t,nL≤t→t<jf→L t=none)
    (hs:bV P N w0 W0 L μ (St sl m) a w) (hv:cm (Wr W0 μ (aN m)) μ w x v):∃μ',bV P 0 w0 W0 L μ' (bare outs) gl w∧cm (Wr W0 μ' (aD outs)) μ' w res v:=by
  obtain⟨⟨h1,h2⟩,h3,h4⟩:=h
  generalize ht:cE (dH (ee (aW 0 outs) m 6 res x) (iB (aW 0 outs) m (gA nL (aW 0 outs)))) (aW 0 outs)=tab at h1 h2 h3 h4
  have hk:∀i u,(i,u)∈tab→i∈ (aW 0 outs).map (·.1):=fun i u h=>by rw[←ht] at h;exact gx h
  have hD:∀t u,mJ tab t=some u→aN (aW 0 outs) t≠ .free:=by
    intro t u ht e
    rcases fI h4 t with⟨_,b⟩|⟨b,_⟩
    ·exact b (hk _ _ (iw ht))
    ·rw[e] at b;exact b
  have hw:=pO.qk hs h1 h2 hk (fun t h=>h) h4 (fun _=>.any) (fun i=>.any)
  have hcv:=kL (fun t wd rows ro h _=>uE hs t wd rows ro h) hD (F:=fun t=>(∃wd rows ro,dc m t=.live wd rows ro)∧jM tab t=true) (fun t wd rows ro h1 h2=>⟨⟨wd,rows,ro,h1⟩,h2⟩) 12 _ _ h3
  obtain⟨μ',hs',hrep⟩:=hw.E1 hL hs (N':=0) (a':=gl) (.inr ⟨fun _=>rfl,rfl,rfl⟩)
  have e:aN (aW 0 outs)=aD outs:=by rw[iE,cW]
  rw[e] at hs' hrep hcv
  exact⟨μ',hs',hrep _ _ _ hcv hv⟩
theorem an.Gq {f:FuncId}{fn:Func}{c:Code}{ins outs:List MS}{args:List AV}{res:AV}{N:Nat}{rvs:List ResultVar}(Γ:bL)(hΓ:Γ.Good P)(hf:P.funcs[f]? =some fn)(hb:fn.body=some c)(hN:fn.ntmps=N)(hr:fn.results.toList=rvs)
    (hlen:Nat.ble (dD args) N=true) (h:rO P N (dD ins) Γ c (sI 0 args) (aW 0 ins) (NX Γ (dD ins) rvs outs res)):an P f ins args outs res:=by
  subst hN;subst hr
  have hlen:args.length≤fn.ntmps:=by rw[←cq];exact bT hlen
  intro w W0 L vs hL hs hr
  have h:=lI hΓ _ _ _ _ h
  rw[nn,iE,cq] at h
  have hst:(⟨fun i=>args.getD i .any,aD ins⟩:au)=St (og 0 args) (nB 0 ins):=by
    unfold St
    congr 1
    ·funext i;rw[jD];simp
    ·exact(cW ins).symm
  have hsim:bV P fn.ntmps w W0 L L ⟨fun i=>args.getD i .any,aD ins⟩ {tmps:=vs.toArray++Array.replicate (fn.ntmps-vs.toArray.size) undef,defers:=[]} w:=by
    refine⟨?_,.nil,hs.os,hs.tape,hs.output,hs.hsize,hs.shp,hs.keep,hs.w0lt,hs.lentμ,hs.free,fun i=>?_,hs.objs,hs.inj,hs.out,hs.tabs⟩
    ·simp[hr.1];omega
    · by_cases hi:i<args.length
      · have h1:args[i]? =some args[i]:=bh hi
        have h2:vs[i]? =some (vs[i]'(by rw[hr.1];exact hi)):=bh _
        have:=hr.2 i _ _ h1 h2
        have hv:(vs.toArray++Array.replicate (fn.ntmps-vs.toArray.size) undef).getD i undef=vs[i]'(by rw[hr.1];exact hi):=by
          rw[Array.getD_eq_getD_getElem?,Array.getElem?_append_left (by simp;rw[hr.1];exact hi)]
          simp[h2]
        simp only[hv,List.getD_eq_getElem?_getD,h1,Option.getD_some]
        exact this
      · simp only[List.getD_eq_getElem?_getD,mg (Nat.le_of_not_lt hi),Option.getD_none]
        exact .any
  rw[hst] at hsim
  refine gR hf hb h (fun t ht=>hL t (by omega)) hsim (fun e σ' ⟨sl,m,_,hend⟩=>?_) ?_
  · cases e with
    |normal=>exact .inl rfl
    |ret=>exact .inr rfl
    |_=>exact hend.elim
  rintro e σ' μ' a' w' ⟨sl,m,rfl,hend⟩ hs' hd
  have key:JT Γ ins.length fn.results.toList outs res (eJ outs fn.results.toList (jg fn.results.toList res) sl m)→∃v,(results fn a'.tmps).run P w'=.ok v w'∧∃v_1 μ',Ending.returned v=.returned v_1∧bV P 0 w W0 L μ' (bare outs) gl w'∧cm (Wr W0 μ' (aD outs)) μ' w' res v_1:=by
    intro hend
    obtain⟨μ2,hs2⟩:=kP (outs:=outs) fn.results.toList (jg fn.results.toList res) sl m μ' hs'
    generalize eJ outs fn.results.toList (jg fn.results.toList res) sl m=q at hend hs2
    obtain⟨sl2,m2⟩:=q
    simp only[JT] at hend
    split at hend
    · rename_i xs hxs
      have hres:=(qd hΓ hxs).get
      obtain⟨v,v1,v2⟩:=iF hs2 hres.1 hres.2
      rw[pq] at hend
      obtain⟨μ'',h1,h2⟩:=hend.end (fun t ht _=>hL t ht) hs2 v2
      exact⟨v,v1,v,μ'',rfl,h1,h2⟩
    ·exact hend.elim
  cases e with
  |normal=>exact key hend
  |ret=>exact key hend
  |_=>exact hend.elim
end
section
variable {P : Program} {N : Nat} {w0 : World} {W0 : Nat → Prop} {L μ : Mu} {σ : au} {a : Act} {w : World}
end
mutual
/-- Its references are to objects with names below r. -/
def nv (r:Nat):AV→Bool
  |.any=>true
  |.emp=>true
  |.guess _ _=>true
  |.lit _=>true
  |.sl _ _=>true
  |.own t _ _=>Nat.ble (t+1) r
  |.ptr t _ _=>Nat.ble (t+1) r
  |.fptr _ _=>true
  |.mapr t=>Nat.ble (t+1) r
  |.fmap _=>true
  |.agg cs=>kx r cs
  |.tup cs=>kx r cs
  |.clo _ a b=>kx r a&&kx r b
def kx (r:Nat):List AV→Bool
  |[]=>true
  |x::xs=>nv r x&&kx r xs
end
mutual
theorem j5 (r:Nat):∀x:AV,bj x=true→nv r x=true
  |.any,_=>rfl
  |.emp,_=>rfl
  |.guess _ _,_=>rfl
  |.lit _,_=>rfl
  |.sl _ _,_=>rfl
  |.own _ _ _,h=>by simp[bj] at h
  |.ptr _ _ _,h=>by simp[bj] at h
  |.fptr _ _,_=>rfl
  |.mapr _,h=>by simp[bj] at h
  |.fmap _,_=>rfl
  |.agg cs,h=>by simp only[bj] at h;simp only[nv];exact gV r cs h
  |.tup cs,h=>by simp only[bj] at h;simp only[nv];exact gV r cs h
  | .clo f a b,h=>by
    simp only[bj,bJ] at h
    simp only[nv,bJ]
    exact⟨gV r a h.1,gV r b h.2⟩
theorem gV (r:Nat):∀xs:List AV,aV xs=true→kx r xs=true
  |[],_=>rfl
  | x::xs,h=>by
    simp only[aV,bJ] at h
    simp only[kx,bJ]
    exact⟨j5 r x h.1,gV r xs h.2⟩
end
theorem jF {r:Nat}:∀ {xs:List AV},kx r xs=true→∀ {j:Nat} {c:AV},xs[j]? =some c→nv r c=true
  |[],_,j,c,h=>by simp at h
  | x::xs,hx,0,c,h=>by
    simp only[kx,bJ] at hx
    simp at h;subst h;exact hx.1
  | x::xs,hx,j+1,c,h=>by
    simp only[kx,bJ] at hx
    exact jF hx.2 (by simpa using h)
structure Dl (r:Nat) (W:Nat→Prop) (μ:Mu) (w:World) (W':Nat→Prop) (μ':Mu) (w':World):Prop where
  size:w.heap.size≤w'.heap.size
  blk:∀b,¬W b→b<w.heap.size→w'.heap[b]? =w.heap[b]?
  shape:∀b e n,w.shape? b=some (e,n)→w'.shape? b=some (e,n)
  wr:∀b,b<w.heap.size→W' b→W b
  mu:∀t B,t<r→μ t=some B→μ' t=some B
theorem Dl.cell {r:Nat}{W W':Nat→Prop}{μ μ':Mu}{w w':World}(h:Dl r W μ w W' μ' w'){b q:Nat}(hb:¬W b)(hl:b<w.heap.size):w'.cell? ⟨b,q,none⟩=w.cell? ⟨b,q,none⟩:=
  World.cell?_of_block (h.blk b hb hl)
theorem cm.KK {r:Nat}{W W':Nat→Prop}{μ μ':Mu}{w w':World}(g:Dl r W μ w W' μ' w'){x:AV}{v:Value}(h:cm W μ w x v):nv r x=true→cm W' μ' w' x v:=by
  induction h with
  |any=>intro _;exact .any
  |lit=>intro _;exact .lit
  |guess h1 h2=>intro _;exact .guess h1 h2
  |emp=>intro _;exact .emp
  |slNil=>intro _;exact .slNil
  | sl hW hb hn hc hwd hcell _ hnr ih=>
    intro _
    exact .sl (fun h=>hW (g.wr _ hb h)) (jB hb g.size) hn hc hwd (fun q c hq=>by rw[g.cell hW hb];exact hcell q c hq) (fun q c hq=>ih q c hq (j5 r c (hnr c (bN hq)))) hnr
  |own hm hv hp hl hs ho=>intro hx;exact .own (g.mu _ _ (Nat.le_of_ble_eq_true hx) hm) hv hp hl (g.shape _ _ _ hs) ho
  |ownNil hm=>intro hx;exact .ownNil (g.mu _ _ (Nat.le_of_ble_eq_true hx) hm)
  |ptr hm hp=>intro hx;exact .ptr (g.mu _ _ (Nat.le_of_ble_eq_true hx) hm) hp
  |mapr hm hp=>intro hx;exact .mapr (g.mu _ _ (Nat.le_of_ble_eq_true hx) hm) hp
  | fmap hW hb h1 h2 h3 h4 h5 _ hn ih=>
    intro _
    refine .fmap (fun h=>hW (g.wr _ hb h)) (jB hb g.size) (by rw[g.blk _ hW hb];exact h1) h2 h3 h4 h5 (fun i key x hi=>ih i key x hi ?_) hn
    have:=hn _ (bN hi)
    simp only[entry,Go.Am.bj,Go.Am.aV,Bool.and_true,Bool.true_and] at this
    exact j5 r x this
  | fptr hW hb hcell _ hnr ih=>
    intro _
    exact .fptr (fun h=>hW (g.wr _ hb h)) (jB hb g.size) (fun q c hq=>by rw[g.cell hW hb];exact hcell q c hq) (fun q c hq=>ih q c hq (j5 r c (hnr c (bN hq)))) hnr
  |agg hl _ ih=>intro hx;exact .agg hl (fun j c v h1 h2=>ih j c v h1 h2 (jF hx h1))
  |tup hl _ ih=>intro hx;exact .tup hl (fun j c v h1 h2=>ih j c v h1 h2 (jF hx h1))
  | clo h1 h2 _ _ ih1 ih2=>
    intro hx
    simp only[nv,bJ] at hx
    exact .clo h1 h2 (fun j c v a b=>ih1 j c v a b (jF hx.1 a)) (fun j c v a b=>ih2 j c v a b (jF hx.2 a))
noncomputable def nX (r:Nat) (μ:Mu) (m:Nat→MS):Mu:=fun t=>
  if t<r then μ t else if jf≤t then(match m (t-jf) with
    |.live _ _ false=>μ (t-jf)
    |_=>none) else none
section
variable {P : Program} {N : Nat} {w0 : World} {W0 : Nat → Prop} {L μ : Mu} {σ : au} {a : Act} {w : World} {r : Nat}
theorem D3 (hr:r≤jf){b:Nat}(h:iI μ σ.mem b):rM (nX r μ σ.mem) b:=by
  obtain⟨t,B,wd,rows,h1,h2,h3,h4⟩:=h
  refine⟨jf+t,B,?_,h3,h4⟩
  unfold nX
  rw[if_neg (by omega),if_pos (by omega),show jf+t-jf=t by omega,h1]
  exact h2
theorem nJ (hlive:∀t,t<r→∃wd rows,σ.mem t=.live wd rows false){b:Nat}(h:rM (nX r μ σ.mem) b):iI μ σ.mem b:=by
  obtain⟨t,B,h1,h2,h3⟩:=h
  unfold nX at h1
  split at h1
  · rename_i ht
    obtain⟨wd,rows,hm⟩:=hlive t ht
    exact⟨t,B,wd,rows,hm,h1,h2,h3⟩
  · split at h1
    · split at h1
      · rename_i wd rows hm
        exact⟨_,B,wd,rows,hm,h1,h2,h3⟩
      ·cases h1
    ·cases h1
theorem bV.Hz (h:bV P N w0 W0 L μ σ a w)(hr:r≤jf)(hlive:∀t,t<r→∃wd rows,σ.mem t=.live wd rows false){sl:Nat→AV}{a':Act}(ha:a'.tmps.size=N)(hd:a'.defers=[])
    (hsl:∀i,cm (Wr W0 μ σ.mem) μ w (sl i) (a'.tmps.getD i undef)):bV P N {w with drawn:=1} W0 (nX r μ σ.mem) μ ⟨sl,σ.mem⟩ a' w where
  tabs :=by
    have:=h.o6 (L':=nX r μ σ.mem) (fun b hb=>by
      obtain⟨t,B,wd,rows,h1,h2,rfl,h4⟩:=nJ (σ:=σ) hlive hb
      exact(h.out t wd rows false B h1 h2 h4).2 rfl)
    exact this
  tsize:=ha
  defers:=by rw[hd];exact .nil
  os:=rfl
  tape:=rfl
  output:=rfl
  hsize:=Nat.le_refl _
  shp _ _ _ hb:=hb
  keep _ _ _:=rfl
  w0lt b hb:=jB (h.w0lt b hb) h.hsize
  lentμ t B hb hB:=by
    unfold nX at hB
    split at hB
    ·exact hB
    ·rw[if_neg (by omega)] at hB;cases hB
  free:=h.free
  slots:=hsl
  objs:=h.objs
  inj:=h.inj
  out t wd rows ro B h1 h2 h3:=⟨(h.out t wd rows ro B h1 h2 h3).1,fun hro=>.inr (D3 hr ⟨t,B,wd,rows,by rw[←hro];exact h1,h2,rfl,h3⟩)⟩
structure NA (P:Program) (N:Nat) (r:Nat) (w0:World) (W0:Nat→Prop) (L μ:Mu) (σ:au) (w:World) (μ':Mu) (σ':au) (w':World):Prop where
  keep:∀b,b<w.heap.size→¬iI μ σ.mem b→w'.heap[b]? =w.heap[b]?
  grow:Dl r (Wr W0 μ σ.mem) μ w (Wr W0 μ' σ'.mem) μ' w'
  E1:∀ (sl:Nat→AV) (a':Act),a'.tmps.size=N→Marks w0 a'.defers w'→(∀i,cm (Wr W0 μ' σ'.mem) μ' w' (sl i) (a'.tmps.getD i undef))→bV P N w0 W0 L μ' ⟨sl,σ'.mem⟩ a' w'
theorem bV.zQ (h:bV P N w0 W0 L μ σ a w)(hL:∀t,r≤t→L t=none)(hr:r≤jf)(hlive:∀t,t<r→∃wd rows,σ.mem t=.live wd rows false){N':Nat}{μ':Mu}{σ':au}{a':Act}{w':World}
    (k:bV P N' {w with drawn:=1} W0 (nX r μ σ.mem) μ' σ' a' w'):NA P N r w0 W0 L μ σ w μ' σ' w':=by
  have mineLent:∀b,iI μ σ.mem b→w0.heap.size≤b∨rM L b:=by
    rintro b ⟨t,B,wd,rows,h1,h2,rfl,h4⟩
    exact(h.out t wd rows false B h1 h2 h4).2 rfl
  have keep:∀b,b<w.heap.size→¬iI μ σ.mem b→w'.heap[b]? =w.heap[b]? :=fun b hb hm=>k.keep b hb fun hl=>hm (nJ hlive hl)
  have wr:∀b,b<w.heap.size→Wr W0 μ' σ'.mem b→Wr W0 μ σ.mem b:=by
    rintro b hb (hw|⟨t,B,wd,rows,h1,h2,rfl,h4⟩)
    ·exact .inl hw
    · rcases(k.out t wd rows false B h1 h2 h4).2 rfl with hh|hh
      · have:w.heap.size≤B.b:=hh
        omega
      ·exact .inr (nJ hlive hh)
  have mu:∀t B,t<r→μ t=some B→μ' t=some B:=fun t B ht hB=>k.lentμ t B (by omega) (by unfold nX;rw[if_pos ht];exact hB)
  refine⟨keep,⟨k.hsize,fun b hb hl=>keep b hl fun hm=>hb (.inr hm),k.shp,wr,mu⟩,fun sl a2 hN hd hsl=>?_⟩
  exact {
    tabs:=h.tabs
    tsize:=hN
    defers:=hd
    os:=k.os.trans h.os
    tape:=k.tape.trans h.tape
    output:=k.output.trans h.output
    hsize:=Nat.le_trans h.hsize k.hsize
    shp:=fun b e n hb=>k.shp b e n (h.shp b e n hb)
    keep :=fun b hb hl=>by
      rw[keep b (jB hb h.hsize) ?_]
      ·exact h.keep b hb hl
      · intro hm
        rcases mineLent b hm with hh|hh
        ·omega
        ·exact hl hh
    w0lt:=h.w0lt
    lentμ:=fun t B hb hB=>mu t B (by
      rcases Nat.lt_or_ge t r with ht|ht
      ·exact ht
      ·rw[hL t ht] at hB;cases hB) (h.lentμ t B hb hB)
    free:=k.free
    slots:=hsl
    objs:=k.objs
    inj:=k.inj
    out:=fun t wd rows ro B h1 h2 h3=>⟨(k.out t wd rows ro B h1 h2 h3).1,fun hro=>by
      rcases(k.out t wd rows ro B h1 h2 h3).2 hro with hh|hh
      ·exact .inl (Nat.le_trans h.hsize hh)
      ·exact mineLent _ (nJ hlive hh)⟩}
end
def GD (Wn:Nat→Prop)(w:World)(Wn':Nat→Prop)(w':World):Prop:=
  w.heap.size≤w'.heap.size∧(∀b,b<w.heap.size→¬Wn b→w'.heap[b]? =w.heap[b]?)∧∀b,b<w.heap.size→Wn' b→Wn b
def Jb (P:Program)(g:FuncId)(caps:List AV)(n:Nat)(enc:Nat→List AV):Prop:=
  ∀ (vals:List Value) (l:Nat) (J:Nat→(Nat→Prop)→World→Prop) (Jx:World→Prop),
    (∀k Wn W,J k Wn W→(∃μ,bY Wn μ W caps vals)∧jc P W fun _=>none)→(∀k Wn W W',J k Wn W→kf W W'→J k Wn W')→(∀W W',Jx W→kf W W'→Jx W')→(∀k Wn W,J k Wn W→∀b,Wn b→b<W.heap.size)→
    (∀ k Wn W vs,k<n→J k Wn W→(∀Wn' μ,bY Wn' μ W caps vals→bY Wn' μ W (enc k) vs)→
      YieldAt Fence.wide 0 P l vs.toArray W fun e W'=>(e=.returned (.bool true)∧∃Wn',J (k+1) Wn' W'∧GD Wn W Wn' W')∨(e=.returned (.bool false)∧Jx W'))→
    ∀Wn w,J 0 Wn w→Calls P g ((.func (.yield l) #[] #[])::vals).toArray w fun e w'=>(∃v,e=.returned v)∧((∃Wn',J n Wn' w')∨Jx w')
def Ge (P:Program)(r:Nat)(S:SL)(m':ML)(Q:Exit→au→Prop)(e:Exit)(σ:au):Prop:=
  match e with
  |.normal=>gY P r σ (St S m')
  |.ret=> ∃m,gY P r σ (St S m)∧Q .ret (St S m)
  |.exit id=> ∃m,gY P r σ (St S m)∧Q (.exit id) (St S m)
  |_=>False
def zK:List Tmp→List AV→SL→SL
  |p::ps,x::xs,sl=>(p,x)::zK ps xs sl
  |_,_,sl=>sl
theorem wG:∀ (ps:List Tmp) (xs:List AV) (sl:SL) (i:Nat),ps.length=xs.length→ps.Nodup→bX (zK ps xs sl) i=match ps.idxOf? i with
    |some j=>xs.getD j .any
    |none=>bX sl i
  |[],[],sl,i,_,_=>rfl
  | p ::ps,x::xs,sl,i,hl,hd=>by
    simp only[zK,bX,List.idxOf?_cons]
    by_cases h:i=p
    ·subst h;simp
    · have h1:(i==p)=false:=by simpa using h
      have h2:(p==i)=false:=by simpa using Ne.symm h
      rw[h1,h2]
      have ih:=wG ps xs sl i (by simpa using hl) (List.nodup_cons.1 hd).2
      simp only[Bool.false_eq_true,if_false]
      rw[ih]
      cases ps.idxOf? i<;>simp
  |p::ps,[],sl,i,hl,_=>by simp at hl
  |[],x::xs,sl,i,hl,_=>by simp at hl
theorem vi:∀ (ps:List Tmp) (vs:List Value) (t:Array Value),ps.length=vs.length→ps.Nodup→(∀p∈ps,p<t.size)→
    (∀ i,((ps.zip vs).foldl (fun t (x:Tmp×Value)=>t.setIfInBounds x.1 x.2) t).getD i undef=match ps.idxOf? i with
      |some j=>vs.getD j undef
      |none=>t.getD i undef)∧((ps.zip vs).foldl (fun t (x:Tmp×Value)=>t.setIfInBounds x.1 x.2) t).size=t.size
  |[],[],t,_,_,_=>⟨fun i=>rfl,rfl⟩
  | p :: ps,v::vs,t,hl,hd,hp=>by
    obtain⟨h1,h2⟩:=vi ps vs (t.setIfInBounds p v) (by simpa using hl) (List.nodup_cons.1 hd).2 (fun q hq=>by simpa using hp q (by simp[hq]))
    simp only[List.zip_cons_cons,List.foldl_cons]
    refine⟨fun i=>?_,by rw[h2];simp⟩
    rw[h1 i]
    simp only[List.idxOf?_cons]
    by_cases h:p=i
    · subst h
      have hn:ps.idxOf? p=none:=by
        rw[List.idxOf?_eq_none_iff];exact(List.nodup_cons.1 hd).1
      rw[hn]
      have hlt:=hp p (by simp)
      simp[hlt]
    · have h2:(p==i)=false:=by simpa using h
      rw[h2]
      simp only[Bool.false_eq_true,if_false]
      cases ps.idxOf? i with
      |none=>simp[Array.getElem?_setIfInBounds_ne h]
      |some j=>simp
  |p::ps,[],t,hl,_,_=>by simp at hl
  |[],v::vs,t,hl,_,_=>by simp at hl
theorem zH {W:Nat→Prop}{μ:Mu}{w:World}{g:FuncId}{caps:List AV}{A B:Array Value}(h:cm W μ w (.clo (.func g) [] caps) (.func (.func g) A B)):A= #[]∧bY W μ w caps B.toList:=by
  generalize hv:Value.func (.func g) A B=v at h
  cases h with
  | @clo _ _ _ va vb h1 h2 h3 h4=>
    cases hv
    have e:va=[]:=List.eq_nil_of_length_eq_zero (by simpa using h1)
    exact⟨by rw[e],by show bY W μ w caps vb;exact⟨h2,h4⟩⟩
theorem zF {W:Nat→Prop}{μ:Mu}{w:World}{g:FuncId}{caps:List AV}{v:Value}(h:cm W μ w (.clo (.func g) [] caps) v):∃vals:List Value,v=.func (.func g) #[] vals.toArray:=by
  cases h with
  | @clo _ _ _ va vb h1 h2 h3 h4=>
    have e:va=[]:=List.eq_nil_of_length_eq_zero (by simpa using h1)
    exact⟨vb,by rw[e]⟩
theorem bV.O8 {P:Program}{N:Nat}{w0:World}{W0:Nat→Prop}{L μ:Mu}{σ:au}{a:Act}{w:World}(h:bV P N w0 W0 L μ σ a w){b:Nat}(hb:Wr W0 μ σ.mem b):b<w.heap.size:=by
  rcases hb with hb|⟨t,B,wd,rows,m1,m2,rfl,hv⟩
  ·exact jB (h.w0lt b hb) h.hsize
  · obtain⟨B',hB',hobj⟩:=h.objs t wd rows false m1
    rw[m2] at hB';cases hB'
    cases hmp:B.mp with
    |false=>obtain⟨C,e,fz,h3,_⟩:=hobj.blk hv hmp;exact(Array.getElem?_eq_some_iff.1 h3).1
    |true=>obtain⟨es,clock,h3,_⟩:=hobj.map hmp;exact(Array.getElem?_eq_some_iff.1 h3).1
set_option maxHeartbeats 2000000 in
/-- **A loop over a function.** S: what the frame's slots hold, in each round; M k: the objects when k rounds are over; those with names below r keep their names. -/
theorem ek.range {P:Program}{N nL:Nat}{σ:au}{Q:Exit→au→Prop}{f:Operand}{ps:Array Tmp}{assign body:Code}{g:FuncId}{caps:List AV}{n:Nat}{enc:Nat→List AV}
    (r:Nat) (S:SL) (M:Nat→ML) (hit:Jb P g caps n enc) (hg:af P g) (h0:gY P nL σ (St S (M 0))) (hf:(St S (M 0)).eval f=.clo (.func g) [] caps)
    (hnL:nL≤r) (hr:r≤jf) (hlive:∀k,k≤n→∀t,t<r→∃wd rows,aN (M k) t=.live wd rows false) (hS:∀i,nv r (bX S i)=true)
    (henc:∀k,k<n→(enc k).length=ps.size) (hnd:ps.toList.Nodup) (hlt:∀p∈ps.toList,p<N) (hpa:cP assign=true) (hpb:cP body=true)
    (hround:∀k,k<n→ek P N r assign (fun e σ'=>e=.normal∧(∀t,t<r→∃wd rows,σ'.mem t=.live wd rows false)∧ek P N r body (Ge P r S (M (k+1)) Q) σ') (St (zK ps.toList (enc k) S) (M k)))
    (hdone:Q .normal (St S (M n))):ek P N nL (.rangeFunc f ps assign body) Q σ:=by
  intro rd hp w0 W0 L μ a w hL hs
  have hrd:rd=none:=hp.resolve_right (by simp[cP])
  subst hrd
  obtain⟨μ0,hs0⟩:=h0 N w0 W0 L μ a w (fun t h1 h2=>hL.1 t h1 (.inl h2)) hs
  have hLr:∀t,r≤t→L t=none:=fun t h=>hL.1 t (Nat.le_trans hnL h) (.inr rfl)
  have hdr:=hL.2 rfl
  have hfk:∀m,(St S m).eval f=.clo (.func g) [] caps:=fun m=>hf
  obtain⟨vals,hval⟩:=zF (by have:=hs0.eval f;rw[hfk] at this;exact this)
  refine wpIn_rangeFunc (F:=jA none) ?_
  intro fn _
  obtain⟨rec,hrec⟩:∃rec:LoopState→Option Code→Loop,rec=fun st pe=>{state:=st,pending:=pe,fn,tmps:=a.tmps,params:=ps,assign,body,defers:=w.heap.size}:=⟨_,rfl⟩
  obtain⟨W1,hW1⟩:∃W1,(w.alloc (.deferred (some []))).alloc (.loop (rec .ready none))=W1:=⟨_,rfl⟩
  have hmore:kf w W1:=by rw[←hW1];exact(kf.alloc _).trans (kf.alloc _)
  have hl1:W1.heap[w.heap.size+1]? =some (.loop (rec .ready none)):=by
    rw[←hW1];have:=World.alloc_heap_new (w.alloc (.deferred (some []))) (.loop (rec .ready none));rwa [World.size_alloc] at this
  have hD1:W1.heap[w.heap.size]? =some (.deferred (some [])):=by
    rw[←hW1,(kf.alloc (w:=w.alloc (.deferred (some []))) (.loop (rec .ready none))).blk _ (by simp)]
    exact World.alloc_heap_new w _
  have hDge:w0.heap.size≤w.heap.size:=hs0.hsize
  let J:Nat→(Nat→Prop)→World→Prop:=fun k Wn W=> ∃μk,bV P N w0 W0 L μk (St S (M k)) a W∧Wn=Wr W0 μk (aN (M k))∧W.heap[w.heap.size+1]? =some (.loop (rec .ready none))∧W.heap[w.heap.size]? =some (.deferred (some []))∧k≤n
  let Jx:World→Prop:=fun W=> ∃c e m μk,bV P N w0 W0 L μk (St S m) a W∧W.heap[w.heap.size+1]? =some (.loop (rec .done (some c)))∧W.heap[w.heap.size]? =some (.deferred (some []))∧(c=.ret∧e=.ret∨∃id,c=.exit id∧e=.exit id)∧Q e (St S m)
  have hcaps:∀k Wn W,J k Wn W→(∃μ,bY Wn μ W caps vals)∧jc P W fun _=>none:=by
    rintro k Wn W ⟨μk,h1,rfl,_⟩
    have h2:=h1.eval f
    rw[hfk,hval] at h2
    have h3:bY (Wr W0 μk (St S (M k)).mem) μk W caps vals:=by simpa using(zH h2).2
    exact⟨⟨μk,h3⟩,h1.o6 fun b h=>by obtain⟨_,_,h,_⟩:=h;cases h⟩
  have hbk:∀ {W W':World} {b:Nat} {o:Obj},kf W W'→W.heap[b]? =some o→W'.heap[b]? =some o:=fun m h=>by rw[m.blk _ (Array.getElem?_eq_some_iff.1 h).1];exact h
  have key:=hit vals (w.heap.size+1) J Jx hcaps
    (by rintro k Wn W W' ⟨μk,h1,h2,h3,h4,h5⟩ m;exact⟨μk,h1.more m,h2,hbk m h3,hbk m h4,h5⟩)
    (by rintro W W' ⟨c,e,m',μk,h1,h2,h3,h4⟩ m;exact⟨c,e,m',μk,h1.more m,hbk m h2,hbk m h3,h4⟩)
    (by rintro k Wn W ⟨μk,h1,rfl,_⟩ b hb;exact h1.O8 hb)
    ?round _ W1 ⟨μ0,hs0.more hmore,rfl,hl1,hD1,Nat.zero_le _⟩
  case round =>
    rintro k Wn W vs hk ⟨μk,hsk,rfl,hl,hD,hkn⟩ hvs
    have hrep:bY (Wr W0 μk (aN (M k))) μk W (enc k) vs:=by
      refine hvs _ _ ?_
      have h2:=hsk.eval f
      rw[hfk,hval] at h2
      have h3:bY (Wr W0 μk (St S (M k)).mem) μk W caps vals:=by simpa using(zH h2).2
      exact h3
    have hvl:vs.length=ps.toList.length:=by rw[hrep.1,henc k hk];simp
    obtain⟨hget,hsz⟩:=vi ps.toList vs a.tmps hvl.symm hnd (fun p hp=>by rw[hsk.tsize];exact hlt p hp)
    have hfold:(ps.zip vs.toArray).foldl (fun tmps (t,a)=>tmps.setIfInBounds t a) a.tmps=(ps.toList.zip vs).foldl (fun t (x:Tmp×Value)=>t.setIfInBounds x.1 x.2) a.tmps:=by
      rw[←Array.foldl_toList];simp
    have hlk:∀t,t<r→∃wd rows,(St S (M k)).mem t=.live wd rows false:=hlive k hkn
    have hreb:=hsk.Hz (sl:=(St (zK ps.toList (enc k) S) (M k)).slots) (a':={tmps:=(ps.toList.zip vs).foldl (fun t (x:Tmp×Value)=>t.setIfInBounds x.1 x.2) a.tmps,defers:=[]}) hr hlk
      (by rw [hsz];exact hsk.tsize) rfl (fun i=>by
        show cm _ _ _ (bX (zK ps.toList (enc k) S) i) _
        rw[wG _ _ _ _ (by rw[←hvl,hrep.1]) hnd,hget i]
        cases hj:ps.toList.idxOf? i with
        |none=>exact hsk.slots i
        | some j=>
          simp only
          rcases Nat.lt_or_ge j (enc k).length with h|h
          · rw[List.getD_eq_getElem?_getD,bh h,List.getD_eq_getElem?_getD,bh (by rw[hrep.1];exact h)]
            exact hrep.2 j _ _ (bh h) (bh _)
          ·rw[List.getD_eq_getElem?_getD,mg h];exact .any)
    have hargs:vs.toArray.size=(rec .ready none).params.size:=by rw[hrec];simpa using hvl
    have hy:=run_yield (P:=P) (args:=vs.toArray) hl hargs
    rw[hrec] at hy
    simp only at hy
    rw[hfold] at hy
    refine⟨fn,_,assign,body,hy,roundIn_of_wpIn trivial ?_⟩
    have hrebL:∀t,r≤t→(t<jf∨(some (w.heap.size+1):Option Nat)=none)→nX r μk (aN (M k)) t=none:=fun t h1 h2=>by
      unfold nX
      rcases h2 with h2|h2
      ·rw[if_neg (by omega),if_neg (by omega)]
      ·cases h2
    have ha:=hround k hk (some (w.heap.size+1)) (.inr hpa) {W with drawn:=1} W0 (nX r μk (aN (M k))) μk _ W ⟨hrebL,fun h=>by cases h⟩ hreb
    refine wpIn_mono (F:=jA (some (w.heap.size+1))) ha ?_
    rintro e a1 Wa ⟨μ1,σ1,⟨rfl,hlive1,hb⟩,hs1⟩
    have U1:=hsk.zQ hLr hr hlk hs1
    have hd1:a1.defers=[]:=hs1.defers.1 (Nat.succ_ne_zero 0)
    have notMine:∀ {b:Nat} {o:Obj} {μ':Mu} {σ':au} {a':Act} {W':World},bV P N w0 W0 L μ' σ' a' W'→W'.heap[b]? =some o→yp o=true→¬iI μ' σ'.mem b:=by
      rintro b o μ' σ' a' W' hs' ho hbo ⟨t,B,wd,rows,m1,m2,rfl,hv⟩
      obtain⟨B',hB',hobj⟩:=hs'.objs t wd rows false m1
      rw[m2] at hB';cases hB'
      cases hmp:B.mp with
      |false=>obtain⟨C,e,fz,h3,_⟩:=hobj.blk hv hmp;rw[ho] at h3;cases h3;cases hbo
      |true=>obtain⟨es,clock,h3,_⟩:=hobj.map hmp;rw[ho] at h3;cases h3;cases hbo
    have ltOf:∀ {b:Nat} {o:Obj} {W':World},W'.heap[b]? =some o→b<W'.heap.size:=fun h=>(Array.getElem?_eq_some_iff.1 h).1
    have hla:Wa.heap[w.heap.size+1]? =some (.loop (rec .ready none)):=by rw[U1.keep _ (ltOf hl) (notMine hsk hl rfl)];exact hl
    have hDa:Wa.heap[w.heap.size]? =some (.deferred (some [])):=by rw[U1.keep _ (ltOf hD) (notMine hsk hD rfl)];exact hD
    -- what the frame itself holds
    have out1:∀i,cm (Wr W0 μ1 σ1.mem) μ1 Wa (bX S i) (a.tmps.getD i undef):=fun i=>(hsk.slots i).KK U1.grow (hS i)
    have mk1:Marks w0 a.defers Wa:=hsk.defers.keep fun E _ h2=>by rw[U1.keep E (ltOf h2) (notMine hsk h2 rfl)];exact h2
    have sa:bV P N w0 W0 L μ1 ⟨bX S,σ1.mem⟩ a Wa:=U1.E1 _ a hsk.tsize mk1 out1
    -- the round is on
    have tb:dU (w.heap.size+1) Wa (Wa.putObj (w.heap.size+1) (.loop {rec .ready none with state:=.busy})):=dU.put hla rfl
    obtain⟨Wb,hWb⟩:∃Wb,Wa.putObj (w.heap.size+1) (.loop {rec .ready none with state:=.busy})=Wb:=⟨_,rfl⟩
    rw[hWb] at tb
    have hlb:Wb.heap[w.heap.size+1]? =some (.loop {rec .ready none with state:=.busy}):=by rw[←hWb];exact World.putObj_heap_same (ltOf hla)
    have hDb:Wb.heap[w.heap.size]? =some (.deferred (some [])):=by rw[tb.blk _ (by omega)];exact hDa
    refine⟨Wb,by rw[←hWb];exact run_beginRound hla (by rw[hrec]),?_⟩
    have mkb:Marks w0 a.defers Wb:=mk1.keep fun E h1 h2=>by
      rw[tb.blk E (fun e=>by rw[e,hla] at h2;cases h2)];exact h2
    have sb:bV P N w0 W0 L μ1 ⟨bX S,σ1.mem⟩ a Wb:=sa.rK tb (by omega) mkb
    have slot1:∀i,cm (Wr W0 μ1 σ1.mem) μ1 Wb (σ1.slots i) (a1.tmps.getD i undef):=fun i=>(hs1.slots i).rK tb
    have hrb:=sb.Hz (sl:=σ1.slots) (a':=a1) hr hlive1 hs1.tsize hd1 slot1
    have hrebL1:∀t,r≤t→(t<jf∨(some (w.heap.size+1):Option Nat)=none)→nX r μ1 σ1.mem t=none:=fun t h1 h2=>by
      unfold nX
      rcases h2 with h2|h2
      ·rw[if_neg (by omega),if_neg (by omega)]
      ·cases h2
    refine wpIn_mono (F:=jA (some (w.heap.size+1))) (hb (some (w.heap.size+1)) (.inr hpb) {Wb with drawn:=1} W0 (nX r μ1 σ1.mem) μ1 a1 Wb ⟨hrebL1,fun h=>by cases h⟩ hrb) ?_
    rintro e a2 Wc ⟨μ2,σ2,he,hs2⟩
    -- the round is over
    have fin:∀ (mm:ML),gY P r σ2 (St S mm)→∃μ3,(∀b,b<Wb.heap.size→¬iI μ1 σ1.mem b→Wc.heap[b]? =Wb.heap[b]?)∧(∀b,b<Wb.heap.size→Wr W0 μ3 (aN mm) b→Wr W0 μ1 σ1.mem b)∧
        Wc.heap[w.heap.size+1]? =some (.loop {rec .ready none with state:=.busy})∧Wc.heap[w.heap.size]? =some (.deferred (some []))∧bV P N w0 W0 L μ3 (St S mm) a Wc∧Wb.heap.size≤Wc.heap.size:=by
      intro mm hsits
      obtain⟨μ3,hs3⟩:=hsits N _ W0 (nX r μ1 σ1.mem) μ2 a2 Wc (fun t h1 h2=>hrebL1 t h1 (.inl h2)) hs2
      have U2:=sb.zQ hLr hr hlive1 hs3
      have hDc:Wc.heap[w.heap.size]? =some (.deferred (some [])):=by rw[U2.keep _ (ltOf hDb) (notMine sb hDb rfl)];exact hDb
      refine⟨μ3,U2.keep,U2.grow.wr,by rw[U2.keep _ (ltOf hlb) (notMine sb hlb rfl)];exact hlb,hDc,?_,U2.grow.size⟩
      exact U2.E1 _ a hsk.tsize (mkb.keep fun E _ h2=>by rw[U2.keep E (ltOf h2) (notMine sb h2 rfl)];exact h2) (fun i=>((out1 i).rK tb).KK U2.grow (hS i))
    have over:∀ (jump:Option Code) (mm:ML),gY P r σ2 (St S mm)→∃μ3 Wd,(Instr.endRound (w.heap.size+1) jump).run P Wc=.ok (.bool jump.isNone) Wd∧bV P N w0 W0 L μ3 (St S mm) a Wd∧
        Wd.heap[w.heap.size+1]? =some (.loop (rec (if jump.isNone then .ready else .done) jump))∧Wd.heap[w.heap.size]? =some (.deferred (some []))∧
        (jump=none→GD (Wr W0 μk (aN (M k))) W (Wr W0 μ3 (aN mm)) Wd):=by
      intro jump mm hsits
      obtain⟨μ3,keep2,wr2,hlc,hDc,s3,hsz3⟩:=fin mm hsits
      have hend:=run_endRound (P:=P) jump hlc
      have td:dU (w.heap.size+1) Wc (Wc.putObj (w.heap.size+1) (.loop { {rec .ready none with state:=.busy} with state:=if jump.isNone then .ready else .done,pending:=jump})):=dU.put hlc rfl
      obtain⟨Wd,hWd⟩:∃Wd,Wc.putObj (w.heap.size+1) (.loop { {rec .ready none with state:=.busy} with state:=if jump.isNone then .ready else .done,pending:=jump})=Wd:=⟨_,rfl⟩
      rw[hWd] at td
      have hld:Wd.heap[w.heap.size+1]? =some (.loop (rec (if jump.isNone then .ready else .done) jump)):=by
        rw[←hWd,World.putObj_heap_same (ltOf hlc),hrec]
      refine⟨μ3,Wd,by rw[←hWd];exact hend,s3.rK td (by omega) (s3.defers.keep fun E h1 h2=>?_),hld,by rw[td.blk _ (by omega)];exact hDc,fun hj=>?_⟩
      ·rw[td.blk E (fun e=>by rw[e,hlc] at h2;cases h2)];exact h2
      · have hsz1:W.heap.size≤Wa.heap.size:=hs1.hsize
        have hsz2:Wb.heap.size=Wa.heap.size:=tb.size
        refine⟨by rw[td.size];omega,fun b hb hn=>?_,fun b hb hw=>?_⟩
        · by_cases hbl:b=w.heap.size+1
          · subst hbl
            rw[hld,hl,hj];rfl
          · have h1:¬iI μk (aN (M k)) b:=fun h=>hn (.inr h)
            have h2:¬iI μ1 σ1.mem b:=fun h=>hn (U1.grow.wr b hb (.inr h))
            rw[td.blk b hbl,keep2 b (by omega) h2,tb.blk b hbl,U1.keep b hb h1]
        ·exact U1.grow.wr b hb (wr2 b (by omega) hw)
    cases e with
    | normal=>
      obtain⟨μ3,Wd,h1,h2,h3,h4,h5⟩:=over none (M (k+1)) he
      exact⟨_,Wd,h1,.inl ⟨rfl,_,⟨μ3,h2,rfl,h3,h4,hk⟩,h5 rfl⟩⟩
    | ret=>
      obtain⟨mm,hm,hq⟩:=he
      obtain⟨μ3,Wd,h1,h2,h3,h4,h5⟩:=over (some .ret) mm hm
      exact⟨_,Wd,h1,.inr ⟨rfl,.ret,.ret,mm,μ3,h2,h3,h4,.inl ⟨rfl,rfl⟩,hq⟩⟩
    | exit id=>
      obtain⟨mm,hm,hq⟩:=he
      obtain⟨μ3,Wd,h1,h2,h3,h4,h5⟩:=over (some (.exit id)) mm hm
      exact⟨_,Wd,h1,.inr ⟨rfl,.exit id,.exit id,mm,μ3,h2,h3,h4,.inr ⟨id,rfl,rfl⟩,hq⟩⟩
    |goto t=>exact he.elim
    |panic c=>exact he.elim
    |outgrown=>exact he.elim
  have hres:(resolve a.eval (rangeCall f (w.heap.size+1)) 0).run P W1=.ok {target:=.fn (.func g) vals.toArray,args:= #[.func (.yield (w.heap.size+1)) #[] #[]]} W1:=by
    simp only[resolve,hval]
    simp[go_sem]
  refine⟨w.heap.size+1,[{target:=.collected w.heap.size,args:= #[]}],W1,{target:=.fn (.func g) vals.toArray,args:= #[.func (.yield (w.heap.size+1)) #[] #[]]},W1,g,
    #[.func (.yield (w.heap.size + 1)) #[] #[]] ++ vals.toArray, W1, ?_, hres, fun _ _ => trivial, ?_, fun h => (by cases h), ?_⟩
  ·rw[←hW1,hrec];exact run_enterLoop_outer _ _ _ _ _
  ·simp[invoke,go_sem,hg _ _]
  have eargs:(#[.func (.yield (w.heap.size+1)) #[] #[]]++vals.toArray:Array Value)=(.func (.yield (w.heap.size+1)) #[] #[]::vals).toArray:=by simp
  rw[eargs]
  refine om (key.mono ?_)
  have hmark:∀ {W W':World} {μ':Mu} {σ':au},bV P N w0 W0 L μ' σ' a W→dU (w.heap.size+1) W W'→W.heap[w.heap.size]? =some (.deferred (some []))→(∃o,W.heap[w.heap.size+1]? =some (.loop o))→
      bV P N w0 W0 L μ' σ' {a with defers:=[{target:=.collected w.heap.size,args:= #[]}]++a.defers} W':=by
    rintro W W' μ' σ' h t hD ⟨o,hl⟩
    refine h.rK t (by omega) ⟨fun h0=>absurd hdr h0,?_⟩
    obtain⟨_,Ds,d1,d2,d3⟩:=hs.defers
    obtain⟨_,Es,e1,e2,e3⟩:=h.defers
    have hE:Es=Ds:=by
      have:Es.map qD=Ds.map qD:=by rw[←e1,←d1]
      exact(List.map_inj_right (fun x y hxy=>by simpa[qD] using hxy)).1 this
    refine⟨w.heap.size::Ds,by rw[d1];rfl,List.nodup_cons.2 ⟨fun hm=>?_,d2⟩,fun D hD'=>?_⟩
    ·have:=(Array.getElem?_eq_some_iff.1 (d3 _ hm).2).1;omega
    · rcases dZ.1 hD' with rfl|hm
      ·exact⟨hDge,by rw[t.blk _ (by omega)];exact hD⟩
      · have h3:=e3 D (by rw[hE];exact hm)
        exact⟨h3.1,by rw[t.blk D (fun e=>by rw[e,hl] at h3;cases h3.2)];exact h3.2⟩
  rintro e W2 ⟨⟨v,rfl⟩,⟨Wn',μk,h1,_,h3,h4,_⟩|⟨c,e',mm,μk,h1,h2,h3,h4,h5⟩⟩
  · have hend:=run_endLoop (P:=P) h3 (by rw[hrec];simp)
    have e0:(rec .ready none).pending=none:=by rw[hrec]
    rw[e0] at hend
    refine⟨none,_,hend,μk,_,hdone,hmark h1 (dU.put h3 rfl) h4 ⟨_,h3⟩⟩
  · have hend:=run_endLoop (P:=P) h2 (by rw[hrec];simp)
    have e0:(rec .done (some c)).pending=some c:=by rw[hrec]
    rw[e0] at hend
    refine⟨some c,_,hend,?_⟩
    have hsim:=fun o'=>hmark h1 (dU.put h2 (o':=o') rfl) h3 ⟨_,h2⟩
    rcases h4 with⟨rfl,rfl⟩|⟨id,rfl,rfl⟩
    ·exact wpIn_ret ⟨μk,_,h5,hsim _⟩
    ·exact wpIn_exit ⟨μk,_,h5,hsim _⟩
end Go.Am
