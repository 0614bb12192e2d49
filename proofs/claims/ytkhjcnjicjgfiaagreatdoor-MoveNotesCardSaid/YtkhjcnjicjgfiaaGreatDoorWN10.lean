/- Walks of functions by unfolding over abstract states; runs of functions by an evaluator that is proved. By an AI agent. -/
import Derived.Test.YtkhjcnjicjgfiaaGreatDoorWN9
import Derived.RangeFuncSeq
set_option linter.unusedSimpArgs false
set_option linter.unusedVariables false
namespace Go.Am
open Go
theorem nf {b:Bool}(h:b=false):(!b)=true:=by rw[h];rfl
theorem nt {b:Bool}(h:b=true):(!b)=false:=by rw[h];rfl
theorem ay (n:Nat):(NatCast.natCast n:Int)=(Nat.cast n:Int):=rfl
section
variable {P : Program} {N : Nat} {o : Oper} {f : FuncId} {args args' : List AV} {acc : Tk} {sl : SL} {m : ML} {R : Rest} {res : AV} {ins outs news : List MS}
@[reducible] def r4 : Nat → Nat → List Nat → List (Nat × Nat)
  |_,_,[]=>[]
  | n,k,t::r=>match n with
    |0=>[]
    |n+1=>(k,t)::r4 n (Nat.add k 1) r
theorem Ck:∀ {n k:Nat} {l:List Nat} {i u:Nat},oG (r4 n k l) i=some u→k≤i∧i-k<n∧l[i-k]? =some u
  |n,k,[],i,u,h=>by rw[r4] at h;cases h
  |0,k,t::r,i,u,h=>by rw[r4] at h;cases h
  | n +1,k,t::r,i,u,h=>by
    simp only[r4,oG] at h
    split at h
    · rename_i hb
      have:=beq_eq hb
      subst this
      cases h
      simp
    · rename_i hb
      obtain⟨a,b,c⟩:=Ck h
      have a':k+1≤i:=a
      have b':i- (k+1)<n:=b
      refine⟨by omega,by omega,?_⟩
      rw[show i-k=(i- (k+1))+1 from by omega,List.getElem?_cons_succ]
      exact c
theorem Cv.Lc {mm:Nat→MS}{ρ ρ':Nat→Nat}{D D' F:Nat→Prop}(h:∀t,D t→D' t∧ρ t=ρ' t){x y:AV}(hc:Cv mm ρ D F x y):Cv mm ρ' D' F x y:=by
  induction hc with
  |any=>exact .any
  |same h=>exact .same h
  |own h1=>rw[(h _ h1).2];exact .own (h _ h1).1
  |ptr h1=>rw[(h _ h1).2];exact .ptr (h _ h1).1
  |mapr h1=>rw[(h _ h1).2];exact .mapr (h _ h1).1
  |fmap a b c d e f ih=>exact .fmap a b c d (fun i key key' x' x h1 h2=>ih i key key' x' x h1 h2) f
  |nil=>exact .nil
  |nilE=>exact .nilE
  |empS=>exact .empS
  |frz a b c d e _ g ih=>exact .frz a b c d e (fun q c d h1 h2=>ih q c d h1 h2) g
  |frzp a b c d _ g ih=>exact .frzp a b c d (fun q c d h1 h2=>ih q c d h1 h2) g
  |agg a _ ih=>exact .agg a (fun q c d h1 h2=>ih q c d h1 h2)
  |tup a _ ih=>exact .tup a (fun q c d h1 h2=>ih q c d h1 h2)
  |clo a b _ _ ih1 ih2=>exact .clo a b (fun q c d h1 h2=>ih1 q c d h1 h2) (fun q c d h1 h2=>ih2 q c d h1 h2)
@[reducible] def oD (names : List Nat) : Nat → AV → AV
  |0,x=>x
  | n +1,x=>match x with
    | .own t o l=>match iA names t with
      |some u=>.own u o l
      |none=>.any
    | .ptr t i k=>match iA names t with
      |some u=>.ptr u i k
      |none=>.any
    | .mapr t=>match iA names t with
      |some u=>.mapr u
      |none=>.any
    |.agg cs=>.agg (ef (oD names n) cs)
    |.tup cs=>.tup (ef (oD names n) cs)
    |x=>x
theorem wA {mm:Nat→MS}{F:Nat→Prop}{names:List Nat}(hn:names.Nodup):∀ (n:Nat) (x:AV),za n (eV names) x=true→Cv mm (names.idxOf ·) (· ∈names) F (oD names n x) x
  |0,x,h=>.same h
  | n + 1,x,h=>by
    have list:∀cs:List AV,iZ (za n (eV names)) cs=true→gR mm (names.idxOf ·) (· ∈names) F (ef (oD names n) cs) cs:=by
      intro cs
      induction cs with
      |nil=>intro _;exact .nil
      | cons c cs ih=>
        intro h
        simp only[iZ] at h
        split at h
        ·rename_i h1;exact .cons (wA hn n c h1) (ih h)
        ·cases h
    have tk:∀t,t+1≤eV names→∃u,iA names t=some u∧u∈names∧names.idxOf u=t:=by
      intro t ht
      rw[c6] at ht
      have hg:names[t]? =some (names[t]'ht):=bD _
      exact⟨_,by rw[ij];exact hg,bO hg,AJ hn hg⟩
    cases x with
    | own t o l=>
      obtain⟨u,h1,h2,h3⟩:=tk t (fO h)
      simp only[oD,h1]
      have:=Cv.own (m:=mm) (ρ:=(names.idxOf ·)) (D:=(· ∈names)) (F:=F) (t:=u) (o:=o) (l:=l) h2
      rwa [h3] at this
    | ptr t i k'=>
      obtain⟨u,h1,h2,h3⟩:=tk t (fO h)
      simp only[oD,h1]
      have:=Cv.ptr (m:=mm) (ρ:=(names.idxOf ·)) (D:=(· ∈names)) (F:=F) (t:=u) (i:=i) (k:=k') h2
      rwa [h3] at this
    | mapr t=>
      obtain⟨u,h1,h2,h3⟩:=tk t (fO h)
      simp only[oD,h1]
      have:=Cv.mapr (m:=mm) (ρ:=(names.idxOf ·)) (D:=(· ∈names)) (F:=F) (t:=u) h2
      rwa [h3] at this
    |agg cs=>exact .uk (list cs h)
    |tup cs=>exact .uB (list cs h)
    |_=>exact .same h
@[reducible] def n9 : List AV → List AV → Bool
  |[],[]=>true
  | x::xs,y::ys=>match r8 (eV (dA x)) (eV (dA y)) with
    |true=>n9 xs ys
    |false=>false
  |_,_=>false
theorem ot {wd:Nat}:∀ {xs ys:List AV},n9 xs ys=true→bG wd ys→bG wd xs
  |[],[],_,h=>h
  | x ::xs,y::ys,h,hw=>by
    simp only[n9] at h
    split at h
    · rename_i h1
      have h1':=beq_eq (by rw[←eo];exact h1)
      rw[c6,c6,eS,eS] at h1'
      have ih:=ot h hw.tail.2
      intro i r hr
      cases i with
      |zero=>simp at hr;subst hr;rw[h1'];exact hw.tail.1
      |succ i=>exact ih i r (by simpa using hr)
    ·cases h
  |[],_::_,h,_=>by simp[n9] at h
  |_::_,[],h,_=>by simp[n9] at h
@[reducible] def sN (tab : List (Nat × Nat)) (T : List Nat) (m : ML) (rows0 rows : List AV) : Prop := (rows0 = rows ∧ br rows = true) ∨ (xu (MF tab (J5 T) m 12) rows0 rows ∧ n9 rows0 rows = true)
@[reducible] def A6 (tab : List (Nat × Nat)) (T : List Nat) (m : ML) : List MS → List Nat → Prop
  |[],_=>True
  | s::r,t::q=>match s,eD m t with
    |.live wd rows0 false,.live wd' rows false=>(r8 wd wd'=true∧sN tab T m rows0 rows)∧A6 tab T m r q
    |_,_=>False
  |_::_,[]=>False
@[reducible] def BR (m : ML) : List Nat → Bool
  |[]=>true
  | t::r=>match eD m t with
    |.free=>BR m r
    |_=>false
theorem xX {m:ML}:∀ {l:List Nat},BR m l=true→∀t∈l,aR m t=.free
  |[],_,t,h=>by simp at h
  | u ::r,h,t,ht=>by
    simp only[BR] at h
    split at h
    · rename_i hm
      rcases dU.1 ht with rfl|ht
      ·exact dj hm
      ·exact xX h t ht
    ·cases h
@[reducible] def vJ : Nat → List Nat → List Nat
  |_,[]=>[]
  | n,x::r=>match n with
    |0=>x::r
    |n+1=>vJ n r
theorem yu:∀ (n:Nat) (l:List Nat),vJ n l=l.drop n
  |n,[]=>by rw[vJ];simp
  |0,x::r=>by rw[vJ];rfl
  |n+1,x::r=>by simp only[vJ,List.drop_succ_cons];exact yu n r
@[reducible] def uu (names : List Nat) : List MS → List MS → Prop
  |[],[]=>True
  | s::r,s'::r'=>match s,s' with
    |.dead,.dead=>uu names r r'
    |.live wd rows0 false,.live wd' rows false=>(r8 wd' wd=true∧((rows=rows0∧br rows0=true)∨(rows=ef (oD names 12) rows0∧iZ (za 12 (eV names)) rows0=true∧n9 rows rows0=true)))∧uu names r r'
    |_,_=>False
  |_,_=>False
@[reducible] def DP : List Nat → List MS → ML
  |t::r,s::q=>(t,s)::DP r q
  |_,_=>[]
theorem BG:∀ (l:List Nat) (q:List MS),DP l q=l.zip q
  |[],q=>by simp[DP]
  |t::r,[]=>by simp[DP]
  |t::r,s::q=>by simp only[DP,List.zip_cons_cons,BG r q]
@[reducible] def tV : List Nat → Bool
  |[]=>true
  | t::r=>match o6 r t with
    |true=>false
    |false=>tV r
theorem qY:∀ {l:List Nat},tV l=true→l.Nodup
  |[],_=>.nil
  | t ::r,h=>by
    simp only[tV] at h
    split at h
    ·cases h
    · rename_i hm
      refine List.nodup_cons.2 ⟨fun hh=>?_,qY h⟩
      rw[dV.2 hh] at hm;cases hm
@[reducible] def wC (names : List Nat) : List Nat → Bool
  |[]=>true
  | t::r=>match o6 names t with
    |true=>false
    |false=>wC names r
theorem vF {names:List Nat}:∀ {l:List Nat},wC names l=true→∀t∈l,t∉names
  |[],_,t,h=>by simp at h
  | u ::r,h,t,ht=>by
    simp only[wC] at h
    split at h
    ·cases h
    · rename_i hm
      rcases dU.1 ht with rfl|ht
      ·intro hh;rw[dV.2 hh] at hm;cases hm
      ·exact vF h t ht
theorem yO {mm:Nat→MS}{F:Nat→Prop}{names:List Nat}(hn:names.Nodup):∀ (cs:List AV),iZ (za 12 (eV names)) cs=true→gR mm (names.idxOf ·) (· ∈names) F (ef (oD names 12) cs) cs
  |[],_=>.nil
  | c::cs,h=>by
    simp only[iZ] at h
    split at h
    ·rename_i h1;exact .cons (wA hn 12 c h1) (yO hn cs h)
    ·cases h
theorem tQ {mm:Nat→MS}{names:List Nat}(hn:names.Nodup):∀ {outs news:List MS},uu names outs news→news.length=outs.length∧∀ (k:Nat) (s:MS),news[k]? =some s→
    (∃wd rows rows0,s=.live wd rows false∧outs[k]? =some (.live wd rows0 false)∧(bG wd rows0→bG wd rows)∧gR mm (names.idxOf ·) (· ∈names) (fun _=>False) rows rows0)∨(s=.dead∧outs[k]? =some .dead)
  |[],[],_=>⟨rfl,fun k s h=>by simp at h⟩
  |s::r,[],h=>by cases s<;>simp[uu] at h
  |[],_::_,h=>by simp[uu] at h
  | s :: r,s'::r',h=>by
    simp only[uu] at h
    split at h
    · obtain⟨a,b⟩:=tQ hn h
      refine⟨by simp[a],fun k s h=>?_⟩
      cases k with
      |zero=>simp at h;subst h;exact .inr ⟨rfl,rfl⟩
      |succ k=>simpa using b k s (by simpa using h)
    · rename_i wd rows0 wd' rows
      obtain⟨⟨hw,hr⟩,h⟩:=h
      have hw':=beq_eq (by rw[←eo];exact hw)
      subst hw'
      obtain⟨a,b⟩:=tQ hn h
      refine⟨by simp[a],fun k s h=>?_⟩
      cases k with
      | zero=>
        simp at h;subst h
        refine .inl ⟨_,rows,rows0,rfl,rfl,?_⟩
        rcases hr with⟨rfl,h1⟩|⟨h1,h2,h3⟩
        ·exact⟨id,.same h1⟩
        ·exact⟨ot h3,h1▸yO hn rows0 h2⟩
      |succ k=>simpa using b k s (by simpa using h)
    ·exact h.elim
theorem BE {tab:List (Nat×Nat)}{T:List Nat}{m:ML}{D:Nat→Prop}{ρ:Nat→Nat}(hw:∀t wd rows ro,eD m t=.live wd rows ro→t∈T→bG wd rows)(hD:∀t u,oG tab t=some u→D t∧gQ tab t=ρ t):
    ∀ {ins:List MS} {names:List Nat},A6 tab T m ins names→ins.length≤names.length∧∀ (k:Nat) (s:MS) (t:Nat),ins[k]? =some s→names[k]? =some t→
      ∃wd rows rows0,s=.live wd rows0 false∧aR m t=.live wd rows false∧(bG wd rows→bG wd rows0)∧gR (aR m) ρ D (· ∈T) rows0 rows
  |[],names,_=>⟨by simp,fun k s t h=>by simp at h⟩
  |s::r,[],h=>by simp[A6] at h
  | s :: r,t::q,h=>by
    simp only[A6] at h
    split at h
    · rename_i wd rows0 wd' rows hm
      obtain⟨⟨hw1,hr⟩,h⟩:=h
      have hw':=beq_eq (by rw[←eo];exact hw1)
      subst hw'
      obtain⟨a,b⟩:=BE hw hD h
      refine⟨by simpa using a,fun k s t h1 h2=>?_⟩
      cases k with
      | zero=>
        simp at h1 h2;subst h1;subst h2
        refine⟨_,rows,rows0,rfl,dj hm,?_⟩
        rcases hr with⟨rfl,h1⟩|⟨h1,h3⟩
        ·exact⟨id,.same h1⟩
        · refine⟨ot h3,?_⟩
          have:=jE (D:=fun t=> ∃u,oG tab t=some u) (F:=(· ∈T)) (ρ:=gQ tab) (mm:=aR m) (fun r x=>lA (fun t wd rows ro h1 h2=>hw t wd rows ro h1 (dV.1 h2)) (fun t u h=>⟨u,h⟩) (fun t wd rows ro _ h2=>dV.1 h2) 12 r x) h1
          exact⟨this.1,fun q c d e1 e2=>(this.2 q c d e1 e2).Lc fun t ⟨u,hu⟩=>hD t u hu⟩
      |succ k=>exact b k s t (by simpa using h1) (by simpa using h2)
    ·exact h.elim
theorem af.c7 (names T:List Nat)(hf:ak P f ins args' outs res)(hc:aq P f)(ha:xu (MF (r4 (eV ins) 0 names) (J5 T) m 12) args' args)
    (hi:A6 (r4 (eV ins) 0 names) T m ins names) (hT:ve m T=true) (hs:(tV names=true∧wC names T=true)∧BR m (vJ (eV ins) names)=true) (hl:eV outs=eV names)
    (hn:uu names outs news) (hd:kZ N o.dst=true) (hp:za 12 (eV names) res=true)
    (h:R (dR T names) (oD names 12 res) (dR (DP names news) (ef (fun t=>(t,J8 (eD m t))) T)) acc sl m) (hib:Nat.ble (eV ins) j9=true:=by rfl):af P N f args acc sl m (o:=o) (R:=R):=by
  intro hto
  have e:ef (fun t=>(t,J8 (eD m t))) T=T.map fun t=>(t,lJ ((St sl m).mem t)):=by
    rw[eB];apply List.map_congr_left;intro t _;rw[mem_eq];rfl
  rw[e,gT,gT,BG] at h
  rw[c6] at hi ha hib
  rw[c6,yu] at hs
  rw[c6,c6] at hl
  have hnd:=qY hs.1.1
  obtain⟨n1,n2⟩:=tQ (mm:=aG outs) hnd hn
  refine⟨_,_,_,aH.sC fun hsim=>?_,h⟩
  have hwd:∀t wd rows ro,eD m t=.live wd rows ro→t∈T→bG wd rows:=by
    obtain⟨w0,W0,L,μ,a,w,σ2,h1,h2⟩:=hsim
    exact BK (sl:=sl) rfl ⟨w0,W0,L,μ,a,w,σ2,fun t ht=>h1 t (by simp[ht]),h2⟩
  have hD:∀t u,oG (r4 ins.length 0 names) t=some u→t<ins.length∧gQ (r4 ins.length 0 names) t=names.getD t 0:=by
    intro t u hu
    obtain⟨_,b,c⟩:=Ck hu
    simp only[Nat.sub_zero] at b c
    exact⟨b,by simp[gQ,hu,List.getD,c]⟩
  obtain⟨i1,i2⟩:=BE hwd hD hi
  refine aH.c7 (P:=P) (N:=N) (o:=o) (σ:=St sl m) names T hto hc ?_ (fun t ht=>o7 hT t ht) (vF hs.1.2) hnd (fO hib) i1 (by rw[n1,hl]) i2 (fun k t hk ht=>?_) hf n2 (wA hnd 12 res hp) (iw hd)
  · have:=jE (D:=fun t=> ∃u,oG (r4 ins.length 0 names) t=some u) (F:=(· ∈T)) (ρ:=gQ (r4 ins.length 0 names)) (mm:=aR m) (fun r x=>lA (fun t wd rows ro h1 h2=>hwd t wd rows ro h1 (dV.1 h2)) (fun t u h=>⟨u,h⟩) (fun t wd rows ro _ h2=>dV.1 h2) 12 r x) ha
    exact⟨this.1,fun q c d e1 e2=>(this.2 q c d e1 e2).Lc fun t ⟨u,hu⟩=>hD t u hu⟩
  · refine xX hs.2 t (bO (i:=k-ins.length) ?_)
    rw[List.getElem?_drop,show ins.length+ (k-ins.length)=k from by omega]
    exact ht
end
theorem u7.mk {s:ByteArray}{i:Int}{acc:Tk}{sl:SL}{m:ML}{A:Int→Tk→SL→ML→Prop}(k:Nat)(c:UInt8)(h0:i=k)(h1:s.data.toList[k]? =some c)(h:A c.toNat acc sl m):u7 s i acc sl m (A:=A):=⟨k,c,h0,h1,h⟩
theorem EA.mk {s:ByteArray}{l h:Int}{acc:Tk}{sl:SL}{m:ML}{A:ByteArray→Tk→SL→ML→Prop}(a b:Nat)(h0:l=a)(h1:h=b)(h2:a≤b)(h3:b≤s.size)(hh:A (s.extract a b) acc sl m):EA s l h acc sl m (A:=A):=⟨a,b,h0,h1,h2,h3,hh⟩
theorem oh.mk {P:Program}{src dst:TypeId}{v:Value}{acc:Tk}{sl:SL}{m:ML}{A:Value→Tk→SL→ML→Prop}(r:Value)(hr:∀w,(convert src dst v).run P w=.ok r w)(h:A r acc sl m):oh P src dst v acc sl m (A:=A):=⟨r,hr,h⟩
theorem oh.int {P:Program}{src dst:TypeId}{k k':IntKind}{n:Int}{acc:Tk}{sl:SL}{m:ML}{A:Value→Tk→SL→ML→Prop}(hs:(P.underlying src).isSome=true)(hd:P.underlying dst=some (.int k'))(hn:k'.wrap n=n)(h:A (.int k' n) acc sl m):oh P src dst (.int k n) acc sl m (A:=A):=by
  refine⟨_,fun w=>?_,h⟩
  have hk:P.intKind dst=k':=by simp[Program.intKind,hd]
  have:=run_convert_int (P:=P) w src dst k n hs (by rw[hk];exact hd)
  rw[hk,hn] at this
  exact this
theorem oF.mk {P:Program}{src dst:TypeId}{rows:List AV}{off len:Nat}{acc:Tk}{sl:SL}{m:ML}{A:Value→Tk→SL→ML→Prop}(bs:List UInt8){e:TypeId}(h1:P.underlying src=some (.slice e))(h2:P.underlying e=some (.int .u8))(h3:P.underlying dst=some .string)(h4:len=bs.length)(h5:bs≠ [])
    (h6:∀ (i:Nat) (b:UInt8),bs[i]? =some b→(flat rows)[off+i]? =some (.lit (.int .u8 b.toNat))) (h:A (.string ⟨bs.toArray⟩) acc sl m):oF P src dst rows off len acc sl m (A:=A):=⟨bs,e,h1,h2,h3,h4,h5,h6,h⟩
theorem Iq.mk {P:Program}{op:BinOp}{t:TypeId}{us vs:List Value}{acc:Tk}{sl:SL}{m:ML}{A:Bool→Tk→SL→ML→Prop}(b:Bool)(hr:∀ (y z:Operand) (w:World),((do eqGuard op t y z (.agg us.toArray) (.agg vs.toArray);binOp op t (.agg us.toArray) (.agg vs.toArray):Sem Value)).run P w=.ok (.bool b) w)(h:A b acc sl m):Iq P op t us vs acc sl m (A:=A):=⟨b,hr,h⟩
end Go.Am
section
namespace Go.Am
open Go Go.RowKit Go.Lib
variable {P : Program}
theorem wrap_u8 {a:Int}(h:0≤a∧a<256):IntKind.i64.wrap a=a:=IntWalk.i64_in _ (by omega)
theorem aW.rem {N:Nat}{o:Oper}{acc:Tk}{sl:SL}{m:ML}{R:Rest}{ty:TypeId}{κ:IntKind}{x y:Operand}{a b:Int}(ha:0≤a)(hb:0<b)(ho:o.op=.binOp .rem ty x y ty)(h1:eZ sl x=.lit (.int κ a))(h2:eZ sl y=.lit (.int κ b))(hd:kZ N o.dst=true)(h:R [] (.lit (.int κ (a%b))) [] acc sl m):aW P N acc sl m (o:=o) (R:=R):=by
  rw[dG] at h1 h2
  refine⟨[],.lit (.int κ (a%b)),[],?_,h⟩
  refine .val (fun σ2 he2 hrd w0 W0 L μ a' w hs=>⟨.int κ (a%b),?_,.lit⟩) (iw hd)
  have k1:=hs.eval x
  have k2:=hs.eval y
  rw[he2 x (by simp[ho,Op.operands]),fA,h1] at k1
  rw[he2 y (by simp[ho,Op.operands]),fA,h2] at k2
  have hx:=k1.val
  have hy:=k2.val
  have hb0:b≠0:=by omega
  simp only[execOp,ho,hx,hy]
  simp only[eqGuard,binOp,Op.intDiv]
  go_simp
  exact Int.tmod_eq_emod_of_nonneg ha
theorem KH {a:Int}(h:0≤a∧a<256):IntKind.u8.wrap a=a:=by rw[IntKind.wrap_u8];omega
theorem qV {c:Int}{d:UInt8}(h:c=(d.toNat:Int)):∀ (i:Nat) (e:UInt8),[d][i]? =some e→(flat [AV.lit (Value.int IntKind.u8 c)])[0+i]? =some (.lit (.int .u8 e.toNat)):=by
  intro i e hc
  cases i with
  |zero=>cases hc;rw[h];rfl
  |succ i=>simp at hc
theorem aW.min {N:Nat}{o:Oper}{acc:Tk}{sl:SL}{m:ML}{R:Rest}{x y:Operand}{ts:Array TypeId}{κ:IntKind}{a b c:Int}(hc:(if b<a then b else a)=c)(ho:o.op=.call {callee:=.builtin .min,args:= #[x,y],argTypes:=ts})(h1:eZ sl x=.lit (.int κ a))(h2:eZ sl y=.lit (.int κ b))(hd:kZ N o.dst=true)(h:R [] (.lit (.int κ c)) [] acc sl m):aW P N acc sl m (o:=o) (R:=R):=by
  rw[dG] at h1 h2
  refine⟨[],.lit (.int κ c),[],?_,h⟩
  refine .val (fun σ2 he2 hrd w0 W0 L μ a' w hs=>⟨.int κ c,?_,.lit⟩) (iw hd)
  have k1:=hs.eval x
  have k2:=hs.eval y
  rw[he2 x (by simp[ho,Op.operands,Call.operands]),fA,h1] at k1
  rw[he2 y (by simp[ho,Op.operands,Call.operands]),fA,h2] at k2
  have hx:=k1.val
  have hy:=k2.val
  subst hc
  simp[execOp,ho,hx,hy,resolve,invoke,builtin,Builtin.min_,Builtin.min2]
end Go.Am
namespace Go.Am
open Go Go.RowKit Go.Lib
section
variable {P : Program} {N : Nat} {w0 : World} {W0 : Nat → Prop} {L μ : Mu} {σ : az} {a : Act} {w : World}
theorem yN {m:Nat→MS}{tb wd:Nat}{rows rows':List AV}{ro:Bool}(hm:m tb=.live wd rows ro):Wr W0 μ (bk m [(tb,.live wd rows' ro)])=Wr W0 μ m:=by
  have h :iM μ (bk m [(tb,.live wd rows' ro)])=iM μ m:=by
    funext b
    apply propext
    constructor
    · rintro⟨t,B,wd1,rows1,h1,h2⟩
      by_cases ht:t=tb
      · subst ht
        simp[bk] at h1
        obtain⟨rfl,rfl,rfl⟩:=h1
        exact⟨t,B,_,_,hm,h2⟩
      · simp[bk,ht] at h1
        exact⟨t,B,_,_,h1,h2⟩
    · rintro⟨t,B,wd1,rows1,h1,h2⟩
      by_cases ht:t=tb
      · subst ht
        rw[hm] at h1
        cases h1
        exact⟨t,B,wd,rows',by simp[bk],h2⟩
      ·exact⟨t,B,_,_,by simp[bk,ht];exact h1,h2⟩
  unfold Wr
  rw[h]
theorem cB.KZ (h:cB P N w0 W0 L μ σ a w){tb wd:Nat}{rows rows':List AV}{ro:Bool}(hm:σ.mem tb=.live wd rows ro)
    (hob:∀B,μ tb=some B→eY (Wr W0 μ σ.mem) μ w B wd rows ro→eY (Wr W0 μ σ.mem) μ w B wd rows' ro):cB P N w0 W0 L μ ⟨σ.slots,bk σ.mem [(tb,.live wd rows' ro)]⟩ a w where
  tsize:=h.tsize
  defers:=h.defers
  os:=h.os
  tape:=h.tape
  output:=h.output
  hsize:=h.hsize
  shp:=h.shp
  keep:=h.keep
  w0lt:=h.w0lt
  lentμ:=h.lentμ
  free t:=by
    by_cases ht:t=tb
    ·subst ht;have:=h.free t;rw[hm] at this;simpa[bk] using this
    ·simpa[bk,ht] using h.free t
  slots i:=by rw[show(⟨σ.slots,bk σ.mem [(tb,.live wd rows' ro)]⟩:az).mem=bk σ.mem [(tb,.live wd rows' ro)] from rfl,yN hm];exact h.slots i
  objs t wd1 rows1 ro1 h1:=by
    rw[show(⟨σ.slots,bk σ.mem [(tb,.live wd rows' ro)]⟩:az).mem=bk σ.mem [(tb,.live wd rows' ro)] from rfl] at h1 ⊢
    rw[yN hm]
    by_cases ht:t=tb
    · subst ht
      simp[bk] at h1
      obtain⟨rfl,rfl,rfl⟩:=h1
      obtain⟨B,h2,h3⟩:=h.objs t _ _ _ hm
      exact⟨B,h2,hob B h2 h3⟩
    · simp[bk,ht] at h1
      exact h.objs t _ _ _ h1
  inj t t' wd1 rows1 wd2 rows2 ro2 B B' hne h1 h2 h3 h4:=by
    have key:∀u wd1 rows1 ro1,bk σ.mem [(tb,.live wd rows' ro)] u=.live wd1 rows1 ro1→∃wd2 rows2,σ.mem u=.live wd2 rows2 ro1:=by
      intro u wd1 rows1 ro1 hu
      by_cases ht:u=tb
      ·subst ht;simp[bk] at hu;exact⟨_,_,by rw[hm,hu.2.2]⟩
      ·simp[bk,ht] at hu;exact⟨_,_,hu⟩
    obtain⟨_,_,k1⟩:=key t _ _ _ h1
    obtain⟨_,_,k2⟩:=key t' _ _ _ h2
    exact h.inj t t' _ _ _ _ _ B B' hne k1 k2 h3 h4
  out t wd1 rows1 ro1 B h1:=by
    have h1':bk σ.mem [(tb,.live wd rows' ro)] t=.live wd1 rows1 ro1:=h1
    by_cases ht:t=tb
    ·subst ht;simp[bk] at h1';exact h.out t _ _ _ B (by rw[hm,h1'.2.2])
    ·simp[bk,ht] at h1';exact h.out t _ _ _ B h1'
  tabs:=h.tabs
theorem cB.jU (h:cB P N w0 W0 L μ σ a w){d0 tb t wd wdt i i0 k0 j:Nat}{rows:List AV}{r r':AV}{ro:Bool}(hp:σ.slots d0=.ptr tb i0 k0)(hm:σ.mem tb=.live wd rows ro)(hr:rows[i]? =some r)(hj:(cells r)[j]? =some (.lit (.slice none 0 0)))
    (hc:cells r'=(cells r).set j (.own t 0 0)) (ht:σ.mem t=.free):
    cB P N w0 W0 L (bq μ t ⟨0,0,wdt,true,false⟩) ⟨σ.slots,bk (bk σ.mem [(t,.live wdt [] false)]) [(tb,.live wd (rows.set i r') ro)]⟩ a w:=by
  have h1:=h.nE (t:=t) (wd:=wdt) ht
  have hne:tb≠t:=fun e=>by rw[e,ht] at hm;cases hm
  refine h1.KZ (σ:=⟨σ.slots,bk σ.mem [(t,.live wdt [] false)]⟩) (rows:=rows) (by simp[bk,hne];exact hm) fun B hB O=>?_
  have hmp:B.mp=false:=by
    have:=h1.slots d0
    rw[show(⟨σ.slots,bk σ.mem [(t,.live wdt [] false)]⟩:az).slots d0=.ptr tb i0 k0 from hp] at this
    generalize a.tmps.getD d0 undef=v at this
    cases this with
    |ptr a1 ap=>rw[hB] at a1;cases a1;exact ap
  have hlen:(cells r').length=wd:=by rw[hc,List.length_set];exact O.wide i r hr
  exact {
    width:=O.width
    wide:=O.wide.set hlen
    blk:=fun hv hm'=>by rw[List.length_set];exact O.blk hv hm'
    virt:=fun hv=>by rw[O.real hr] at hv;cases hv
    cell :=fun _ q c hq=>by
      obtain⟨i',k,r2,rfl,h2,h3,_⟩:=qo (O.wide.set hlen) hq
      have hil:=(aY hr).1
      by_cases hi:i'=i
      · subst hi
        rw[List.getElem?_set_self hil] at h2
        cases h2
        rw[hc] at h3
        by_cases hk:k=j
        · subst hk
          rw[List.getElem?_set_self (aY hj).1] at h3
          cases h3
          obtain⟨v,e1,e2⟩:=O.cell hmp _ _ (eE O.wide hr hj)
          cases e2
          exact⟨_,e1,.ownNil (B:=⟨0,0,wdt,true,false⟩) (by simp[bq])⟩
        · rw[List.getElem?_set_ne (by omega)] at h3
          exact O.cell hmp _ _ (eE O.wide hr h3)
      · rw[List.getElem?_set_ne (by omega)] at h2
        exact O.cell hmp _ _ (eE O.wide h2 h3)
    vm:=O.vm
    map:=fun hm'=>by rw[hmp] at hm';cases hm'}
end
theorem qq {sl:SL}{m:ML}{t:Nat}{s:MS}:bk (St sl m).mem [(t,s)]=(St sl (jF t s m)).mem:=by
  have h1:bk (St sl m).mem [(t,s)]=aR ([(t,s)]++m):=by
    have:=congrArg az.mem (uA sl m [(t,s)] none .any)
    exact this
  rw[h1]
  funext i
  exact(rq [(t,s)] m i).symm
theorem bX.jU {P:Program}{N nL:Nat}{sl:SL}{m:ML}{c:Code}{Q:Exit→SL→ML→Prop}(d0 tb t wdt i j:Nat)(r r':AV){i0 k0 wd:Nat}{rows:List AV}{ro:Bool}(hp:uI sl d0=.ptr tb i0 k0)(hm:eD m tb=.live wd rows ro)(hr:rows[i]? =some r)(hj:(cells r)[j]? =some (.lit (.slice none 0 0)))
    (hcell:cells r'=(cells r).set j (.own t 0 0)) (ht:eD m t=.free) (hc:bX P N nL sl (jF tb (.live wd (rows.set i r') ro) (jF t (.live wdt [] false) m)) (c:=c) (Q:=Q)):bX P N nL sl m (c:=c) (Q:=Q):=by
  intro rd hrd w0 W0 L μ a w hL hs
  have h1:=hs.jU (d0:=d0) (tb:=tb) (t:=t) (wdt:=wdt) (i:=i) (j:=j) (r:=r) (r':=r') (by show ct sl d0=_;rw[←gS];exact hp) (dj hm) hr hj hcell (dj ht)
  rw[qq,qq] at h1
  exact hc rd hrd w0 W0 L _ a w hL h1
def yw (P:Program){ι:Type}(sl:SL)(m:ML){nL:Nat}{S:ι→SL}{M:ι→ML}{I:ι→Prop}{μ:ι→Nat}{i:ι}:Prop:=∃j,I j∧μ j<μ i∧ik P nL (St sl m) (St (S j) (M j))
theorem yw.mk {P:Program}{ι:Type}{sl:SL}{m:ML}{nL:Nat}{S:ι→SL}{M:ι→ML}{I:ι→Prop}{μ:ι→Nat}{i:ι}(j:ι)(h1:I j)(h2:μ j<μ i)(h3:Fit nL sl m (S j) (M j)):yw P sl m (nL:=nL) (S:=S) (M:=M) (I:=I) (μ:=μ) (i:=i):=⟨j,h1,h2,h3.uJ⟩
theorem ik.jU {P:Program}{nL:Nat}{sl:SL}{m:ML}(d0 tb t wdt i j:Nat)(r r':AV){i0 k0 wd:Nat}{rows:List AV}{ro:Bool}(hp:uI sl d0=.ptr tb i0 k0)(hm:eD m tb=.live wd rows ro)(hr:rows[i]? =some r)(hj:(cells r)[j]? =some (.lit (.slice none 0 0)))
    (hcell:cells r'=(cells r).set j (.own t 0 0)) (ht:eD m t=.free):ik P nL (St sl m) (St sl (jF tb (.live wd (rows.set i r') ro) (jF t (.live wdt [] false) m))):=by
  intro N w0 W0 L μ a w hL hs
  have h1:=hs.jU (d0:=d0) (tb:=tb) (t:=t) (wdt:=wdt) (i:=i) (j:=j) (r:=r) (r':=r') (by show ct sl d0=_;rw[←gS];exact hp) (dj hm) hr hj hcell (dj ht)
  rw[qq,qq] at h1
  exact⟨_,h1⟩
theorem yw.jU {P:Program}{ι:Type}{sl:SL}{m:ML}{nL:Nat}{S:ι→SL}{M:ι→ML}{I:ι→Prop}{μ:ι→Nat}{x:ι}(d0 tb t wdt i j:Nat)(r r':AV){i0 k0 wd:Nat}{rows:List AV}{ro:Bool}(hp:uI sl d0=.ptr tb i0 k0)(hm:eD m tb=.live wd rows ro)(hr:rows[i]? =some r)(hj:(cells r)[j]? =some (.lit (.slice none 0 0)))
    (hcell:cells r'=(cells r).set j (.own t 0 0)) (ht:eD m t=.free) (hc:yw P sl (jF tb (.live wd (rows.set i r') ro) (jF t (.live wdt [] false) m)) (nL:=nL) (S:=S) (M:=M) (I:=I) (μ:=μ) (i:=x)):yw P sl m (nL:=nL) (S:=S) (M:=M) (I:=I) (μ:=μ) (i:=x):=by
  obtain⟨y,h1,h2,h3⟩:=hc
  exact⟨y,h1,h2,(ik.jU d0 tb t wdt i j r r' hp hm hr hj hcell ht).trans h3⟩
end Go.Am
end
namespace Go.Am
open Go Go.RowKit Go.Lib MapKept
section
variable {P : Program} {N : Nat} {o : Oper} {σ : az}
end
section
variable {P : Program} {N : Nat} {o : Oper} {acc : Tk} {sl : SL} {m : ML} {R : Rest}
end
end Go.Am
namespace Go.Am
open Go
@[reducible] def iJ (m' m : ML) : ML → List (Nat × Nat)
  |[]=>[]
  | (k,_)::r=>match uU k with
    | true=>match eD m' k,eD m k with
      |.live _ rows' _,.live _ rows _=>dR (At (eO m' m 6) rows' rows) (iJ m' m r)
      |_,_=>iJ m' m r
    |false=>iJ m' m r
section
variable {P : Program} {Γ : cQ} {sl : SL} {m : ML}
@[reducible] def Kl (nL : Nat) (x : AV) (m : ML) (outs : List MS) (res : AV) : Prop :=
  (lR (gX (bh 0 outs) (cW (dR (eO (bh 0 outs) m 6 res x) (iJ (bh 0 outs) m (gG nL (bh 0 outs)))) (bh 0 outs)))=true∧oo m (cW (dR (eO (bh 0 outs) m 6 res x) (iJ (bh 0 outs) m (gG nL (bh 0 outs)))) (bh 0 outs)) nL=true)∧
    MF (cW (dR (eO (bh 0 outs) m 6 res x) (iJ (bh 0 outs) m (gG nL (bh 0 outs)))) (bh 0 outs)) (jR (cW (dR (eO (bh 0 outs) m 6 res x) (iJ (bh 0 outs) m (gG nL (bh 0 outs)))) (bh 0 outs))) m 12 res x∧
    qn (cW (dR (eO (bh 0 outs) m 6 res x) (iJ (bh 0 outs) m (gG nL (bh 0 outs)))) (bh 0 outs)) (jR (cW (dR (eO (bh 0 outs) m 6 res x) (iJ (bh 0 outs) m (gG nL (bh 0 outs)))) (bh 0 outs))) m (bh 0 outs)
theorem Kl.end {nL:Nat}{x:AV}{outs:List MS}{res:AV}(h:Kl nL x m outs res){N:Nat}{w0:World}{W0:Nat→Prop}{L μ:Mu}{a:Act}{w:World}{v:Value}(hL:∀t,nL≤t→t<j9→L t=none)
    (hs:cB P N w0 W0 L μ (St sl m) a w) (hv:cE (Wr W0 μ (aR m)) μ w x v):∃μ',cB P 0 w0 W0 L μ' (bare outs) iH w∧cE (Wr W0 μ' (aG outs)) μ' w res v:=by
  obtain⟨⟨h1,h2⟩,h3,h4⟩:=h
  generalize ht:cW (dR (eO (bh 0 outs) m 6 res x) (iJ (bh 0 outs) m (gG nL (bh 0 outs)))) (bh 0 outs)=tab at h1 h2 h3 h4
  have hk:∀i u,(i,u)∈tab→i∈ (bh 0 outs).map (·.1):=fun i u h=>by rw[←ht] at h;exact gy h
  have hD:∀t u,oG tab t=some u→aR (bh 0 outs) t≠ .free:=by
    intro t u ht e
    rcases gi h4 t with⟨_,b⟩|⟨b,_⟩
    ·exact b (hk _ _ (iF ht))
    ·rw[e] at b;exact b
  have hw:=qn.qZ hs h1 h2 hk (fun t h=>h) h4 (fun _=>.any) (fun i=>.any)
  have hcv:=lA (fun t wd rows ro h _=>tf hs t wd rows ro h) hD (F:=fun t=>(∃wd rows ro,eD m t=.live wd rows ro)∧jR tab t=true) (fun t wd rows ro h1 h2=>⟨⟨wd,rows,ro,h1⟩,h2⟩) 12 _ _ h3
  obtain⟨μ',hs',hrep⟩:=hw.Gk hL hs (N':=0) (a':=iH) (.inr ⟨fun _=>rfl,rfl,rfl⟩)
  have e:aR (bh 0 outs)=aG outs:=by rw[k7,eG]
  rw[e] at hs' hrep hcv
  exact⟨μ',hs',hrep _ _ _ hcv hv⟩
end
section
variable {P : Program} {N : Nat} {w0 : World} {W0 : Nat → Prop} {L μ : Mu} {σ : az} {a : Act} {w : World}
end
mutual
/-- Its references are to objects with names below r. -/
def nk (r:Nat):AV→Bool
  |.any=>true
  |.emp=>true
  |.guess _ _=>true
  |.lit _=>true
  |.sl _ _=>true
  |.own t _ _=>Nat.ble (t+1) r
  |.ptr t _ _=>Nat.ble (t+1) r
  |.fptr _ _=>true
  |.mapr t=>Nat.ble (t+1) r
  |.fmap _=>true
  |.agg cs=>kN r cs
  |.tup cs=>kN r cs
  |.clo _ a b=>kN r a&&kN r b
def kN (r:Nat):List AV→Bool
  |[]=>true
  |x::xs=>nk r x&&kN r xs
end
mutual
theorem kE (r:Nat):∀x:AV,bz x=true→nk r x=true
  |.any,_=>rfl
  |.emp,_=>rfl
  |.guess _ _,_=>rfl
  |.lit _,_=>rfl
  |.sl _ _,_=>rfl
  |.own _ _ _,h=>by simp[bz] at h
  |.ptr _ _ _,h=>by simp[bz] at h
  |.fptr _ _,_=>rfl
  |.mapr _,h=>by simp[bz] at h
  |.fmap _,_=>rfl
  |.agg cs,h=>by simp only[bz] at h;simp only[nk];exact ic r cs h
  |.tup cs,h=>by simp only[bz] at h;simp only[nk];exact ic r cs h
  | .clo f a b,h=>by
    simp only[bz,bN] at h
    simp only[nk,bN]
    exact⟨ic r a h.1,ic r b h.2⟩
theorem ic (r:Nat):∀xs:List AV,br xs=true→kN r xs=true
  |[],_=>rfl
  | x::xs,h=>by
    simp only[br,bN] at h
    simp only[kN,bN]
    exact⟨kE r x h.1,ic r xs h.2⟩
end
theorem j4 {r:Nat}:∀ {xs:List AV},kN r xs=true→∀ {j:Nat} {c:AV},xs[j]? =some c→nk r c=true
  |[],_,j,c,h=>by simp at h
  | x::xs,hx,0,c,h=>by
    simp only[kN,bN] at hx
    simp at h;subst h;exact hx.1
  | x::xs,hx,j+1,c,h=>by
    simp only[kN,bN] at hx
    exact j4 hx.2 (by simpa using h)
structure BA (r:Nat) (W:Nat→Prop) (μ:Mu) (w:World) (W':Nat→Prop) (μ':Mu) (w':World):Prop where
  size:w.heap.size≤w'.heap.size
  blk:∀b,¬W b→b<w.heap.size→w'.heap[b]? =w.heap[b]?
  shape:∀b e n,w.shape? b=some (e,n)→w'.shape? b=some (e,n)
  wr:∀b,b<w.heap.size→W' b→W b
  mu:∀t B,t<r→μ t=some B→μ' t=some B
theorem BA.cell {r:Nat}{W W':Nat→Prop}{μ μ':Mu}{w w':World}(h:BA r W μ w W' μ' w'){b q:Nat}(hb:¬W b)(hl:b<w.heap.size):w'.cell? ⟨b,q,none⟩=w.cell? ⟨b,q,none⟩:=
  World.cell?_of_block (h.blk b hb hl)
theorem cE.Iv {r:Nat}{W W':Nat→Prop}{μ μ':Mu}{w w':World}(g:BA r W μ w W' μ' w'){x:AV}{v:Value}(h:cE W μ w x v):nk r x=true→cE W' μ' w' x v:=by
  induction h with
  |any=>intro _;exact .any
  |lit=>intro _;exact .lit
  |guess h1 h2=>intro _;exact .guess h1 h2
  |emp=>intro _;exact .emp
  |slNil=>intro _;exact .slNil
  | sl hW hb hn hc hwd hcell _ hnr ih=>
    intro _
    exact .sl (fun h=>hW (g.wr _ hb h)) (jT hb g.size) hn hc hwd (fun q c hq=>by rw[g.cell hW hb];exact hcell q c hq) (fun q c hq=>ih q c hq (kE r c (hnr c (bO hq)))) hnr
  |own hm hv hp hl hs ho=>intro hx;exact .own (g.mu _ _ (Nat.le_of_ble_eq_true hx) hm) hv hp hl (g.shape _ _ _ hs) ho
  |ownNil hm=>intro hx;exact .ownNil (g.mu _ _ (Nat.le_of_ble_eq_true hx) hm)
  |ptr hm hp=>intro hx;exact .ptr (g.mu _ _ (Nat.le_of_ble_eq_true hx) hm) hp
  |mapr hm hp=>intro hx;exact .mapr (g.mu _ _ (Nat.le_of_ble_eq_true hx) hm) hp
  | fmap hW hb h1 h2 h3 h4 h5 _ hn ih=>
    intro _
    refine .fmap (fun h=>hW (g.wr _ hb h)) (jT hb g.size) (by rw[g.blk _ hW hb];exact h1) h2 h3 h4 h5 (fun i key x hi=>ih i key x hi ?_) hn
    have:=hn _ (bO hi)
    simp only[entry,Go.Am.bz,Go.Am.br,Bool.and_true,Bool.true_and] at this
    exact kE r x this
  | fptr hW hb hcell _ hnr ih=>
    intro _
    exact .fptr (fun h=>hW (g.wr _ hb h)) (jT hb g.size) (fun q c hq=>by rw[g.cell hW hb];exact hcell q c hq) (fun q c hq=>ih q c hq (kE r c (hnr c (bO hq)))) hnr
  |agg hl _ ih=>intro hx;exact .agg hl (fun j c v h1 h2=>ih j c v h1 h2 (j4 hx h1))
  |tup hl _ ih=>intro hx;exact .tup hl (fun j c v h1 h2=>ih j c v h1 h2 (j4 hx h1))
  | clo h1 h2 _ _ ih1 ih2=>
    intro hx
    simp only[nk,bN] at hx
    exact .clo h1 h2 (fun j c v a b=>ih1 j c v a b (j4 hx.1 a)) (fun j c v a b=>ih2 j c v a b (j4 hx.2 a))
noncomputable def n4 (r:Nat) (μ:Mu) (m:Nat→MS):Mu:=fun t=>
  if t<r then μ t else if j9≤t then(match m (t-j9) with
    |.live _ _ false=>μ (t-j9)
    |_=>none) else none
section
variable {P : Program} {N : Nat} {w0 : World} {W0 : Nat → Prop} {L μ : Mu} {σ : az} {a : Act} {w : World} {r : Nat}
theorem Cr (hr:r≤j9){b:Nat}(h:iM μ σ.mem b):so (n4 r μ σ.mem) b:=by
  obtain⟨t,B,wd,rows,h1,h2,h3,h4⟩:=h
  refine⟨j9+t,B,?_,h3,h4⟩
  unfold n4
  rw[if_neg (by omega),if_pos (by omega),show j9+t-j9=t by omega,h1]
  exact h2
theorem nD (hlive:∀t,t<r→∃wd rows,σ.mem t=.live wd rows false){b:Nat}(h:so (n4 r μ σ.mem) b):iM μ σ.mem b:=by
  obtain⟨t,B,h1,h2,h3⟩:=h
  unfold n4 at h1
  split at h1
  · rename_i ht
    obtain⟨wd,rows,hm⟩:=hlive t ht
    exact⟨t,B,wd,rows,hm,h1,h2,h3⟩
  · split at h1
    · split at h1
      · rename_i wd rows hm
        exact⟨_,B,wd,rows,hm,h1,h2,h3⟩
      ·cases h1
    ·cases h1
theorem cB.F6 (h:cB P N w0 W0 L μ σ a w)(hr:r≤j9)(hlive:∀t,t<r→∃wd rows,σ.mem t=.live wd rows false){sl:Nat→AV}{a':Act}(ha:a'.tmps.size=N)(hd:a'.defers=[])
    (hsl:∀i,cE (Wr W0 μ σ.mem) μ w (sl i) (a'.tmps.getD i undef)):cB P N {w with drawn:=1} W0 (n4 r μ σ.mem) μ ⟨sl,σ.mem⟩ a' w where
  tabs :=by
    have:=h.qm (L':=n4 r μ σ.mem) (fun b hb=>by
      obtain⟨t,B,wd,rows,h1,h2,rfl,h4⟩:=nD (σ:=σ) hlive hb
      exact(h.out t wd rows false B h1 h2 h4).2 rfl)
    exact this
  tsize:=ha
  defers:=by rw[hd];exact .nil
  os:=rfl
  tape:=rfl
  output:=rfl
  hsize:=Nat.le_refl _
  shp _ _ _ hb:=hb
  keep _ _ _:=rfl
  w0lt b hb:=jT (h.w0lt b hb) h.hsize
  lentμ t B hb hB:=by
    unfold n4 at hB
    split at hB
    ·exact hB
    ·rw[if_neg (by omega)] at hB;cases hB
  free:=h.free
  slots:=hsl
  objs:=h.objs
  inj:=h.inj
  out t wd rows ro B h1 h2 h3:=⟨(h.out t wd rows ro B h1 h2 h3).1,fun hro=>.inr (Cr hr ⟨t,B,wd,rows,by rw[←hro];exact h1,h2,rfl,h3⟩)⟩
structure K4 (P:Program) (N:Nat) (r:Nat) (w0:World) (W0:Nat→Prop) (L μ:Mu) (σ:az) (w:World) (μ':Mu) (σ':az) (w':World):Prop where
  keep:∀b,b<w.heap.size→¬iM μ σ.mem b→w'.heap[b]? =w.heap[b]?
  grow:BA r (Wr W0 μ σ.mem) μ w (Wr W0 μ' σ'.mem) μ' w'
  Gk:∀ (sl:Nat→AV) (a':Act),a'.tmps.size=N→Marks w0 a'.defers w'→(∀i,cE (Wr W0 μ' σ'.mem) μ' w' (sl i) (a'.tmps.getD i undef))→cB P N w0 W0 L μ' ⟨sl,σ'.mem⟩ a' w'
theorem cB.yI (h:cB P N w0 W0 L μ σ a w)(hL:∀t,r≤t→L t=none)(hr:r≤j9)(hlive:∀t,t<r→∃wd rows,σ.mem t=.live wd rows false){N':Nat}{μ':Mu}{σ':az}{a':Act}{w':World}
    (k:cB P N' {w with drawn:=1} W0 (n4 r μ σ.mem) μ' σ' a' w'):K4 P N r w0 W0 L μ σ w μ' σ' w':=by
  have mineLent:∀b,iM μ σ.mem b→w0.heap.size≤b∨so L b:=by
    rintro b ⟨t,B,wd,rows,h1,h2,rfl,h4⟩
    exact(h.out t wd rows false B h1 h2 h4).2 rfl
  have keep:∀b,b<w.heap.size→¬iM μ σ.mem b→w'.heap[b]? =w.heap[b]? :=fun b hb hm=>k.keep b hb fun hl=>hm (nD hlive hl)
  have wr:∀b,b<w.heap.size→Wr W0 μ' σ'.mem b→Wr W0 μ σ.mem b:=by
    rintro b hb (hw|⟨t,B,wd,rows,h1,h2,rfl,h4⟩)
    ·exact .inl hw
    · rcases(k.out t wd rows false B h1 h2 h4).2 rfl with hh|hh
      · have:w.heap.size≤B.b:=hh
        omega
      ·exact .inr (nD hlive hh)
  have mu:∀t B,t<r→μ t=some B→μ' t=some B:=fun t B ht hB=>k.lentμ t B (by omega) (by unfold n4;rw[if_pos ht];exact hB)
  refine⟨keep,⟨k.hsize,fun b hb hl=>keep b hl fun hm=>hb (.inr hm),k.shp,wr,mu⟩,fun sl a2 hN hd hsl=>?_⟩
  exact {
    tabs:=h.tabs
    tsize:=hN
    defers:=hd
    os:=k.os.trans h.os
    tape:=k.tape.trans h.tape
    output:=k.output.trans h.output
    hsize:=Nat.le_trans h.hsize k.hsize
    shp:=fun b e n hb=>k.shp b e n (h.shp b e n hb)
    keep :=fun b hb hl=>by
      rw[keep b (jT hb h.hsize) ?_]
      ·exact h.keep b hb hl
      · intro hm
        rcases mineLent b hm with hh|hh
        ·omega
        ·exact hl hh
    w0lt:=h.w0lt
    lentμ:=fun t B hb hB=>mu t B (by
      rcases Nat.lt_or_ge t r with ht|ht
      ·exact ht
      ·rw[hL t ht] at hB;cases hB) (h.lentμ t B hb hB)
    free:=k.free
    slots:=hsl
    objs:=k.objs
    inj:=k.inj
    out:=fun t wd rows ro B h1 h2 h3=>⟨(k.out t wd rows ro B h1 h2 h3).1,fun hro=>by
      rcases(k.out t wd rows ro B h1 h2 h3).2 hro with hh|hh
      ·exact .inl (Nat.le_trans h.hsize hh)
      ·exact mineLent _ (nD hlive hh)⟩}
end
def FB (Wn:Nat→Prop)(w:World)(Wn':Nat→Prop)(w':World):Prop:=
  w.heap.size≤w'.heap.size∧(∀b,b<w.heap.size→¬Wn b→w'.heap[b]? =w.heap[b]?)∧∀b,b<w.heap.size→Wn' b→Wn b
def Jk (P:Program)(g:FuncId)(caps:List AV)(n:Nat)(enc:Nat→List AV):Prop:=
  ∀ (vals:List Value) (l:Nat) (J:Nat→(Nat→Prop)→World→Prop) (Jx:World→Prop),
    (∀k Wn W,J k Wn W→(∃μ,cH Wn μ W caps vals)∧kg P W fun _=>none)→(∀k Wn W W',J k Wn W→kL W W'→J k Wn W')→(∀W W',Jx W→kL W W'→Jx W')→(∀k Wn W,J k Wn W→∀b,Wn b→b<W.heap.size)→
    (∀ k Wn W vs,k<n→J k Wn W→(∀Wn' μ,cH Wn' μ W caps vals→cH Wn' μ W (enc k) vs)→
      YieldAt Fence.wide 0 P l vs.toArray W fun e W'=>(e=.returned (.bool true)∧∃Wn',J (k+1) Wn' W'∧FB Wn W Wn' W')∨(e=.returned (.bool false)∧Jx W'))→
    ∀Wn w,J 0 Wn w→Calls P g ((.func (.yield l) #[] #[])::vals).toArray w fun e w'=>(∃v,e=.returned v)∧((∃Wn',J n Wn' w')∨Jx w')
def D2 (P:Program)(r:Nat)(S:SL)(m':ML)(Q:Exit→az→Prop)(e:Exit)(σ:az):Prop:=
  match e with
  |.normal=>ik P r σ (St S m')
  |.ret=> ∃m,ik P r σ (St S m)∧Q .ret (St S m)
  |.exit id=> ∃m,ik P r σ (St S m)∧Q (.exit id) (St S m)
  |_=>False
def xZ:List Tmp→List AV→SL→SL
  |p::ps,x::xs,sl=>(p,x)::xZ ps xs sl
  |_,_,sl=>sl
theorem u5:∀ (ps:List Tmp) (xs:List AV) (sl:SL) (i:Nat),ps.length=xs.length→ps.Nodup→ct (xZ ps xs sl) i=match ps.idxOf? i with
    |some j=>xs.getD j .any
    |none=>ct sl i
  |[],[],sl,i,_,_=>rfl
  | p ::ps,x::xs,sl,i,hl,hd=>by
    simp only[xZ,ct,List.idxOf?_cons]
    by_cases h:i=p
    ·subst h;simp
    · have h1:(i==p)=false:=by simpa using h
      have h2:(p==i)=false:=by simpa using Ne.symm h
      rw[h1,h2]
      have ih:=u5 ps xs sl i (by simpa using hl) (List.nodup_cons.1 hd).2
      simp only[Bool.false_eq_true,if_false]
      rw[ih]
      cases ps.idxOf? i<;>simp
  |p::ps,[],sl,i,hl,_=>by simp at hl
  |[],x::xs,sl,i,hl,_=>by simp at hl
theorem vN:∀ (ps:List Tmp) (vs:List Value) (t:Array Value),ps.length=vs.length→ps.Nodup→(∀p∈ps,p<t.size)→
    (∀ i,((ps.zip vs).foldl (fun t (x:Tmp×Value)=>t.setIfInBounds x.1 x.2) t).getD i undef=match ps.idxOf? i with
      |some j=>vs.getD j undef
      |none=>t.getD i undef)∧((ps.zip vs).foldl (fun t (x:Tmp×Value)=>t.setIfInBounds x.1 x.2) t).size=t.size
  |[],[],t,_,_,_=>⟨fun i=>rfl,rfl⟩
  | p :: ps,v::vs,t,hl,hd,hp=>by
    obtain⟨h1,h2⟩:=vN ps vs (t.setIfInBounds p v) (by simpa using hl) (List.nodup_cons.1 hd).2 (fun q hq=>by simpa using hp q (by simp[hq]))
    simp only[List.zip_cons_cons,List.foldl_cons]
    refine⟨fun i=>?_,by rw[h2];simp⟩
    rw[h1 i]
    simp only[List.idxOf?_cons]
    by_cases h:p=i
    · subst h
      have hn:ps.idxOf? p=none:=by
        rw[List.idxOf?_eq_none_iff];exact(List.nodup_cons.1 hd).1
      rw[hn]
      have hlt:=hp p (by simp)
      simp[hlt]
    · have h2:(p==i)=false:=by simpa using h
      rw[h2]
      simp only[Bool.false_eq_true,if_false]
      cases ps.idxOf? i with
      |none=>simp[Array.getElem?_setIfInBounds_ne h]
      |some j=>simp
  |p::ps,[],t,hl,_,_=>by simp at hl
  |[],v::vs,t,hl,_,_=>by simp at hl
theorem yH {W:Nat→Prop}{μ:Mu}{w:World}{g:FuncId}{caps:List AV}{A B:Array Value}(h:cE W μ w (.clo (.func g) [] caps) (.func (.func g) A B)):A= #[]∧cH W μ w caps B.toList:=by
  generalize hv:Value.func (.func g) A B=v at h
  cases h with
  | @clo _ _ _ va vb h1 h2 h3 h4=>
    cases hv
    have e:va=[]:=List.eq_nil_of_length_eq_zero (by simpa using h1)
    exact⟨by rw[e],by show cH W μ w caps vb;exact⟨h2,h4⟩⟩
theorem xN {W:Nat→Prop}{μ:Mu}{w:World}{g:FuncId}{caps:List AV}{v:Value}(h:cE W μ w (.clo (.func g) [] caps) v):∃vals:List Value,v=.func (.func g) #[] vals.toArray:=by
  cases h with
  | @clo _ _ _ va vb h1 h2 h3 h4=>
    have e:va=[]:=List.eq_nil_of_length_eq_zero (by simpa using h1)
    exact⟨vb,by rw[e]⟩
theorem cB.L0 {P:Program}{N:Nat}{w0:World}{W0:Nat→Prop}{L μ:Mu}{σ:az}{a:Act}{w:World}(h:cB P N w0 W0 L μ σ a w){b:Nat}(hb:Wr W0 μ σ.mem b):b<w.heap.size:=by
  rcases hb with hb|⟨t,B,wd,rows,m1,m2,rfl,hv⟩
  ·exact jT (h.w0lt b hb) h.hsize
  · obtain⟨B',hB',hobj⟩:=h.objs t wd rows false m1
    rw[m2] at hB';cases hB'
    cases hmp:B.mp with
    |false=>obtain⟨C,e,fz,h3,_⟩:=hobj.blk hv hmp;exact(Array.getElem?_eq_some_iff.1 h3).1
    |true=>obtain⟨es,clock,h3,_⟩:=hobj.map hmp;exact(Array.getElem?_eq_some_iff.1 h3).1
set_option maxHeartbeats 2000000 in
/-- **A loop over a function.** S: what the frame's slots hold, in each round; M k: the objects when k rounds are over; those with names below r keep their names. -/
theorem ga.range {P:Program}{N nL:Nat}{σ:az}{Q:Exit→az→Prop}{f:Operand}{ps:Array Tmp}{assign body:Code}{g:FuncId}{caps:List AV}{n:Nat}{enc:Nat→List AV}
    (r:Nat) (S:SL) (M:Nat→ML) (hit:Jk P g caps n enc) (hg:aq P g) (h0:ik P nL σ (St S (M 0))) (hf:(St S (M 0)).eval f=.clo (.func g) [] caps)
    (hnL:nL≤r) (hr:r≤j9) (hlive:∀k,k≤n→∀t,t<r→∃wd rows,aR (M k) t=.live wd rows false) (hS:∀i,nk r (ct S i)=true)
    (henc:∀k,k<n→(enc k).length=ps.size) (hnd:ps.toList.Nodup) (hlt:∀p∈ps.toList,p<N) (hpa:dz assign=true) (hpb:dz body=true)
    (hround:∀k,k<n→ga P N r assign (fun e σ'=>e=.normal∧(∀t,t<r→∃wd rows,σ'.mem t=.live wd rows false)∧ga P N r body (D2 P r S (M (k+1)) Q) σ') (St (xZ ps.toList (enc k) S) (M k)))
    (hdone:Q .normal (St S (M n))):ga P N nL (.rangeFunc f ps assign body) Q σ:=by
  intro rd hp w0 W0 L μ a w hL hs
  have hrd:rd=none:=hp.resolve_right (by simp[dz])
  subst hrd
  obtain⟨μ0,hs0⟩:=h0 N w0 W0 L μ a w (fun t h1 h2=>hL.1 t h1 (.inl h2)) hs
  have hLr:∀t,r≤t→L t=none:=fun t h=>hL.1 t (Nat.le_trans hnL h) (.inr rfl)
  have hdr:=hL.2 rfl
  have hfk:∀m,(St S m).eval f=.clo (.func g) [] caps:=fun m=>hf
  obtain⟨vals,hval⟩:=xN (by have:=hs0.eval f;rw[hfk] at this;exact this)
  refine wpIn_rangeFunc (F:=j3 none) ?_
  intro fn _
  obtain⟨rec,hrec⟩:∃rec:LoopState→Option Code→Loop,rec=fun st pe=>{state:=st,pending:=pe,fn,tmps:=a.tmps,params:=ps,assign,body,defers:=w.heap.size}:=⟨_,rfl⟩
  obtain⟨W1,hW1⟩:∃W1,(w.alloc (.deferred (some []))).alloc (.loop (rec .ready none))=W1:=⟨_,rfl⟩
  have hmore:kL w W1:=by rw[←hW1];exact(kL.alloc _).trans (kL.alloc _)
  have hl1:W1.heap[w.heap.size+1]? =some (.loop (rec .ready none)):=by
    rw[←hW1];have:=World.alloc_heap_new (w.alloc (.deferred (some []))) (.loop (rec .ready none));rwa [World.size_alloc] at this
  have hD1:W1.heap[w.heap.size]? =some (.deferred (some [])):=by
    rw[←hW1,(kL.alloc (w:=w.alloc (.deferred (some []))) (.loop (rec .ready none))).blk _ (by simp)]
    exact World.alloc_heap_new w _
  have hDge:w0.heap.size≤w.heap.size:=hs0.hsize
  let J:Nat→(Nat→Prop)→World→Prop:=fun k Wn W=> ∃μk,cB P N w0 W0 L μk (St S (M k)) a W∧Wn=Wr W0 μk (aR (M k))∧W.heap[w.heap.size+1]? =some (.loop (rec .ready none))∧W.heap[w.heap.size]? =some (.deferred (some []))∧k≤n
  let Jx:World→Prop:=fun W=> ∃c e m μk,cB P N w0 W0 L μk (St S m) a W∧W.heap[w.heap.size+1]? =some (.loop (rec .done (some c)))∧W.heap[w.heap.size]? =some (.deferred (some []))∧(c=.ret∧e=.ret∨∃id,c=.exit id∧e=.exit id)∧Q e (St S m)
  have hcaps:∀k Wn W,J k Wn W→(∃μ,cH Wn μ W caps vals)∧kg P W fun _=>none:=by
    rintro k Wn W ⟨μk,h1,rfl,_⟩
    have h2:=h1.eval f
    rw[hfk,hval] at h2
    have h3:cH (Wr W0 μk (St S (M k)).mem) μk W caps vals:=by simpa using(yH h2).2
    exact⟨⟨μk,h3⟩,h1.qm fun b h=>by obtain⟨_,_,h,_⟩:=h;cases h⟩
  have hbk:∀ {W W':World} {b:Nat} {o:Obj},kL W W'→W.heap[b]? =some o→W'.heap[b]? =some o:=fun m h=>by rw[m.blk _ (Array.getElem?_eq_some_iff.1 h).1];exact h
  have key:=hit vals (w.heap.size+1) J Jx hcaps
    (by rintro k Wn W W' ⟨μk,h1,h2,h3,h4,h5⟩ m;exact⟨μk,h1.more m,h2,hbk m h3,hbk m h4,h5⟩)
    (by rintro W W' ⟨c,e,m',μk,h1,h2,h3,h4⟩ m;exact⟨c,e,m',μk,h1.more m,hbk m h2,hbk m h3,h4⟩)
    (by rintro k Wn W ⟨μk,h1,rfl,_⟩ b hb;exact h1.L0 hb)
    ?round _ W1 ⟨μ0,hs0.more hmore,rfl,hl1,hD1,Nat.zero_le _⟩
  case round =>
    rintro k Wn W vs hk ⟨μk,hsk,rfl,hl,hD,hkn⟩ hvs
    have hrep:cH (Wr W0 μk (aR (M k))) μk W (enc k) vs:=by
      refine hvs _ _ ?_
      have h2:=hsk.eval f
      rw[hfk,hval] at h2
      have h3:cH (Wr W0 μk (St S (M k)).mem) μk W caps vals:=by simpa using(yH h2).2
      exact h3
    have hvl:vs.length=ps.toList.length:=by rw[hrep.1,henc k hk];simp
    obtain⟨hget,hsz⟩:=vN ps.toList vs a.tmps hvl.symm hnd (fun p hp=>by rw[hsk.tsize];exact hlt p hp)
    have hfold:(ps.zip vs.toArray).foldl (fun tmps (t,a)=>tmps.setIfInBounds t a) a.tmps=(ps.toList.zip vs).foldl (fun t (x:Tmp×Value)=>t.setIfInBounds x.1 x.2) a.tmps:=by
      rw[←Array.foldl_toList];simp
    have hlk:∀t,t<r→∃wd rows,(St S (M k)).mem t=.live wd rows false:=hlive k hkn
    have hreb:=hsk.F6 (sl:=(St (xZ ps.toList (enc k) S) (M k)).slots) (a':={tmps:=(ps.toList.zip vs).foldl (fun t (x:Tmp×Value)=>t.setIfInBounds x.1 x.2) a.tmps,defers:=[]}) hr hlk
      (by rw [hsz];exact hsk.tsize) rfl (fun i=>by
        show cE _ _ _ (ct (xZ ps.toList (enc k) S) i) _
        rw[u5 _ _ _ _ (by rw[←hvl,hrep.1]) hnd,hget i]
        cases hj:ps.toList.idxOf? i with
        |none=>exact hsk.slots i
        | some j=>
          simp only
          rcases Nat.lt_or_ge j (enc k).length with h|h
          · rw[List.getD_eq_getElem?_getD,bD h,List.getD_eq_getElem?_getD,bD (by rw[hrep.1];exact h)]
            exact hrep.2 j _ _ (bD h) (bD _)
          ·rw[List.getD_eq_getElem?_getD,mD h];exact .any)
    have hargs:vs.toArray.size=(rec .ready none).params.size:=by rw[hrec];simpa using hvl
    have hy:=run_yield (P:=P) (args:=vs.toArray) hl hargs
    rw[hrec] at hy
    simp only at hy
    rw[hfold] at hy
    refine⟨fn,_,assign,body,hy,roundIn_of_wpIn trivial ?_⟩
    have hrebL:∀t,r≤t→(t<j9∨(some (w.heap.size+1):Option Nat)=none)→n4 r μk (aR (M k)) t=none:=fun t h1 h2=>by
      unfold n4
      rcases h2 with h2|h2
      ·rw[if_neg (by omega),if_neg (by omega)]
      ·cases h2
    have ha:=hround k hk (some (w.heap.size+1)) (.inr hpa) {W with drawn:=1} W0 (n4 r μk (aR (M k))) μk _ W ⟨hrebL,fun h=>by cases h⟩ hreb
    refine wpIn_mono (F:=j3 (some (w.heap.size+1))) ha ?_
    rintro e a1 Wa ⟨μ1,σ1,⟨rfl,hlive1,hb⟩,hs1⟩
    have U1:=hsk.yI hLr hr hlk hs1
    have hd1:a1.defers=[]:=hs1.defers.1 (Nat.succ_ne_zero 0)
    have notMine:∀ {b:Nat} {o:Obj} {μ':Mu} {σ':az} {a':Act} {W':World},cB P N w0 W0 L μ' σ' a' W'→W'.heap[b]? =some o→xY o=true→¬iM μ' σ'.mem b:=by
      rintro b o μ' σ' a' W' hs' ho hbo ⟨t,B,wd,rows,m1,m2,rfl,hv⟩
      obtain⟨B',hB',hobj⟩:=hs'.objs t wd rows false m1
      rw[m2] at hB';cases hB'
      cases hmp:B.mp with
      |false=>obtain⟨C,e,fz,h3,_⟩:=hobj.blk hv hmp;rw[ho] at h3;cases h3;cases hbo
      |true=>obtain⟨es,clock,h3,_⟩:=hobj.map hmp;rw[ho] at h3;cases h3;cases hbo
    have ltOf:∀ {b:Nat} {o:Obj} {W':World},W'.heap[b]? =some o→b<W'.heap.size:=fun h=>(Array.getElem?_eq_some_iff.1 h).1
    have hla:Wa.heap[w.heap.size+1]? =some (.loop (rec .ready none)):=by rw[U1.keep _ (ltOf hl) (notMine hsk hl rfl)];exact hl
    have hDa:Wa.heap[w.heap.size]? =some (.deferred (some [])):=by rw[U1.keep _ (ltOf hD) (notMine hsk hD rfl)];exact hD
    -- what the frame itself holds
    have out1:∀i,cE (Wr W0 μ1 σ1.mem) μ1 Wa (ct S i) (a.tmps.getD i undef):=fun i=>(hsk.slots i).Iv U1.grow (hS i)
    have mk1:Marks w0 a.defers Wa:=hsk.defers.keep fun E _ h2=>by rw[U1.keep E (ltOf h2) (notMine hsk h2 rfl)];exact h2
    have sa:cB P N w0 W0 L μ1 ⟨ct S,σ1.mem⟩ a Wa:=U1.Gk _ a hsk.tsize mk1 out1
    -- the round is on
    have tb:ej (w.heap.size+1) Wa (Wa.putObj (w.heap.size+1) (.loop {rec .ready none with state:=.busy})):=ej.put hla rfl
    obtain⟨Wb,hWb⟩:∃Wb,Wa.putObj (w.heap.size+1) (.loop {rec .ready none with state:=.busy})=Wb:=⟨_,rfl⟩
    rw[hWb] at tb
    have hlb:Wb.heap[w.heap.size+1]? =some (.loop {rec .ready none with state:=.busy}):=by rw[←hWb];exact World.putObj_heap_same (ltOf hla)
    have hDb:Wb.heap[w.heap.size]? =some (.deferred (some [])):=by rw[tb.blk _ (by omega)];exact hDa
    refine⟨Wb,by rw[←hWb];exact run_beginRound hla (by rw[hrec]),?_⟩
    have mkb:Marks w0 a.defers Wb:=mk1.keep fun E h1 h2=>by
      rw[tb.blk E (fun e=>by rw[e,hla] at h2;cases h2)];exact h2
    have sb:cB P N w0 W0 L μ1 ⟨ct S,σ1.mem⟩ a Wb:=sa.r7 tb (by omega) mkb
    have slot1:∀i,cE (Wr W0 μ1 σ1.mem) μ1 Wb (σ1.slots i) (a1.tmps.getD i undef):=fun i=>(hs1.slots i).r7 tb
    have hrb:=sb.F6 (sl:=σ1.slots) (a':=a1) hr hlive1 hs1.tsize hd1 slot1
    have hrebL1:∀t,r≤t→(t<j9∨(some (w.heap.size+1):Option Nat)=none)→n4 r μ1 σ1.mem t=none:=fun t h1 h2=>by
      unfold n4
      rcases h2 with h2|h2
      ·rw[if_neg (by omega),if_neg (by omega)]
      ·cases h2
    refine wpIn_mono (F:=j3 (some (w.heap.size+1))) (hb (some (w.heap.size+1)) (.inr hpb) {Wb with drawn:=1} W0 (n4 r μ1 σ1.mem) μ1 a1 Wb ⟨hrebL1,fun h=>by cases h⟩ hrb) ?_
    rintro e a2 Wc ⟨μ2,σ2,he,hs2⟩
    -- the round is over
    have fin:∀ (mm:ML),ik P r σ2 (St S mm)→∃μ3,(∀b,b<Wb.heap.size→¬iM μ1 σ1.mem b→Wc.heap[b]? =Wb.heap[b]?)∧(∀b,b<Wb.heap.size→Wr W0 μ3 (aR mm) b→Wr W0 μ1 σ1.mem b)∧
        Wc.heap[w.heap.size+1]? =some (.loop {rec .ready none with state:=.busy})∧Wc.heap[w.heap.size]? =some (.deferred (some []))∧cB P N w0 W0 L μ3 (St S mm) a Wc∧Wb.heap.size≤Wc.heap.size:=by
      intro mm hsits
      obtain⟨μ3,hs3⟩:=hsits N _ W0 (n4 r μ1 σ1.mem) μ2 a2 Wc (fun t h1 h2=>hrebL1 t h1 (.inl h2)) hs2
      have U2:=sb.yI hLr hr hlive1 hs3
      have hDc:Wc.heap[w.heap.size]? =some (.deferred (some [])):=by rw[U2.keep _ (ltOf hDb) (notMine sb hDb rfl)];exact hDb
      refine⟨μ3,U2.keep,U2.grow.wr,by rw[U2.keep _ (ltOf hlb) (notMine sb hlb rfl)];exact hlb,hDc,?_,U2.grow.size⟩
      exact U2.Gk _ a hsk.tsize (mkb.keep fun E _ h2=>by rw[U2.keep E (ltOf h2) (notMine sb h2 rfl)];exact h2) (fun i=>((out1 i).r7 tb).Iv U2.grow (hS i))
    have over:∀ (jump:Option Code) (mm:ML),ik P r σ2 (St S mm)→∃μ3 Wd,(Instr.endRound (w.heap.size+1) jump).run P Wc=.ok (.bool jump.isNone) Wd∧cB P N w0 W0 L μ3 (St S mm) a Wd∧
        Wd.heap[w.heap.size+1]? =some (.loop (rec (if jump.isNone then .ready else .done) jump))∧Wd.heap[w.heap.size]? =some (.deferred (some []))∧
        (jump=none→FB (Wr W0 μk (aR (M k))) W (Wr W0 μ3 (aR mm)) Wd):=by
      intro jump mm hsits
      obtain⟨μ3,keep2,wr2,hlc,hDc,s3,hsz3⟩:=fin mm hsits
      have hend:=run_endRound (P:=P) jump hlc
      have td:ej (w.heap.size+1) Wc (Wc.putObj (w.heap.size+1) (.loop { {rec .ready none with state:=.busy} with state:=if jump.isNone then .ready else .done,pending:=jump})):=ej.put hlc rfl
      obtain⟨Wd,hWd⟩:∃Wd,Wc.putObj (w.heap.size+1) (.loop { {rec .ready none with state:=.busy} with state:=if jump.isNone then .ready else .done,pending:=jump})=Wd:=⟨_,rfl⟩
      rw[hWd] at td
      have hld:Wd.heap[w.heap.size+1]? =some (.loop (rec (if jump.isNone then .ready else .done) jump)):=by
        rw[←hWd,World.putObj_heap_same (ltOf hlc),hrec]
      refine⟨μ3,Wd,by rw[←hWd];exact hend,s3.r7 td (by omega) (s3.defers.keep fun E h1 h2=>?_),hld,by rw[td.blk _ (by omega)];exact hDc,fun hj=>?_⟩
      ·rw[td.blk E (fun e=>by rw[e,hlc] at h2;cases h2)];exact h2
      · have hsz1:W.heap.size≤Wa.heap.size:=hs1.hsize
        have hsz2:Wb.heap.size=Wa.heap.size:=tb.size
        refine⟨by rw[td.size];omega,fun b hb hn=>?_,fun b hb hw=>?_⟩
        · by_cases hbl:b=w.heap.size+1
          · subst hbl
            rw[hld,hl,hj];rfl
          · have h1:¬iM μk (aR (M k)) b:=fun h=>hn (.inr h)
            have h2:¬iM μ1 σ1.mem b:=fun h=>hn (U1.grow.wr b hb (.inr h))
            rw[td.blk b hbl,keep2 b (by omega) h2,tb.blk b hbl,U1.keep b hb h1]
        ·exact U1.grow.wr b hb (wr2 b (by omega) hw)
    cases e with
    | normal=>
      obtain⟨μ3,Wd,h1,h2,h3,h4,h5⟩:=over none (M (k+1)) he
      exact⟨_,Wd,h1,.inl ⟨rfl,_,⟨μ3,h2,rfl,h3,h4,hk⟩,h5 rfl⟩⟩
    | ret=>
      obtain⟨mm,hm,hq⟩:=he
      obtain⟨μ3,Wd,h1,h2,h3,h4,h5⟩:=over (some .ret) mm hm
      exact⟨_,Wd,h1,.inr ⟨rfl,.ret,.ret,mm,μ3,h2,h3,h4,.inl ⟨rfl,rfl⟩,hq⟩⟩
    | exit id=>
      obtain⟨mm,hm,hq⟩:=he
      obtain⟨μ3,Wd,h1,h2,h3,h4,h5⟩:=over (some (.exit id)) mm hm
      exact⟨_,Wd,h1,.inr ⟨rfl,.exit id,.exit id,mm,μ3,h2,h3,h4,.inr ⟨id,rfl,rfl⟩,hq⟩⟩
    |goto t=>exact he.elim
    |panic c=>exact he.elim
    |outgrown=>exact he.elim
  have hres:(resolve a.eval (rangeCall f (w.heap.size+1)) 0).run P W1=.ok {target:=.fn (.func g) vals.toArray,args:= #[.func (.yield (w.heap.size+1)) #[] #[]]} W1:=by
    simp only[resolve,hval]
    simp[go_sem]
  refine⟨w.heap.size+1,[{target:=.collected w.heap.size,args:= #[]}],W1,{target:=.fn (.func g) vals.toArray,args:= #[.func (.yield (w.heap.size+1)) #[] #[]]},W1,g,
    #[.func (.yield (w.heap.size + 1)) #[] #[]] ++ vals.toArray, W1, ?_, hres, fun _ _ => trivial, ?_, fun h => (by cases h), ?_⟩
  ·rw[←hW1,hrec];exact run_enterLoop_outer _ _ _ _ _
  ·simp[invoke,go_sem,hg _ _]
  have eargs:(#[.func (.yield (w.heap.size+1)) #[] #[]]++vals.toArray:Array Value)=(.func (.yield (w.heap.size+1)) #[] #[]::vals).toArray:=by simp
  rw[eargs]
  refine om (key.mono ?_)
  have hmark:∀ {W W':World} {μ':Mu} {σ':az},cB P N w0 W0 L μ' σ' a W→ej (w.heap.size+1) W W'→W.heap[w.heap.size]? =some (.deferred (some []))→(∃o,W.heap[w.heap.size+1]? =some (.loop o))→
      cB P N w0 W0 L μ' σ' {a with defers:=[{target:=.collected w.heap.size,args:= #[]}]++a.defers} W':=by
    rintro W W' μ' σ' h t hD ⟨o,hl⟩
    refine h.r7 t (by omega) ⟨fun h0=>absurd hdr h0,?_⟩
    obtain⟨_,Ds,d1,d2,d3⟩:=hs.defers
    obtain⟨_,Es,e1,e2,e3⟩:=h.defers
    have hE:Es=Ds:=by
      have:Es.map qM=Ds.map qM:=by rw[←e1,←d1]
      exact(List.map_inj_right (fun x y hxy=>by simpa[qM] using hxy)).1 this
    refine⟨w.heap.size::Ds,by rw[d1];rfl,List.nodup_cons.2 ⟨fun hm=>?_,d2⟩,fun D hD'=>?_⟩
    ·have:=(Array.getElem?_eq_some_iff.1 (d3 _ hm).2).1;omega
    · rcases dU.1 hD' with rfl|hm
      ·exact⟨hDge,by rw[t.blk _ (by omega)];exact hD⟩
      · have h3:=e3 D (by rw[hE];exact hm)
        exact⟨h3.1,by rw[t.blk D (fun e=>by rw[e,hl] at h3;cases h3.2)];exact h3.2⟩
  rintro e W2 ⟨⟨v,rfl⟩,⟨Wn',μk,h1,_,h3,h4,_⟩|⟨c,e',mm,μk,h1,h2,h3,h4,h5⟩⟩
  · have hend:=run_endLoop (P:=P) h3 (by rw[hrec];simp)
    have e0:(rec .ready none).pending=none:=by rw[hrec]
    rw[e0] at hend
    refine⟨none,_,hend,μk,_,hdone,hmark h1 (ej.put h3 rfl) h4 ⟨_,h3⟩⟩
  · have hend:=run_endLoop (P:=P) h2 (by rw[hrec];simp)
    have e0:(rec .done (some c)).pending=some c:=by rw[hrec]
    rw[e0] at hend
    refine⟨some c,_,hend,?_⟩
    have hsim:=fun o'=>hmark h1 (ej.put h2 (o':=o') rfl) h3 ⟨_,h2⟩
    rcases h4 with⟨rfl,rfl⟩|⟨id,rfl,rfl⟩
    ·exact wpIn_ret ⟨μk,_,h5,hsim _⟩
    ·exact wpIn_exit ⟨μk,_,h5,hsim _⟩
end Go.Am
