/- Abstract values and what they say of memory; rules of code over them. By an AI agent. -/
import Derived.Test.YtkhjcnjicjgfiaaGreatDoorW1
import Derived.ChangeArms
import Derived.ChangeSlices
import Derived.WideShapes
import Derived.WideKeyArgs
import Derived.ChangeSame
import Derived.WalkKit
import Derived.ProofKit
import Derived.OpenShut
import Derived.Below
import Derived.Laws.IdiomStrings
import Derived.Laws.Concat
import Derived.Laws.Strings3
import Derived.Laws.Entries
set_option linter.unusedSimpArgs false
set_option linter.unusedVariables false
namespace Go.Am
open Go Go.ChangeShapes Go.WideShapes
def Reads (P:Program)(t:TypeId)(n:Nat){α:Type}(E:α→AV)(ok:α→Prop):Prop:=
  P.cellsOf t=n∧(∀a,(cells (E a)).length=n∧∀c∈cells (E a),bD c=true)∧
  ∀ {H:Type} {enc:TypeId×Value→H} {w:World} {base:Nat} {sp:Nat→Bool} {held:Bool} {fuel:Nat} {cs:List Value} {x:DataW H×List MemPlace},
    DataW.trod enc P w base sp held fuel t cs=some x→cs.length=n∧∃a,ok a∧∀ (W:Nat→Prop) (μ:Mu),(∀b,¬W b)→∀ (q:Nat) (c:AV) (v:Value),(cells (E a))[q]? =some c→cs[q]? =some v→cD W μ w c v
section
variable {P : Program} {t e : TypeId} {n : Nat} {α β γ : Type} {E : α → AV} {ok : α → Prop}
theorem qU {W:Nat→Prop}{μ:Mu}{w:World}{x:AV}{u:Value}(hx:cells x=[x])(h:cD W μ w x u):∀ (q:Nat) (c:AV) (v:Value),(cells x)[q]? =some c→[u][q]? =some v→cD W μ w c v:=by
  intro q c v h1 h2
  rw[hx] at h1
  cases q with
  |zero=>simp at h1 h2;subst h1;subst h2;exact h
  |succ q=>simp at h1
theorem Reads.int {k:IntKind}(ht:P.underlying t=some (.int k))(hc:P.cellsOf t=1):Reads P t 1 (fun n:Int=>.lit (.int k n)) (fun n=>(Lit.int k n).wf=true):=
  ⟨hc,fun _=>⟨rfl,by simp[cells,bD]⟩,fun h=>by
    obtain⟨n,rfl,rfl,hw⟩:=DataW.trod_int ht h
    exact⟨rfl,n,hw,fun W μ _=>qU rfl .lit⟩⟩
theorem Reads.bool (ht:P.underlying t=some .bool)(hc:P.cellsOf t=1):Reads P t 1 (fun b:Bool=>.lit (.bool b)) (fun _=>True):=
  ⟨hc,fun _=>⟨rfl,by simp[cells,bD]⟩,fun h=>by
    obtain⟨b,rfl,rfl⟩:=DataW.trod_bool ht h
    exact⟨rfl,b,trivial,fun W μ _=>qU rfl .lit⟩⟩
theorem Reads.str (ht:P.underlying t=some .string)(hc:P.cellsOf t=1):Reads P t 1 (fun s:ByteArray=>.lit (.string s)) (fun s=>s.size≤maxLen):=
  ⟨hc,fun _=>⟨rfl,by simp[cells,bD]⟩,fun h=>by
    obtain⟨s,rfl,rfl,hw⟩:=DataW.trod_string ht h
    exact⟨rfl,s,hw,fun W μ _=>qU rfl .lit⟩⟩
theorem cells?_get {w:World}{base:Nat}{a:Addr}{n:Nat}{cs:List Value}(h:w.cells? base a n=some cs){j:Nat}{v:Value}(hj:cs[j]? =some v):w.cell? (a.add j)=some v:=by
  unfold World.cells? at h
  split at h
  · have hl:cs.length=n:=by simpa using mapM_length h
    have hjn:j<n:=by have:=(bj hj).1;omega
    have:=mapM_get h (i:=j) (x:=j) (by simp[hjn])
    rw[this,hj]
  ·cases h
where
  mapM_length {α β:Type} {f:α→Option β}:∀ {l:List α} {r:List β},l.mapM f=some r→r.length=l.length
    |[],r,h=>by simp at h;subst h;rfl
    | x::l,r,h=>by
      rw[List.mapM_cons] at h
      simp only[bind,Option.bind_eq_some_iff,pure,Option.some.injEq] at h
      obtain⟨y,_,ys,h2,rfl⟩:=h
      simp[mapM_length h2]
  mapM_get {α β:Type} {f:α→Option β}:∀ {l:List α} {r:List β},l.mapM f=some r→∀ {i:Nat} {x:α},l[i]? =some x→f x=r[i]?
    |[],r,h,i,x,hx=>by simp at hx
    | y::l,r,h,i,x,hx=>by
      rw[List.mapM_cons] at h
      simp only[bind,Option.bind_eq_some_iff,pure,Option.some.injEq] at h
      obtain⟨z,h1,ys,h2,rfl⟩:=h
      cases i with
      |zero=>simp at hx;subst hx;simpa using h1
      |succ i=>simpa using mapM_get h2 (by simpa using hx)
theorem Reads.slice (ht:P.underlying t=some (.slice e))(hc:P.cellsOf t=1)(he:Reads P e n E ok)(hn:0<n):
    Reads P t 1 (fun l:List α=>.sl n (l.map E)) (fun l=>l.length≤maxLen∧∀x∈l,ok x):=
  ⟨hc, fun _ => ⟨rfl,by simp[cells,bD]⟩,fun{H enc w base sp held fuel cs x} h=>by
    rcases DataW.trod_slice ht h with⟨rfl,rfl⟩|⟨a,len,cap,elems,rest,m,rfl,rfl,rfl,hb,hl,hm,hlen,hel,hsp,hns⟩
    ·exact⟨rfl,[],⟨Nat.zero_le _,by simp⟩,fun W μ _=>qU rfl .slNil⟩
    · obtain ⟨ec, ew,er⟩:=he
      have each:∀i:Fin len,∃y:α×List Value,w.cells? base (a.add (i.1*n)) n=some y.2∧y.2.length=n∧ok y.1∧∀ (W:Nat→Prop) (μ:Mu),(∀b,¬W b)→∀ (q:Nat) (c:AV) (v:Value),(cells (E y.1))[q]? =some c→y.2[q]? =some v→cD W μ w c v:=by
        intro i
        have h1:=hel i.1 i.2
        rw[ec,bA (by omega),Option.bind_eq_some_iff] at h1
        obtain⟨cs',h2,h3⟩:=h1
        obtain⟨h4,a',h5,h6⟩:=er h3
        exact⟨(a',cs'),h2,h4,h5,h6⟩
      obtain⟨f,hf⟩:=Classical.axiomOfChoice each
      refine⟨rfl,List.ofFn fun i=>(f i).1,⟨by simp;omega,fun x hx=>?_⟩,fun W μ hW=>qU rfl ?_⟩
      · obtain⟨i,rfl⟩:=List.mem_ofFn.1 hx
        exact(hf i).2.2.1
      · cases len with
        |zero=>simpa using cD.slNil
        | succ len =>
          have hspot:a=⟨a.block,a.off,none⟩:=by
            obtain⟨h1,h2,_⟩:=hf ⟨0,Nat.succ_pos _⟩
            obtain⟨v0,h3⟩:∃v0,(f ⟨0,Nat.succ_pos _⟩).2[0]? =some v0:=⟨_,bA (by rw[h2];exact hn)⟩
            have h4:=cells?_get h1 h3
            simp only[Nat.zero_mul] at h4
            have e1:(a.add 0).add 0=a:=by simp[Addr.add]
            rw[e1] at h4
            unfold World.cell? at h4
            split at h4
            · split at h4
              ·cases h4
              · rename_i hs
                cases a with
                | mk b o s=>
                  cases s with
                  |none=>rfl
                  |some s=>simp at hs
            ·cases h4
          have hcell:∀ (i:Fin (len+1)) (j:Nat) (v:Value),(f i).2[j]? =some v→w.cell? ⟨a.block,a.off+ (i.1*n+j),none⟩=some v:=by
            intro i j v hv
            have:=cells?_get (hf i).1 hv
            rw[hspot] at this
            have e2:((⟨a.block,a.off,none⟩:Addr).add (i.1*n)).add j=⟨a.block,a.off+ (i.1*n+j),none⟩:=by
              have add_mk:∀ (b o k:Nat),(⟨b,o,none⟩:Addr).add k=⟨b,o+k,none⟩:=fun b o k=>by
                unfold Addr.add
                split
                ·rename_i h0;rw[h0];rfl
                ·rfl
              rw[add_mk,add_mk,Nat.add_assoc]
            rw[e2] at this
            exact this
          rw[hspot]
          have wide:bJ n ((List.ofFn fun i=>(f i).1).map E):=by
            refine .jk fun r hr=>?_
            obtain⟨y,_,rfl⟩:=List.mem_map.1 hr
            exact(ew y).1
          have key:∀ (q:Nat) (c:AV),(flat ((List.ofFn fun i=>(f i).1).map E))[q]? =some c→∃v,w.cell? ⟨a.block,a.off+q,none⟩=some v∧cD W μ w c v:=by
            intro q c hq
            obtain⟨i,k,r,rfl,h1,h2,h3⟩:=qK wide hq
            rw[fI] at h1
            cases h4:(List.ofFn fun i=>(f i).1)[i]? with
            |none=>rw[h4] at h1;simp at h1
            | some y=>
              rw[h4] at h1
              simp only[Option.map_some,Option.some.injEq] at h1
              subst h1
              have hi:i<len+1:=by simpa using(bj h4).1
              have h5:y=(f ⟨i,hi⟩).1:=by
                rw[List.getElem?_ofFn,dif_pos hi] at h4
                simpa using h4.symm
              subst h5
              obtain⟨v6,h6⟩:∃v6,(f ⟨i,hi⟩).2[k]? =some v6:=⟨_,bA (by rw[(hf ⟨i,hi⟩).2.1];exact h3)⟩
              exact⟨_,hcell ⟨i,hi⟩ k _ h6,(hf ⟨i,hi⟩).2.2.2 W μ hW k c _ h2 h6⟩
          have hblk:a.block<w.heap.size:=by
            obtain⟨h1,h2,_⟩:=hf ⟨0,Nat.succ_pos _⟩
            obtain⟨v0,h3⟩:∃v0,(f ⟨0,Nat.succ_pos _⟩).2[0]? =some v0:=⟨_,bA (by rw[h2];exact hn)⟩
            have h4:=hcell ⟨0,Nat.succ_pos _⟩ 0 _ h3
            unfold World.cell? at h4
            split at h4
            ·rename_i h5;exact(Array.getElem?_eq_some_iff.1 h5).1
            ·cases h4
          refine .sl (f:=fun q=>(w.cell? ⟨a.block,a.off+q,none⟩).getD undef) (hW _) hblk (by simp) hl wide (fun q c hq=>?_) (fun q c hq=>?_) (fun c hc=>by
            simp only[flat,List.mem_flatMap] at hc
            obtain⟨r,hr,hc⟩:=hc
            obtain⟨y,_,rfl⟩:=List.mem_map.1 hr
            exact(ew y).2 c hc)
          · obtain⟨v,h1,_⟩:=key q c hq
            rw[h1];rfl
          · obtain⟨v,h1,h2⟩:=key q c hq
            rw[h1];exact h2⟩
def rR (P:Program)(fs:List (Nat×TypeId))(k n:Nat){α:Type}(F:α→List AV)(ok:α→Prop):Prop:=
  (∀a,(F a).length=n∧∀c∈F a,bD c=true)∧
  ∀ {H :Type} {enc:TypeId×Value→H} {w:World} {base:Nat} {sp:Nat→Bool} {held:Bool} {fuel:Nat} {cs:List Value},
    (∀ f∈fs,∃x,DataW.trod enc P w base sp held fuel f.2 ((cs.drop f.1).take (P.cellsOf f.2))=some x)→
      ∃a,ok a∧∀ (W:Nat→Prop) (μ:Mu),(∀b,¬W b)→∀ (q:Nat) (c:AV) (v:Value),(F a)[q]? =some c→cs[k+q]? =some v→cD W μ w c v
theorem rR.nil {k:Nat}:rR P [] k 0 (fun _:Unit=>[]) (fun _=>True):=⟨fun _=>⟨rfl,by simp⟩,fun _=>⟨(),trivial,fun W μ _ q c v h=>by simp at h⟩⟩
theorem rR.cons {fs:List (Nat×TypeId)}{k m:Nat}{F:β→List AV}{okF:β→Prop}(h:Reads P t n E ok)(hs:rR P fs (k+n) m F okF):
    rR P ((k,t)::fs) k (n+m) (fun p:α×β=>cells (E p.1)++F p.2) (fun p=>ok p.1∧okF p.2):=by
  refine⟨fun p=>⟨by simp[(h.2.1 _).1,(hs.1 _).1],fun c hc=>(List.mem_append.1 hc).elim ((h.2.1 _).2 c) ((hs.1 _).2 c)⟩,fun{H enc w base sp held fuel cs} hf=>?_⟩
  obtain⟨x,hx⟩:=hf (k,t) (by simp)
  rw[h.1] at hx
  obtain⟨hl,a,h1,h2⟩:=h.2.2 hx
  obtain⟨b,h3,h4⟩:=hs.2 (fun f hf'=>hf f (by simp[hf']))
  refine⟨(a,b),⟨h1,h3⟩,fun W μ hW q c v hc hv=>?_⟩
  rw[List.getElem?_append] at hc
  rw[(h.2.1 _).1] at hc
  split at hc
  · rename_i hq
    refine h2 W μ hW q c v hc ?_
    rw[List.getElem?_take,if_pos hq,List.getElem?_drop]
    exact hv
  · rename_i hq
    refine h4 W μ hW (q-n) c v hc ?_
    rw[←hv]
    congr 1
    omega
theorem Reads.struct {fs:Array Field}{l:List (Nat×TypeId)}{F:α→List AV}(ht:P.underlying t=some (.struct fs))(hc:P.cellsOf t=n)(hf:fs.toList.map (fun f=>(f.offset,f.type))=l)(h:rR P l 0 n F ok):Reads P t n (fun a=>.agg (F a)) ok:=by
  refine⟨hc,h.1,fun{H enc w base sp held fuel cs x} hx=>?_⟩
  obtain⟨xs,m,rfl,rfl,hl,hxl,hall⟩:=DataW.trod_struct ht hx
  obtain⟨a,h1,h2⟩:=h.2 (enc:=enc) (w:=w) (base:=base) (sp:=sp) (held:=held) (fuel:=m) (cs:=cs) (fun f hfm=>by
    rw[←hf] at hfm
    obtain⟨g,hg,rfl⟩:=List.mem_map.1 hfm
    obtain⟨i,hi⟩:=List.getElem?_of_mem hg
    have hi':fs[i]? =some g:=by simpa using hi
    have:=hall i g hi'
    refine⟨xs[i]'(by have:=(Array.getElem?_eq_some_iff.1 hi').1;omega),?_⟩
    rw[this,bA])
  exact⟨by rw[hl,hc],a,h1,fun W μ hW q c v hc' hv=>h2 W μ hW q c v hc' (by simpa using hv)⟩
theorem Reads.conv {E':β→AV}{ok':β→Prop}(h:Reads P t n E ok)(g:α→β)(g':β→α)(hE:∀a,E' (g a)=E a)(hg:∀b,E' b=E (g' b))(hok:∀a,ok a→ok' (g a)):Reads P t n E' ok':=by
  refine⟨h.1,fun b=>by rw[hg];exact h.2.1 _,fun hx=>?_⟩
  obtain⟨hl,a,h1,h2⟩:=h.2.2 hx
  exact⟨hl,g a,hok a h1,by rw[hE];exact h2⟩
theorem Reads.Cc {H:Type}{enc:TypeId×Value→H}{w:World}{base b0:Nat}{r:Reach}{sp:Nat→Bool}{held:Bool}{v:Value}{d:DataW H}{ps:List MemPlace}{fs:Array Field}{F:α→List AV}(h:Reads P t n E ok)(hE:∀a,E a=.agg (F a))
    (ht:P.underlying t=some (.struct fs)) (hval:Value.okWide P w r b0 t v) (hd:DataW.Trod enc P w base sp held t v d ps):∃a,ok a∧∀ (W:Nat→Prop) (μ:Mu),(∀b,¬W b)→cD W μ w (E a) v:=by
  obtain⟨cs,rfl,hs⟩:=okWide_struct ht hval
  obtain⟨fuel,hf⟩:=hd
  obtain⟨hl,a,h1,h2⟩:=h.2.2 hf
  refine⟨a,h1,fun W μ hW=>?_⟩
  have h3:=h2 W μ hW
  have hw:=(h.2.1 a).1
  rw[hE] at h3 hw ⊢
  have:Value.agg cs=.agg cs.toList.toArray:=by simp
  rw[this]
  exact .agg (by simp only[cells] at hw;rw[hw];exact hl) h3
theorem Reads.G9 {H:Type}{enc:TypeId×Value→H}{w:World}{base:Nat}{sp:Nat→Bool}{held:Bool}{v:Value}{d:DataW H}{ps:List MemPlace}(h:Reads P t 1 E ok)(hE:∀a,cells (E a)=[E a])
    (hv:v.cells.toList=[v]) (hd:DataW.Trod enc P w base sp held t v d ps):∃a,ok a∧∀ (W:Nat→Prop) (μ:Mu),(∀b,¬W b)→cD W μ w (E a) v:=by
  obtain⟨fuel,hf⟩:=hd
  obtain⟨hl,a,h1,h2⟩:=h.2.2 hf
  refine⟨a,h1,fun W μ hW=>h2 W μ hW 0 _ _ (by rw[hE];rfl) (by rw[hv];rfl)⟩
def Kept (w w':World):Prop:=w'.os=w.os∧w'.output=w.output∧w.heap.size≤w'.heap.size∧∀b,b<w.heap.size→w'.heap[b]? =w.heap[b]?
theorem aj.law {f:FuncId}{args:List AV}{vs:List Value}{w:World}(h:aj P f [] args [] (.lit (.bool true)))(hr:∀ (W:Nat→Prop) (μ:Mu),(∀b,¬W b)→cN W μ w args vs)(ht:ku P w fun _=>none):
    Calls P f vs.toArray w fun e w'=>e=.returned (.bool true)∧Kept w w':=by
  have hW:∀b,¬Wr (fun _=>False) (fun _=>none) (aH []) b:=by
    rintro b (h|⟨t,B,wd,rows,_,h,_⟩)
    ·exact h
    ·cases h
  have hs:cz P 0 w (fun _=>False) (fun _=>none) (fun _=>none) (bare []) iA w:=by
    refine⟨rfl,.nil,rfl,rfl,rfl,Nat.le_refl _,fun _ _ _ h=>h,fun _ _ _=>rfl,fun _ h=>h.elim,fun _ _ _ h=>h,fun t=>by simp[bare,aH],fun _=>.any,fun t wd rows ro h=>?_,fun t t' wd rows wd' rows' ro' B B' _ h=>?_,fun t wd rows ro B h=>?_,ht⟩<;>simp[bare,aH] at h
  refine(h w (fun _=>False) (fun _=>none) vs (fun _ _=>rfl) hs (hr _ _ hW)).mono ?_
  rintro e w' ⟨v,μ',rfl,hs',hv⟩
  cases hv
  refine⟨rfl,hs'.os,hs'.output,hs'.hsize,fun b hb=>hs'.keep b hb ?_⟩
  rintro⟨t,B,h,_⟩
  cases h
theorem Kept.keptBut {w w':World}(h:Kept w w')(may:MemPlace→Prop):w.keptBut w' may:=by
  refine⟨h.1,h.2.1,fun i hi=>?_⟩
  rw[h.2.2.2 i hi]
  cases w.heap[i]? with
  |none=>rfl
  |some o=>cases o<;>simp
end
theorem Kept.sameAt {w w':World}(h:Kept w w'){p:MemPlace}(hp:p.block<w.heap.size):w.sameAt w' p:=by
  cases p with
  | cell b off=>
    simp only[World.sameAt,World.cell?]
    rw[h.2.2.2 b hp]
  |map b=>exact h.2.2.2 b hp
theorem Kept.frozen {w w':World}(h:Kept w w'){b off:Nat}(hb:b<w.heap.size):w'.frozen? ⟨b,off,none⟩=w.frozen? ⟨b,off,none⟩:=by
  simp only[World.frozen?]
  rw[h.2.2.2 b hb]
section
variable {H : Type} {enc : TypeId × Value → H} {P : Program}
theorem oM (hl:laidOutB P=true){W W':World}{base:Nat}{sp:Nat→Bool}:∀ {ts:List TypeId} {vs:List Value} {ds:List (DataW H)} {ps:List MemPlace},
    (∀t∈ts,P.readableRec t=true∧t<P.types.size)→DataW.TrodAll enc P W base (fun _=>true) true ts vs ds ps→(∀p∈ps,W.sameAt W' p)→(∀p∈ps,sp p.block=true)→DataW.TrodAll enc P W' base sp true ts vs ds ps
  |[],[],[],_,_,h,_,_=>h
  | t ::ts,v::vs,d::ds,ps,ht,⟨p,q,h1,h2,e⟩,hs,hsp=>by
    subst e
    exact⟨p,q,WideElems.Trod_stays hl (ht t (by simp)).1 (ht t (by simp)).2 h1 (fun x hx=>hs x (by simp[hx])) (fun x hx=>hsp x (by simp[hx])),
      oM hl (fun t' h'=>ht t' (by simp[h'])) h2 (fun x hx=>hs x (by simp[hx])) (fun x hx=>hsp x (by simp[hx])),rfl⟩
theorem mN {f:Func}{s:ChangeSpec}{apart fresh handsOn again:Bool}{W W':World}{args:Array Value}{tb:TypeId}{ds gs:List (DataW H)}{before:List MemPlace}
    (hW:DataW.Whole enc P f.params.toList s.vars apart W args.toList ds gs before) (hv:s.vars=[]) (hk:Kept W W') (hl:laidOutB P=true) (ht:∀t∈f.params.toList,P.readableRec t=true∧t<P.types.size)
    (ha:(s.fn H ds).args=ds) (hr:(s.fn H ds).results=[.lit (.bool true)]) (hvs:(s.fn H ds).vars=[]) (hb:P.underlying tb=some .bool) (hft:f.resultTypes= #[tb]):
    s.post enc P f apart fresh handsOn again W args (.bool true) W':=by
  have hW0:=hW
  obtain⟨p,q,hA,hV,rfl,hz,hn⟩:=hW
  have hV':=hV
  rw[hv] at hV'
  obtain⟨rfl,rfl⟩:=trodVars_none hV'
  simp only[List.append_nil] at hW0 hz hn
  have hold:∀x∈p,(fun b=>decide (b<W.heap.size)) x.block=true:=fun x hx=>by simpa using hW0.lt x hx
  have hsame:∀x∈p,W.sameAt W' x:=fun x hx=>hk.sameAt (hW0.lt x hx)
  have hargs:∀sp:Nat→Bool,(∀x∈p,sp x.block=true)→DataW.TrodAll enc P W' 0 sp true f.params.toList args.toList (s.fn H (ds++ [])).args p:=fun sp hsp=>by
    rw[List.append_nil,ha]
    exact oM hl ht hA hsame hsp
  have hres:∀ (b:Nat) (sp:Nat→Bool) (hd:Bool),DataW.TrodAll enc P W' b sp hd f.resultTypes.toList ((Value.bool true).resultList f.resultTypes.size) (s.fn H (ds++ [])).results []:=fun b sp hd=>by
    rw[List.append_nil,hr,hft]
    exact trodAll_cons_mk (RowKit.shut_bool hb _) trodAll_mk0
  have hvars:∀sp:Nat→Bool,DataW.TrodVars enc P W' sp s.vars (s.fn H (ds++ [])).vars []:=fun sp=>by
    rw[List.append_nil,hv,hvs];rfl
  have hok:∀ (j:Nat) (t:TypeId) (r:Value),f.resultTypes[j]? =some t→((Value.bool true).resultList f.resultTypes.size)[j]? =some r→Value.okWide P W' .any 0 t r:=
    RowKit.ok_one hft rfl (RowKit.okWide_bool_mk hb _)
  refine⟨ds,[],p,[],p,[],hW0,hres _ _ _,hargs _ hold,hvars _,World.keptBut_mono (fun x hx=>⟨hx,?_⟩) (hk.keptBut (· ∈p)),fun _=>?_⟩
  ·exact Or.inr (Or.inl hx)
  · refine⟨hok,_,_,([]++p)++ [],⟨[]++p,[],trodAll_append (hargs _ (fun _ _=>rfl)) (hres _ _ _),hvars _,rfl,?_,?_⟩,?_⟩
    · intro b off hp
      have hp':MemPlace.cell b off∈p:=by simpa using hp
      rw[hk.frozen (b:=b) (off:=off) (hW0.lt _ hp')]
      exact hz b off hp'
    · intro h
      simpa using hn h
    · intro x hx _
      simpa using hx
end
end Go.Am
namespace Go.Am
open Go Go.MapKept
structure iX (P:Program) (t:TypeId) (d:TypeDesc) (z:Value):Prop where
  ty:∃kt et,P.underlying t=some (.map kt et)∧P.underlying kt=some d∧jo P et z
def jw (d:TypeDesc)(rows:List AV):Prop:=∀r∈rows,∃key x,r=entry key x∧IsKey d key
theorem jw.set {d:TypeDesc}{rows:List AV}(h:jw d rows){key:Value}(hk:IsKey d key)(i:Nat)(x:AV):jw d (rows.set i (entry key x)):=fun r hr=>by
  rcases List.mem_or_eq_of_mem_set hr with h'|rfl
  ·exact h r h'
  ·exact⟨key,x,rfl,hk⟩
theorem jw.snoc {d:TypeDesc}{rows:List AV}(h:jw d rows){key:Value}(hk:IsKey d key)(x:AV):jw d (rows++ [entry key x]):=fun r hr=>by
  rcases List.mem_append.1 hr with h'|h'
  ·exact h r h'
  ·simp only[ic] at h';subst h';exact⟨key,x,rfl,hk⟩
theorem jw.nil {d:TypeDesc}:jw d []:=fun r h=>by simp at h
theorem jw.map {α:Type}{d:TypeDesc}(k:α→Value)(e:α→AV)(hk:∀a,IsKey d (k a))(l:List α):jw d (l.map fun a=>entry (k a) (e a)):=fun r hr=>by
  obtain⟨a,_,rfl⟩:=List.mem_map.1 hr
  exact⟨k a,e a,rfl,hk a⟩
theorem sv {k k':Value}{x x':AV}(h:entry k x=entry k' x'):k=k'∧x=x':=by
  simp only[entry,AV.agg.injEq,List.cons.injEq,AV.lit.injEq,AV.tup.injEq,and_true] at h
  exact h
section
variable {P : Program} {N : Nat} {σ : aA} {o : Oper} {w0 : World} {W0 : Nat → Prop} {L μ : Mu} {a : Act} {w : World}
theorem cz.allocMap (h:cz P N w0 W0 L μ σ a w){t:Nat}(ht:σ.mem t=.free):
    cz P N w0 W0 L (bz μ t ⟨w.heap.size,0,2,false,true⟩) ⟨σ.slots,br σ.mem [(t,.live 2 [] false)]⟩ a (w.alloc (.map #[] 0)):=by
  have hmt:μ t=none:=(h.free t).1 ht
  have size:w.heap.size≤ (w.alloc (.map #[] 0)).heap.size:=by simp
  have j6:∀b,b<w.heap.size→¬iZ μ σ.mem b→(w.alloc (.map #[] 0)).heap[b]? =w.heap[b]? :=fun b hb _=>heap_alloc_old w _ hb
  have mu:∀u B,μ u=some B→bz μ t ⟨w.heap.size,0,2,false,true⟩ u=some B:=fun u B hu=>by
    have:u≠t:=fun e=>by rw[e,hmt] at hu;cases hu
    simp[bz,this,hu]
  have old:∀u wd' rows' ro B,br σ.mem [(t,.live 2 [] false)] u=.live wd' rows' ro→bz μ t ⟨w.heap.size,0,2,false,true⟩ u=some B→B.virt=false→w.heap.size≤B.b∨
      ∃t1 wd1 rows1 ro1 B1,σ.mem t1=.live wd1 rows1 ro1∧μ t1=some B1∧B1.b=B.b∧B1.virt=false∧(ro=false→ro1=false):=by
    intro u wd' rows' ro B h1 h2 hv
    by_cases hu:u=t
    ·subst hu;simp[bz] at h2;subst h2;exact .inl (Nat.le_refl _)
    · simp[br,hu] at h1;simp[bz,hu] at h2
      exact .inr ⟨u,wd',rows',ro,B,h1,h2,rfl,hv,id⟩
  have g:=h.grow size j6 (fun b e n=>kE) mu (fD old)
  refine h.step size rfl rfl rfl j6 (fun b e n=>kE) mu old (fun u=>?_) (fun u wd' rows' ro hu=>?_) ?_
  · by_cases hu:u=t
    ·subst hu;simp[br,bz]
    ·simp[br,bz,hu,h.free u]
  · by_cases hut:u=t
    · subst hut
      simp[br] at hu
      obtain⟨rfl,rfl,rfl⟩:=hu
      exact⟨⟨w.heap.size,0,2,false,true⟩,by simp[bz],rfl,.nil _,(fun _ h=>nomatch h),(fun h=>nomatch h),(fun h=>nomatch h),fun _=>rfl,
        fun _=>⟨#[],0,heap_alloc_new w _,stamped_empty 0,rfl,by decide,⟨rfl,fun i e he=>by simp at he⟩,fun i r hr=>by simp at hr⟩⟩
    · simp[br,hut] at hu
      obtain⟨B,h1,h2⟩:=h.objs u wd' rows' ro hu
      exact⟨B,mu u B h1,h2.grow g fun hv=>heap_alloc_old w _ (h.dY hu h1 hv)⟩
  · intro u u' wd1 r1 wd2 r2 ro2 B B' hne h1 h2 h3 h4 v1 v2
    by_cases hu:u=t
    · subst hu
      simp[bz] at h3;subst h3
      have hu':u'≠u:=fun e=>hne e.symm
      simp[br,hu'] at h2;simp[bz,hu'] at h4
      have:=h.dY h2 h4 v2
      simp;omega
    · simp[br,hu] at h1;simp[bz,hu] at h3
      by_cases hu':u'=t
      · subst hu'
        simp[bz] at h4;subst h4
        have:=h.dY h1 h3 v1
        simp;omega
      · simp[br,hu'] at h2;simp[bz,hu'] at h4
        exact h.inj u u' wd1 r1 wd2 r2 ro2 B B' hne h1 h2 h3 h4 v1 v2
theorem cz.Ht (h:cz P N w0 W0 L μ σ a w){t wd:Nat}{rows rows':List AV}{B:zN}{es es':Array MapEntry}{clock clock':Nat}(ht:σ.mem t=.live wd rows false)(hB:μ t=some B)(hmp:B.mp=true)
    (hC:w.heap[B.b]? =some (.map es clock)) (hst:Stamped es' clock') (hbn:clock'=es'.size∧∀ (i:Nat) (e:MapEntry),es'[i]? =some e→e.born=i) (hsz:es'.size=rows'.length) (hmax:es'.size<maxLen) (hw:bJ wd rows')
    (hc:∀ (i:Nat) (r:AV),rows'[i]? =some r→∃k c e,r=.agg [k,c]∧es'[i]? =some e∧(∀key,k=.lit key→e.key=key)∧∀x,c=.tup [x]→cD (Wr W0 μ σ.mem) μ w x e.val):
    cz P N w0 W0 L μ ⟨σ.slots,br σ.mem [(t,.live wd rows' false)]⟩ a {w with heap:=w.heap.setIfInBounds B.b (.map es' clock')}:=by
  obtain⟨B0,hB0,hobj⟩:=h.objs t wd rows false ht
  rw[hB] at hB0;cases hB0
  have hv:=hobj.vm hmp
  have hhs:=heap_set (o':=.map es' clock') hC
  let w':World:={w with heap:=w.heap.setIfInBounds B.b (.map es' clock')}
  have hheap:w'.heap[B.b]? =some (.map es' clock'):=hhs.1
  have hother:∀b,b≠B.b→w'.heap[b]? =w.heap[b]? :=hhs.2
  have size:w.heap.size≤w'.heap.size:=by simp[w']
  have j6:∀b,b<w.heap.size→¬iZ μ σ.mem b→w'.heap[b]? =w.heap[b]? :=fun b _ hm=>hother b fun e=>hm ⟨t,B,wd,rows,ht,hB,e.symm,hv⟩
  have shape:∀b e n,w.shape? b=some (e,n)→w'.shape? b=some (e,n):=fun b e' n hs=>by
    by_cases hb:b=B.b
    ·subst hb;simp[World.shape?,hC] at hs
    ·simpa[World.shape?,hother b hb] using hs
  have old:∀u wd' rows'' ro B',br σ.mem [(t,.live wd rows' false)] u=.live wd' rows'' ro→μ u=some B'→B'.virt=false→w.heap.size≤B'.b∨
      ∃t1 wd1 rows1 ro1 B1,σ.mem t1=.live wd1 rows1 ro1∧μ t1=some B1∧B1.b=B'.b∧B1.virt=false∧(ro=false→ro1=false):=by
    intro u wd' rows'' ro B' h1 h2 hv'
    by_cases hu:u=t
    ·subst hu;rw[hB] at h2;cases h2;exact .inr ⟨u,wd,rows,false,B,ht,hB,rfl,hv,fun _=>rfl⟩
    ·simp[br,hu] at h1;exact .inr ⟨u,wd',rows'',ro,B',h1,h2,rfl,hv',id⟩
  have g:=h.grow (w':=w') size j6 shape (fun _ _ h=>h) (fD old)
  refine h.step (w':=w') size rfl rfl rfl j6 shape (fun _ _ h=>h) old (fun u=>?_) (fun u wd' rows'' ro hu=>?_) ?_
  · by_cases hu:u=t
    ·subst hu;simp[br,hB]
    ·simp[br,hu,h.free u]
  · by_cases hut:u=t
    · subst hut
      simp[br] at hu
      obtain⟨rfl,rfl,rfl⟩:=hu
      refine⟨B,hB,hobj.width,hw,(fun _ h=>by rw[hmp] at h;cases h),(fun h=>by rw[hv] at h;cases h),(fun h=>by rw[hmp] at h;cases h),fun _=>hv,fun _=>⟨es',clock',hheap,hst,hsz,hmax,hbn,fun i r hr=>?_⟩⟩
      obtain⟨k,c,e,k1,k2,k3,k4⟩:=hc i r hr
      exact⟨k,c,e,k1,k2,k3,fun x hx=>(k4 x hx).grow g⟩
    · simp[br,hut] at hu
      obtain⟨B',h1,h2⟩:=h.objs u wd' rows'' ro hu
      exact⟨B',h1,h2.grow g fun hv'=>hother _ fun e=>h.inj t u wd rows wd' rows'' ro B B' (fun e=>hut e.symm) ht hu hB h1 hv hv' e.symm⟩
  · intro u u' wd1 r1 wd2 r2 ro2 B1 B2 hne h1 h2 h3 h4 v1 v2
    have f1:∃wd r,σ.mem u=.live wd r false:=by
      by_cases hu:u=t
      ·subst hu;exact⟨_,_,ht⟩
      ·simp[br,hu] at h1;exact⟨_,_,h1⟩
    have f2:∃wd r ro,σ.mem u'=.live wd r ro:=by
      by_cases hu:u'=t
      ·subst hu;exact⟨_,_,_,ht⟩
      ·simp[br,hu] at h2;exact⟨_,_,_,h2⟩
    obtain⟨x1,y1,f1⟩:=f1
    obtain⟨x2,y2,z2,f2⟩:=f2
    exact h.inj u u' _ _ _ _ _ B1 B2 hne f1 f2 h3 h4 v1 v2
theorem aG.makeMap {t:TypeId}{tk:Nat}(ho:o.op=.makeMap t none)(hf:σ.mem tk=.free)(hd:∀d,o.dst=some d→d<N):aG P N o σ [tk] (.mapr tk) [(tk,.live 2 [] false)]:=by
  intro σ2 he2 hrd w0 W0 L μ a w K Q hs hK
  have hf2:σ2.mem tk=.free:=by rw[hrd tk (by simp)];exact hf
  have hs2:=hs.allocMap hf2
  have hrun:(execOp a.eval o).run P w=.ok (.value (.map (some w.heap.size))) (w.alloc (.map #[] 0)):=by
    simp[execOp,ho,Instr.makeMap,Result.andThen]
  unfold Oper.wp
  rw[hrun]
  exact hK _ _ _ (cz.tV hs2 (.mapr (B:=⟨w.heap.size,0,2,false,true⟩) (by simp[bz]) rfl) hd)
inductive l7 (σ:aA):AV→List AV→List Nat→Prop
  |own {t wd:Nat} {rows:List AV} {ro:Bool}:σ.mem t=.live wd rows ro→l7 σ (.mapr t) rows [t]
  |frz {rows:List AV}:l7 σ (.fmap rows) rows []
theorem l7.run {σ2:aA}{x:AV}{rows:List AV}{rd:List Nat}(h:l7 σ x rows rd)(hrd:∀t∈rd,σ2.mem t=σ.mem t)(hs:cz P N w0 W0 L μ σ2 a w){v:Value}(hv:cD (Wr W0 μ σ2.mem) μ w x v):
    ∃b es clock,v=.map (some b)∧w.heap[b]? =some (.map es clock)∧Stamped es clock∧es.size=rows.length∧es.size<maxLen∧∀ (i:Nat) (key:Value) (x:AV),rows[i]? =some (entry key x)→∃e,es[i]? =some e∧e.key=key∧cD (Wr W0 μ σ2.mem) μ w x e.val:=by
  cases h with
  | @own t wd rows ro hm=>
    have hm2:σ2.mem t=.live wd rows ro:=by rw[hrd t (by simp)];exact hm
    obtain⟨B,hB,hobj⟩:=hs.objs t wd rows ro hm2
    cases hv with
    | mapr a1 ap=>
      rw[hB] at a1;cases a1
      obtain⟨es,clock,h1,h2,h3,h4,h5⟩:=hobj.OW ap
      exact⟨B.b,es,clock,rfl,h1,h2,h3,h4,h5⟩
  | frz=>
    cases hv with
    | @fmap _ b es clock f h1 h2 h3 h4 h5 h6 h7 h8 h9=>
      refine⟨b,es,clock,rfl,h3,h4,h5,h6,fun i key x hr=>?_⟩
      obtain⟨key',x',e,k1,k2,k3,k4⟩:=h7 i _ hr
      obtain⟨rfl,rfl⟩:=sv k1
      exact⟨e,k2,k3,by rw[k4];exact h8 i _ _ hr⟩
theorem oh {d:TypeDesc}{rows:List AV}{es:Array MapEntry}(hks:jw d rows)(hl:es.size=rows.length)(h5:∀ (i:Nat) (key:Value) (x:AV),rows[i]? =some (entry key x)→∃e,es[i]? =some e∧e.key=key){key:Value}(hk:IsKey d key):
    (∀x∈es.toList,IsKey d x.key)∧((∃i x e,rows[i]? =some (entry key x)∧Instr.findNow d key es.toList 0=some (some (i,e.val))∧es[i]? =some e∧e.key=key)∨((∀x,entry key x∉rows)∧Instr.findNow d key es.toList 0=some none∧∀x∈es.toList,x.key≠key)):=by
  have each:∀ (i:Nat) (e:MapEntry),es[i]? =some e→∃key x,rows[i]? =some (entry key x)∧e.key=key∧IsKey d key:=by
    intro i e he
    have hi:i<rows.length:=by rw[←hl];exact(Array.getElem?_eq_some_iff.1 he).1
    obtain⟨key,x,h1,h2⟩:=hks rows[i] (List.getElem_mem hi)
    have h3:rows[i]? =some (entry key x):=by rw[bA hi,h1]
    obtain⟨e',h4,h6⟩:=h5 i key x h3
    rw[he] at h4;cases h4
    exact⟨key,x,h3,h6,h2⟩
  have hkeys:∀x∈es.toList,IsKey d x.key:=by
    intro x hx
    obtain⟨i,hi⟩:=List.getElem?_of_mem hx
    obtain⟨key,y,_,h1,h2⟩:=each i x (by simpa using hi)
    rw[h1];exact h2
  refine⟨hkeys,?_⟩
  rcases findNow_spec hk es.toList 0 hkeys with⟨h1,h2⟩|⟨j,e,h1,h2,h3⟩
  · refine .inr ⟨fun x hx=>?_,h1,h2⟩
    obtain⟨i,hi⟩:=List.getElem?_of_mem hx
    obtain⟨e,k1,k2⟩:=h5 i key x hi
    exact h2 e (Array.mem_toList_iff.2 (Array.mem_of_getElem? k1)) k2
  · have h2':es[j]? =some e:=by simpa using h2
    obtain⟨key',x,k1,k2,_⟩:=each j e h2'
    rw[h3] at k2
    subst k2
    exact .inl ⟨j,x,e,k1,by simpa using h1,h2',h3⟩
theorem aG.lookup {t:TypeId}{y x:Operand}{c:Bool}{ym:AV}{rows:List AV}{rd:List Nat}{key z:Value}{d:TypeDesc}{i:Nat}{r:AV}(ho:o.op=.lookup t y x c)(hy:σ.eval y=ym)(hsrc:l7 σ ym rows rd)(hx:σ.eval x=.lit key)(hT:iX P t d z)
    (hk:IsKey d key) (hks:jw d rows) (hr:rows[i]? =some (entry key r)) (hd:∀d,o.dst=some d→d<N):aG P N o σ rd (if c then .tup [r,.lit (.bool true)] else r) []:=
  .val (fun σ2 he2 hrd w0 W0 L μ a w hs=>by
    obtain⟨kt,et,t1,t2,t3⟩:=hT.ty
    have k1:=hs.eval y
    rw[he2 y (by simp[ho,Op.operands]),hy] at k1
    have k2:=hs.eval x
    rw[he2 x (by simp[ho,Op.operands]),hx] at k2
    obtain⟨b,es,clock,hv,h1,h2,h3,h4,h5⟩:=hsrc.run hrd hs k1
    obtain⟨hkeys,hfind⟩:=oh hks h3 (fun i key x h=>let⟨e,a,b,_⟩:=h5 i key x h;⟨e,a,b⟩) hk
    obtain⟨e0,e1,e2,e3⟩:=h5 i key r hr
    rcases hfind with⟨j,x',e,f1,f2,f3,f4⟩|⟨f1,_⟩
    · have hij:j=i:=by
        have hnd:=h2.2.2
        have a1:(es.toList.map (·.key))[j]? =some key:=by rw[fI];simp[f3,f4]
        have a2:(es.toList.map (·.key))[i]? =some key:=by rw[fI];simp[e1,e2]
        exact(List.getElem?_inj (bj a1).1 hnd).1 (by rw[a1,a2])
      subst hij
      rw[e1] at f3;cases f3
      refine⟨if c then .tuple #[e0.val,.bool true] else e0.val,?_,?_⟩
      ·simp only[execOp,ho,hv,k2.val,Instr.lookup,Sem.run_bind,run_underlying t1,Result.andThen_ok,MapKept.run_getObj_map h1,run_checkKey t2 hk,run_findKey t2 f2,Sem.run_pure]
      · cases c with
        |true=>exact .tup (vs:=[e0.val,.bool true]) rfl (fun q cc v g1 g2=>by
            match q,g1,g2 with
            |0,g1,g2=>cases g1;cases g2;exact e3
            |1,g1,g2=>cases g1;cases g2;exact .lit)
        |false=>exact e3
    ·exact absurd (bV hr) (f1 r)) hd
theorem aG.zQ {t:TypeId}{y x:Operand}{c:Bool}{ym:AV}{rows:List AV}{rd:List Nat}{key z:Value}{d:TypeDesc}(ho:o.op=.lookup t y x c)(hy:σ.eval y=ym)(hsrc:l7 σ ym rows rd)(hx:σ.eval x=.lit key)(hT:iX P t d z)
    (hk:IsKey d key) (hks:jw d rows) (hr:∀r,entry key r∉rows) (hd:∀d,o.dst=some d→d<N):aG P N o σ rd (if c then .tup [mY z,.lit (.bool false)] else mY z) []:=
  .val (fun σ2 he2 hrd w0 W0 L μ a w hs=>by
    obtain⟨kt,et,t1,t2,t3⟩:=hT.ty
    have k1:=hs.eval y
    rw[he2 y (by simp[ho,Op.operands]),hy] at k1
    have k2:=hs.eval x
    rw[he2 x (by simp[ho,Op.operands]),hx] at k2
    obtain⟨b,es,clock,hv,h1,h2,h3,h4,h5⟩:=hsrc.run hrd hs k1
    obtain⟨hkeys,hfind⟩:=oh hks h3 (fun i key x h=>let⟨e,a,b,_⟩:=h5 i key x h;⟨e,a,b⟩) hk
    rcases hfind with⟨j,x',e,f1,f2,f3,f4⟩|⟨f1,f2,f3⟩
    ·exact absurd (bV f1) (hr x')
    · refine ⟨if c then .tuple #[z,.bool false] else z,?_,?_⟩
      ·simp only[execOp,ho,hv,k2.val,Instr.lookup,Sem.run_bind,run_underlying t1,Result.andThen_ok,MapKept.run_getObj_map h1,run_checkKey t2 hk,run_findKey t2 f2,Sem.run_pure,t3 w]
      · cases c with
        |true=>exact .tup (vs:=[z,.bool false]) rfl (fun q cc v g1 g2=>by
            match q,g1,g2 with
            |0,g1,g2=>cases g1;cases g2;exact sD z
            |1,g1,g2=>cases g1;cases g2;exact .lit)
        |false=>exact sD z) hd
theorem aG.mapUpdate {t:TypeId}{y x v:Operand}{tk wd:Nat}{rows:List AV}{key z:Value}{d:TypeDesc}{i:Nat}{r r':AV}(ho:o.op=.mapUpdate t y x v)(hy:σ.eval y=.mapr tk)(hm:σ.mem tk=.live wd rows false)(hx:σ.eval x=.lit key)(hvv:σ.eval v=r')(hT:iX P t d z)
    (hk:IsKey d key) (hks:jw d rows) (hr:rows[i]? =some (entry key r)) (hd:∀d,o.dst=some d→d<N):aG P N o σ [tk] .any [(tk,.live wd (rows.set i (entry key r')) false)]:=by
  intro σ2 he2 hrd w0 W0 L μ a w K Q hs hK
  obtain⟨kt,et,t1,t2,t3⟩:=hT.ty
  have k1:=hs.eval y
  rw[he2 y (by simp[ho,Op.operands]),hy] at k1
  have k2:=hs.eval x
  rw[he2 x (by simp[ho,Op.operands]),hx] at k2
  have k3:=hs.eval v
  rw[he2 v (by simp[ho,Op.operands]),hvv] at k3
  have hm2:σ2.mem tk=.live wd rows false:=by rw[hrd tk (by simp)];exact hm
  obtain⟨B,hB,hobj⟩:=hs.objs tk wd rows false hm2
  generalize hv:a.eval y=yv at k1
  cases k1 with
  | mapr a1 ap =>
    rw[hB] at a1;cases a1
    obtain⟨es,clock,h1,h2,h3,h4,h5⟩:=hobj.OW ap
    obtain⟨es',clock',h1',h2',h3',h4',hb',h5'⟩:=hobj.map ap
    rw[h1] at h1';cases h1'
    obtain⟨hkeys,hfind⟩:=oh hks h3 (fun i key x h=>let⟨e,a,b,_⟩:=h5 i key x h;⟨e,a,b⟩) hk
    obtain⟨e0,e1,e2,e3⟩:=h5 i key r hr
    rcases hfind with⟨j,x',e,f1,f2,f3,f4⟩|⟨f1,_⟩
    · have hij :j=i:=by
        have hnd:=h2.2.2
        have a1:(es.toList.map (·.key))[j]? =some key:=by rw[fI];simp[f3,f4]
        have a2:(es.toList.map (·.key))[i]? =some key:=by rw[fI];simp[e1,e2]
        exact(List.getElem?_inj (bj a1).1 hnd).1 (by rw[a1,a2])
      subst hij
      have hrun:(execOp a.eval o).run P w=.ok .skip {w with heap:=w.heap.setIfInBounds B.b (.map (es.modify j fun e=>{e with key,val:=a.eval v}) clock)}:=by
        have hkk:((es[j]?).map (·.key)).getD key=key:=by simp[e1,e2]
        simp only[execOp,ho,hv,k2.val,Instr.mapUpdate,Sem.run_bind,run_underlying t1,Result.andThen_ok,MapKept.run_getObj_map h1,run_checkKey t2 hk,run_findKey t2 f2,hkk,run_keyThatStays hk,MapKept.run_setObj_map _ h1,Sem.run_pure]
      unfold Oper.wp
      rw[hrun]
      have hset:=hs.Ht (rows':=rows.set j (entry key r')) hm2 hB ap h1 (es':=es.modify j fun e=>{e with key,val:=a.eval v}) (clock':=clock)
        (stamped_modify h2 j _ (fun _ _=>rfl) (fun e _ he=>by rw[e1] at he;cases he;exact e2.symm)) ⟨by simpa using hb'.1,fun q e he=>by
          rw[Array.getElem?_modify] at he
          split at he
          ·rename_i hq;subst hq;rw[e1] at he;simp at he;subst he;show e0.born=_;exact hb'.2 _ _ e1
          ·exact hb'.2 q e he⟩ (by simpa using h3) (by simpa using h4) (hobj.wide.set (by rw[←hobj.wide j _ hr];rfl)) (fun q s hq=>by
          rw[List.getElem?_set] at hq
          by_cases hqj:j=q
          · subst hqj
            rw[if_pos rfl] at hq
            split at hq
            · cases hq
              refine⟨.lit key,.tup [r'],{e0 with key,val:=a.eval v},rfl,by simp[Array.getElem?_modify,e1],fun key' hk'=>by cases hk';rfl,fun x hx=>by cases hx;exact k3⟩
            ·cases hq
          · rw[if_neg hqj] at hq
            obtain⟨k,c,e,g1,g2,g3,g4⟩:=h5' q s hq
            exact⟨k,c,e,g1,by rw[Array.getElem?_modify,if_neg hqj];exact g2,g3,g4⟩)
      cases hdst:o.dst with
      |none=>exact hK μ _ _ (by rw[hdst];exact hset)
      | some dd=>
        have:=cz.tV (σ:=σ2) (ups:=[(tk,.live wd (rows.set j (entry key r')) false)]) hset (dst:=o.dst) (x:=.any) (v:=undef) .any hd
        exact hK μ _ _ (by simpa[hdst] using this)
    ·exact absurd (bV hr) (f1 r)
theorem aG.qH {t:TypeId}{y x v:Operand}{tk wd:Nat}{rows:List AV}{key z:Value}{d:TypeDesc}{r':AV}(ho:o.op=.mapUpdate t y x v)(hy:σ.eval y=.mapr tk)(hm:σ.mem tk=.live wd rows false)(hx:σ.eval x=.lit key)(hvv:σ.eval v=r')(hT:iX P t d z)
    (hk:IsKey d key) (hks:jw d rows) (hr:∀r,entry key r∉rows) (hroom:rows.length+1<maxLen) (hwd:wd=2) (hd:∀d,o.dst=some d→d<N):aG P N o σ [tk] .any [(tk,.live wd (rows++ [entry key r']) false)]:=by
  intro σ2 he2 hrd w0 W0 L μ a w K Q hs hK
  obtain⟨kt,et,t1,t2,t3⟩:=hT.ty
  have k1:=hs.eval y
  rw[he2 y (by simp[ho,Op.operands]),hy] at k1
  have k2:=hs.eval x
  rw[he2 x (by simp[ho,Op.operands]),hx] at k2
  have k3:=hs.eval v
  rw[he2 v (by simp[ho,Op.operands]),hvv] at k3
  have hm2:σ2.mem tk=.live wd rows false:=by rw[hrd tk (by simp)];exact hm
  obtain⟨B,hB,hobj⟩:=hs.objs tk wd rows false hm2
  generalize hv:a.eval y=yv at k1
  cases k1 with
  | mapr a1 ap =>
    rw[hB] at a1;cases a1
    obtain⟨es,clock,h1,h2,h3,h4,h5⟩:=hobj.OW ap
    obtain⟨es',clock',h1',h2',h3',h4',hb',h5'⟩:=hobj.map ap
    rw[h1] at h1';cases h1'
    obtain⟨hkeys,hfind⟩:=oh hks h3 (fun i key x h=>let⟨e,a,b,_⟩:=h5 i key x h;⟨e,a,b⟩) hk
    rcases hfind with⟨j,x',e,f1,f2,f3,f4⟩|⟨f1,f2,f3⟩
    ·exact absurd (bV f1) (hr x')
    · have hrun:(execOp a.eval o).run P w=.ok .skip {w with heap:=w.heap.setIfInBounds B.b (.map (es.push {key,val:=a.eval v,born:=clock}) (clock+1))}:=by
        simp only[execOp,ho,hv,k2.val,Instr.mapUpdate,Sem.run_bind,run_underlying t1,Result.andThen_ok,MapKept.run_getObj_map h1,run_checkKey t2 hk,run_findKey t2 f2,MapKept.run_setObj_map _ h1,Sem.run_pure]
      unfold Oper.wp
      rw[hrun]
      have hset:=hs.Ht (rows':=rows++ [entry key r']) hm2 hB ap h1 (es':=es.push {key,val:=a.eval v,born:=clock}) (clock':=clock+1)
        (stamped_push h2 f3) ⟨by simp[hb'.1],fun q e he=>by
          rw[Array.getElem?_push] at he
          split at he
          ·rename_i hq;cases he;show clock=q;rw[hq];exact hb'.1
          ·exact hb'.2 q e he⟩ (by simp[h3]) (by simp;omega) (.append hobj.wide (.cons (by rw[hwd];rfl) (.nil _))) (fun q s hq=>by
          rw[List.getElem?_append] at hq
          split at hq
          · rename_i hlt
            obtain⟨k,c,e,g1,g2,g3,g4⟩:=h5' q s hq
            exact⟨k,c,e,g1,by rw[Array.getElem?_push,if_neg (by omega)];exact g2,g3,g4⟩
          · rename_i hlt
            have hq0:q-rows.length=0:=by
              have:=(bj hq).1
              simp at this;omega
            rw[hq0] at hq
            simp at hq
            subst hq
            exact⟨.lit key,.tup [r'],{key,val:=a.eval v,born:=clock},rfl,by rw[Array.getElem?_push,if_pos (by omega)],(fun key' hk'=>by cases hk';rfl),(fun x hx=>by cases hx;exact k3)⟩)
      cases hdst:o.dst with
      |none=>exact hK μ _ _ (by rw[hdst];exact hset)
      | some dd=>
        have:=cz.tV (σ:=σ2) (ups:=[(tk,.live wd (rows++ [entry key r']) false)]) hset (dst:=o.dst) (x:=.any) (v:=undef) .any hd
        exact hK μ _ _ (by simpa[hdst] using this)
theorem aG.Il {y:Operand}{t:TypeId}{ym:AV}{rows:List AV}{rd:List Nat}{z:Value}{d:TypeDesc}(ho:o.op=.call {callee:=.builtin .len,args:= #[y],argTypes:= #[t]})(hy:σ.eval y=ym)(hsrc:l7 σ ym rows rd)(hT:iX P t d z)
    (hd:∀d,o.dst=some d→d<N):aG P N o σ rd (.lit (.int .i64 rows.length)) []:=
  .val (fun σ2 he2 hrd w0 W0 L μ a w hs=>by
    obtain⟨kt,et,t1,t2,t3⟩:=hT.ty
    have k1:=hs.eval y
    rw[he2 y (by simp[ho,Op.operands,Call.operands]),hy] at k1
    obtain⟨b,es,clock,hv,h1,h2,h3,h4,h5⟩:=hsrc.run hrd hs k1
    refine⟨.int .i64 rows.length,?_,.lit⟩
    simp[execOp,ho,resolve,invoke,builtin,hv,Builtin.len_,run_underlying t1,MapKept.run_getObj_map h1,goInt,h3,Result.andThen]) hd
end
end Go.Am
namespace Go.Am
open Go Go.RowKit
theorem tw {w w':World}(h:Below w.heap.size w w'):∀b e n,w.shape? b=some (e,n)→w'.shape? b=some (e,n):=fun b e n hb=>by
  have hb':b<w.heap.size:=by
    rcases Nat.lt_or_ge b w.heap.size with h'|h'
    ·exact h'
    ·simp[World.shape?,Array.getElem?_eq_none h'] at hb
  simpa[World.shape?,h.block b hb'] using hb
theorem ku.below {P:Program}{w w':World}(h:ku P w fun _=>none)(hb:Below w.heap.size w w'):ku P w' fun _=>none:=by
  refine⟨fun g hg=>?_,fun g hg=>?_⟩
  · obtain⟨h1,h2,h3⟩:=h.1 g hg
    refine⟨h1,jS h2 hb.size,fun c hc=>?_⟩
    rw[←h3 c hc]
    simp only[World.cell?,hb.block g h2]
  · obtain⟨h1,h2,v,h3,h4⟩:=h.2 g hg
    refine⟨h1,jS h2 hb.size,v,h3,?_⟩
    rw[←h4]
    simp only[World.cell?,hb.block g h2]
theorem EM {P:Program}(w:World)(ht:ku P w fun _=>none):cz P 0 w (fun _=>False) (fun _=>none) (fun _=>none) (bare []) iA w where
  tabs:=ht
  tsize:=rfl
  defers:=.nil
  os:=rfl
  tape:=rfl
  output:=rfl
  hsize:=Nat.le_refl _
  shp _ _ _ h:=h
  keep _ _ _:=rfl
  w0lt _ h:=h.elim
  lentμ _ _ _ h:=by cases h
  free t:=by simp[bare,aH]
  slots _:=.any
  objs t wd rows ro h:=by simp[bare,aH] at h
  inj t t' wd rows wd' rows' ro' B B' _ h:=by simp[bare,aH] at h
  out t wd rows ro B h:=by simp[bare,aH] at h
theorem aj.below {P:Program}{f:FuncId}{vs:List Value}{v:Value}(h:aj P f [] (vs.map .lit) [] (.lit v))(w:World)(ht:ku P w fun _=>none):Calls P f vs.toArray w fun e w'=>e=.returned v∧Below w.heap.size w w':=by
  refine(h w (fun _=>False) (fun _=>none) vs (fun _ _=>rfl) (EM w ht) (cN.lits vs)).mono ?_
  rintro e w' ⟨v',μ',rfl,hs,hv⟩
  cases hv
  exact⟨rfl,hs.os,hs.tape,hs.output,hs.hsize,fun b hb=>hs.keep b hb (by rintro⟨t,B,h,_⟩;cases h)⟩
theorem aj.jf {P:Program}{f:FuncId}{vs:List Value}{v:Value}(h:∀w,ku P w (fun _=>none)→Calls P f vs.toArray w fun e w'=>e=.returned v∧Below w.heap.size w w'):aj P f [] (vs.map .lit) [] (.lit v):=by
  intro w W0 L us hL hs hr
  have:=cN.D8 hr
  subst this
  refine(h w (hs.qO fun b h=>by obtain⟨_,_,h,_⟩:=h;cases h)).mono ?_
  rintro e w' ⟨rfl,hb⟩
  have hL':L=fun _=>none:=funext fun t=>hL t (Nat.zero_le _)
  subst hL'
  refine⟨_,fun _=>none,rfl,?_,.lit⟩
  exact{  tabs:=hs.tabs,tsize:=rfl,defers:=.nil,os:=hb.os,tape:=hb.tape,output:=hb.output,hsize:=hb.size,shp:=tw hb,keep:=fun b h1 _=>hb.block b h1,w0lt:=hs.w0lt,lentμ:=fun _ _ _ h=>h,free:=fun t=>by simp[bare,aH],
          slots:=fun _=>.any,objs:=fun t wd rows ro h=>by simp[bare,aH] at h,inj:=fun t t' wd rows wd' rows' ro' B B' _ h=>by simp[bare,aH] at h,out:=fun t wd rows ro B h=>by simp[bare,aH] at h}
end Go.Am
namespace Go.Am
open Go
section
variable {P : Program} {N : Nat} {σ : aA} {o : Oper}
theorem iU:∀ {l:List Nat} {t:Nat},t∈l→l[l.idxOf t]? =some t
  | x ::r,t,h=>by
    rw[List.idxOf_cons]
    by_cases e:x=t
    ·subst e;simp
    · have hr:t∈r:=by rcases dP.1 h with h|h;exact absurd h.symm e;exact h
      have:(x==t)=false:=by simpa using e
      rw[this];simpa using iU hr
theorem rY:∀ {l:List Nat} {k t:Nat},l.Nodup→l[k]? =some t→l.idxOf t=k:=by
  intro l k t hn hk
  have h1:=iU (bV hk)
  have hk':=(bj hk).1
  have h1':=(bj h1).1
  exact(List.getElem?_inj h1' hn).1 (by rw[h1,hk])
theorem vT {m:Nat→MS}:∀ {names:List Nat} {news:List MS} {t:Nat},br m (names.zip news) t=if t∈names then(news[names.idxOf t]?).getD (m t) else m t
  |[],_,t=>by simp[br]
  |x::r,[],t=>by simp[br]
  | x ::r,s::q,t=>by
    simp only[List.zip_cons_cons,br]
    rw[vT,List.idxOf_cons]
    by_cases e:t=x
    ·subst e;simp
    · have:(x==t)=false:=by simpa using fun h=>e h.symm
      rw[this]
      simp[e]
theorem pU {l:List MS}{k:Nat}{s:MS}(h:l[k]? =some s):aH l k=s:=by simp[aH,h]
theorem aG.dx {f:FuncId}{ys args:List AV}{ins outs news:List MS}{res x:AV}(names T:List Nat)(hto:gj σ o f ys)(hc:ak P f)
    (hargs:ig σ.mem (names.getD · 0) (· <ins.length) (· ∈T) args ys)
    (hT:∀t∈T,∃wd rows ro,σ.mem t=.live wd rows ro) (hTn:∀t∈T,t∉names) (hnd:names.Nodup)
    (hib:ins.length≤jD) (hil:ins.length≤names.length) (hnl:news.length=names.length)
    (hins:∀ (k:Nat) (s:MS) (t:Nat),ins[k]? =some s→names[k]? =some t→∃wd rows rows0,s=.live wd rows0 false∧σ.mem t=.live wd rows false∧(bJ wd rows→bJ wd rows0)∧ig σ.mem (names.getD · 0) (· <ins.length) (· ∈T) rows0 rows)
    (hfree:∀ (k:Nat) (t:Nat),ins.length≤k→names[k]? =some t→σ.mem t=.free)
    (hf:aj P f ins args outs res)
    (hnews:∀ (k:Nat) (s:MS),news[k]? =some s→(∃wd rows rows0,s=.live wd rows false∧outs[k]? =some (.live wd rows0 false)∧(bJ wd rows0→bJ wd rows)∧ig (aH outs) (names.idxOf ·) (· ∈names) (fun _=>False) rows rows0)∨(s=.dead∧outs[k]? =some .dead))
    (hx:Cv (aH outs) (names.idxOf ·) (· ∈names) (fun _=>False) x res) (hd:∀d,o.dst=some d→d<N):
    aG P N o σ (T++names) x (names.zip news++T.map fun t=>(t,lU (σ.mem t))):=by
  intro σ2 he2 hrd w0 W0 L μ a w K Q hs hK
  obtain⟨vs,h1,h2⟩:=hto.run hc he2 hs
  have hrdT:∀t∈T,σ2.mem t=σ.mem t:=fun t ht=>hrd t (by simp[ht])
  have hrdN:∀t∈names,σ2.mem t=σ.mem t:=fun t ht=>hrd t (by simp[ht])
  have hargs2:ig σ2.mem (names.getD · 0) (· <ins.length) (· ∈T) args ys:=⟨hargs.1,fun q c d a b=>(hargs.2 q c d a b).congr hrdT⟩
  have hins2:∀ (k:Nat),k<ins.length→∃t wd rows rows0,names[k]? =some t∧ins[k]? =some (.live wd rows0 false)∧σ2.mem t=.live wd rows false∧bJ wd rows0∧ig σ2.mem (names.getD · 0) (· <ins.length) (· ∈T) rows0 rows:=by
    intro k hk
    have hn:names[k]? =some (names[k]'(jS hk hil)):=bA _
    have hi:ins[k]? =some (ins[k]'hk):=bA _
    obtain⟨wd,rows,rows0,e1,e2,e3,e4⟩:=hins k _ _ hi hn
    rw[e1] at hi
    have e2':σ2.mem (names[k]'(jS hk hil))=.live wd rows false:=by rw[hrdN _ (bV hn)];exact e2
    obtain⟨B,_,hobj⟩:=hs.objs _ _ _ _ e2'
    exact⟨_,wd,rows,rows0,hn,hi,e2',e3 hobj.wide,e4.1,fun q c d a b=>(e4.2 q c d a b).congr hrdT⟩
  have hfree2:∀k t,ins.length≤k→names[k]? =some t→σ2.mem t=.free:=fun k t h1 h2=>by rw[hrdN t (bV h2)];exact hfree k t h1 h2
  have hT2:∀t∈T,∃wd rows ro,σ2.mem t=.live wd rows ro:=fun t ht=>by rw[hrdT t ht];exact hT t ht
  clear hargs hins hfree hT
  classical
  let L':Mu:=fun k=>if k<ins.length then(names[k]?).bind μ else none
  have hL:∀k B,L' k=some B→∃t wd rows rows0,k<ins.length∧names[k]? =some t∧ins[k]? =some (.live wd rows0 false)∧σ2.mem t=.live wd rows false∧μ t=some B∧bJ wd rows0∧ig σ2.mem (names.getD · 0) (· <ins.length) (· ∈T) rows0 rows:=by
    intro k B h
    by_cases hk:k<ins.length
    · obtain⟨t,wd,rows,rows0,e1,e2,e3,e4,e5⟩:=hins2 k hk
      simp only[L',if_pos hk,e1,Option.bind_some] at h
      exact⟨t,wd,rows,rows0,hk,e1,e2,e3,h,e4,e5⟩
    ·simp only[L',if_neg hk] at h;cases h
  have hLget:∀k t,k<ins.length→names[k]? =some t→L' k=μ t:=fun k t h1 h2=>by simp only[L',if_pos h1,h2,Option.bind_some]
  have hmem:∀k wd rows0 ro,aH ins k=.live wd rows0 ro→k<ins.length∧ins[k]? =some (.live wd rows0 ro):=by
    intro k wd rows0 ro h
    cases hk:ins[k]? with
    |none=>simp[aH,hk] at h
    |some s=>simp[aH,hk] at h;subst h;exact⟨(bj hk).1,rfl⟩
  have hWr:∀b,b<w.heap.size→Wr (fun b=>Wr W0 μ σ2.mem b∧¬uD μ (T++names) b) L' (aH ins) b→Wr W0 μ σ2.mem b:=by
    rintro b hb (h|⟨k,B,wd,rows,h1,h2,rfl,h4⟩)
    ·exact h.1
    · obtain⟨t,wd',rows',rows0,_,e1,e2,e3,e4,_⟩:=hL k B h2
      exact .inr ⟨t,B,wd',rows',e3,e4,rfl,h4⟩
  have hDr:∀k,k<ins.length→L' k=μ (names.getD k 0):=by
    intro k hk
    obtain⟨t,wd,rows,rows0,e1,_⟩:=hins2 k hk
    rw[hLget k t hk e1]
    simp[List.getD,e1]
  have hFr:∀s B,s∈T→μ s=some B→B.virt=false→¬Wr (fun b=>Wr W0 μ σ2.mem b∧¬uD μ (T++names) b) L' (aH ins) B.b:=by
    rintro s B hsT hB hv (h|⟨k,B',wd,rows,h1,h2,h3,h4⟩)
    ·exact h.2 ⟨s,by simp[hsT],B,hB,rfl,hv⟩
    · obtain⟨t,wd',rows',rows0,_,e1,e2,e3,e4,_⟩:=hL k B' h2
      obtain⟨wd2,rows2,ro2,hl⟩:=hT2 s hsT
      exact hs.inj t s _ _ _ _ _ B' B (fun e=>hTn s hsT (e▸bV e1)) e3 hl e4 hB h4 hv h3
  have hrep0:∀x y v,Cv σ2.mem (names.getD · 0) (· <ins.length) (· ∈T) x y→cD (Wr W0 μ σ2.mem) μ w y v→cD (Wr (fun b=>Wr W0 μ σ2.mem b∧¬uD μ (T++names) b) L' (aH ins)) L' w x v:=
    fun x y v hcv hy=>hcv.rep hs.objs hWr hDr hFr hy
  have hsim:cz P 0 w (fun b=>Wr W0 μ σ2.mem b∧¬uD μ (T++names) b) L' L' (bare ins) iA w:=by
    refine{tabs:=?tabs,tsize:=rfl,defers:=.nil,os:=rfl,tape:=rfl,output:=rfl,hsize:=Nat.le_refl _,shp:=fun _ _ _ h=>h,keep:=fun _ _ _=>rfl,w0lt:=?_,lentμ:=fun _ _ _ h=>h,free:=?_,slots:=fun _=>.any,objs:=?_,inj:=?_,out:=?_}
    case tabs=>
      refine hs.qO ?_
      rintro b ⟨k,B,k1,rfl,k3⟩
      obtain⟨t,wd,rows,rows0,_,_,_,e3,e4,_⟩:=hL k B k1
      exact(hs.out t wd rows false B e3 e4 k3).2 rfl
    · rintro b ⟨h|⟨t,B,wd,rows,h1,h2,rfl,h4⟩,_⟩
      ·exact jS (hs.w0lt b h) hs.hsize
      ·exact hs.dY h1 h2 h4
    · intro k
      show aH ins k=.free↔L' k=none
      by_cases hk:k<ins.length
      · obtain⟨t,wd,rows,rows0,e1,e2,e3,_⟩:=hins2 k hk
        obtain⟨B,hB,_⟩:=hs.objs t _ _ _ e3
        rw[pU e2,hLget k t hk e1,hB]
        simp
      ·simp only[L',if_neg hk,aH,oF (Nat.le_of_not_lt hk),Option.getD_none]
    · intro k wd rows0 ro h
      obtain⟨hk,h2⟩:=hmem k wd rows0 ro h
      obtain⟨t,wd',rows,rows0',e1,e2,e3,e4,e5⟩:=hins2 k hk
      rw[h2] at e2;cases e2
      obtain⟨B,hB,hobj⟩:=hs.objs t _ _ _ e3
      exact⟨B,by rw[hLget k t hk e1];exact hB,hobj.cv e5 e4 (fun _=>rfl) hrep0⟩
    · intro k k' wd rows wd' rows' ro' B B' hne h3 h4 h5 h6 v1 v2
      obtain⟨t,_,_,_,_,e1,_,e3,e4,_⟩:=hL k B h5
      obtain⟨t',_,_,_,_,f1,_,f3,f4,_⟩:=hL k' B' h6
      refine hs.inj t t' _ _ _ _ _ B B' (fun e=>hne ?_) e3 f3 e4 f4 v1 v2
      rw[←rY hnd e1,←rY hnd f1,e]
    · intro k wd rows ro B h h5 hv
      obtain⟨t,_,_,_,_,e1,_,e3,e4,_⟩:=hL k B h5
      exact⟨fun hb=>hb.2 ⟨t,by simp[bV e1],B,e4,rfl,hv⟩,fun _=>.inr ⟨k,B,h5,rfl,hv⟩⟩
  have hargsR:cN (Wr (fun b=>Wr W0 μ σ2.mem b∧¬uD μ (T++names) b) L' (aH ins)) L' w args vs:=by
    refine⟨by rw[h1.1,hargs2.1],fun j c v e1 e2=>?_⟩
    have hj:=(bj e1).1
    have hy:ys[j]? =some (ys[j]'(by rw[←hargs2.1];exact hj)):=bA _
    exact hrep0 c _ v (hargs2.2 j c _ e1 hy) (h1.2 j _ v hy e2)
  have hcall:=hf w _ L' vs (fun t ht=>by simp only[L',if_neg (Nat.not_lt.2 ht)]) hsim hargsR
  unfold Oper.wp
  rw[h2]
  simp only[Oper.upon]
  refine Calls.mono hcall ?_
  rintro e w' ⟨v,μ',rfl,hs',hv⟩
  have hro:(T.map fun t=>(t,lU (σ.mem t)))=T.map fun t=>(t,lU (σ2.mem t)):=List.map_congr_left fun t ht=>by rw[hrdT t ht]
  rw[hro] at hK
  generalize hm2:br σ2.mem (names.zip news++T.map fun t=>(t,lU (σ2.mem t)))=m2 at*
  have m2new:∀t,t∈names→(∃wd rows rows0,m2 t=.live wd rows false∧aH outs (names.idxOf t)=.live wd rows0 false∧(bJ wd rows0→bJ wd rows)∧ig (aH outs) (names.idxOf ·) (· ∈names) (fun _=>False) rows rows0)∨(m2 t=.dead∧aH outs (names.idxOf t)=.dead):=by
    intro t ht
    have hlt:=(bj (iU ht)).1
    have hk:news[names.idxOf t]? =some (news[names.idxOf t]'(by rw[hnl];exact hlt)):=bA _
    have hm:m2 t=news[names.idxOf t]'(by rw[hnl];exact hlt):=by
      rw[←hm2,kF,vT,if_pos ht,hk,Option.getD_some]
    rcases hnews _ _ hk with⟨wd,rows,rows0,e1,e2,e3,e4⟩|⟨e1,e2⟩
    ·exact .inl ⟨wd,rows,rows0,by rw[hm,e1],pU e2,e3,e4⟩
    ·exact .inr ⟨by rw[hm,e1],pU e2⟩
  have m2live:∀t wd rows ro,t∈names→m2 t=.live wd rows ro→ro=false∧∃rows0,aH outs (names.idxOf t)=.live wd rows0 false∧(bJ wd rows0→bJ wd rows)∧ig (aH outs) (names.idxOf ·) (· ∈names) (fun _=>False) rows rows0:=by
    intro t wd rows ro ht h
    rcases m2new t ht with⟨wd',rows',rows0,e1,e2,e3,e4⟩|⟨e1,e2⟩
    ·rw[h] at e1;cases e1;exact⟨rfl,rows0,e2,e3,e4⟩
    ·rw[h] at e1;cases e1
  have m2old:∀t,t∉names→m2 t=if t∈T then lU (σ2.mem t) else σ2.mem t:=by
    intro t ht
    rw[←hm2,kF,vT,if_neg ht,Ef]
  let μ2:Mu:=fun t=>if t∈names then μ' (names.idxOf t) else μ t
  have μnew:∀t,t∈names→μ2 t=μ' (names.idxOf t):=fun t h=>if_pos h
  have μold:∀t,t∉names→μ2 t=μ t:=fun t h=>if_neg h
  have oldlive:∀t wd rows ro,t∉names→m2 t=.live wd rows ro→∃ro',σ2.mem t=.live wd rows ro'∧(ro=false→ro'=false∧t∉T):=by
    intro t wd rows ro hn h
    rw[m2old t hn] at h
    split at h
    · cases hmt:σ2.mem t with
      | live wd' rows' ro'=>
        rw[hmt] at h;simp only[lU] at h;cases h
        exact⟨ro',rfl,fun h=>by cases h⟩
      |free=>rw[hmt] at h;cases h
      |dead=>rw[hmt] at h;cases h
    ·rename_i hT';exact⟨ro,h,fun h'=>⟨h',hT'⟩⟩
  -- a lent block is one of this frame's own
  have lent:∀b,th L' b→∃t B wd rows,t∈names∧σ2.mem t=.live wd rows false∧μ t=some B∧B.b=b∧B.virt=false:=by
    rintro b ⟨k,B,h,rfl,hv'⟩
    obtain⟨t,wd,rows,_,_,e1,_,e3,e4,_⟩:=hL k B h
    exact⟨t,B,wd,rows,bV e1,e3,e4,rfl,hv'⟩
  have j6:∀b,b<w.heap.size→¬iZ μ σ2.mem b→w'.heap[b]? =w.heap[b]? :=fun b hb hm=>hs'.keep b hb fun h=>by
    obtain⟨t,B,wd,rows,_,e3,e4,e5,e6⟩:=lent b h
    exact hm ⟨t,B,wd,rows,e3,e4,e5,e6⟩
  have mu:∀t B,μ t=some B→μ2 t=some B:=fun t B h=>by
    by_cases hn:t∈names
    · rw [μnew t hn]
      have hg:=iU hn
      by_cases hk:names.idxOf t<ins.length
      ·exact hs'.lentμ _ _ (jS hk hib) (by rw[hLget _ t hk hg];exact h)
      · have:=(hs.free t).1 (hfree2 _ t (Nat.le_of_not_lt hk) hg)
        rw[this] at h;cases h
    ·rw[μold t hn];exact h
  have newge:∀k B wd rows,aH outs k=.live wd rows false→μ' k=some B→B.virt=false→w.heap.size≤B.b∨∃t B1 wd rows,t∈names∧σ2.mem t=.live wd rows false∧μ t=some B1∧B1.b=B.b∧B1.virt=false:=by
    intro k B wd rows h3 h4 h5
    exact((hs'.out _ _ _ _ B h3 h4 h5).2 rfl).imp id (lent _)
  have old:∀t wd rows ro B,m2 t=.live wd rows ro→μ2 t=some B→B.virt=false→w.heap.size≤B.b∨∃t1 wd1 rows1 ro1 B1,σ2.mem t1=.live wd1 rows1 ro1∧μ t1=some B1∧B1.b=B.b∧B1.virt=false∧(ro=false→ro1=false):=by
    intro t wd rows ro B h3 h4 h5
    by_cases hn:t∈names
    · obtain⟨_,rows0,e2,_⟩:=m2live t _ _ _ hn h3
      rw[μnew t hn] at h4
      rcases newge _ B _ _ e2 h4 h5 with h|⟨t1,B1,wd1,rows1,_,f1,f2,f3,f4⟩
      ·exact .inl h
      ·exact .inr ⟨t1,wd1,rows1,false,B1,f1,f2,f3,f4,fun _=>rfl⟩
    · obtain⟨ro',e1,e2⟩:=oldlive t wd rows ro hn h3
      rw[μold t hn] at h4
      exact .inr ⟨t,wd,rows,ro',B,e1,h4,rfl,h5,fun h=>(e2 h).1⟩
  have g:=hs.grow (m':=m2) (μ':=μ2) hs'.hsize j6 hs'.shp mu (fD old)
  have hW : ∀ b,b<w'.heap.size→Wr W0 μ2 m2 b→Wr (fun b=>Wr W0 μ σ2.mem b∧¬uD μ (T++names) b) μ' (aH outs) b:=by
    rintro b hb (h|⟨t,B,wd,rows,h3,h4,rfl,h5⟩)
    · refine .inl ⟨.inl h,?_⟩
      rintro⟨s,hs1,B,hB,rfl,hv'⟩
      cases hms:σ2.mem s with
      |free=>rw[(hs.free s).1 hms] at hB;cases hB
      |live wd rows ro=>exact(hs.out s wd rows ro B hms hB hv').1 h
      | dead =>
        rcases List.mem_append.1 hs1 with h'|h'
        · obtain⟨_,_,_,hl⟩:=hT2 s h'
          rw[hms] at hl;cases hl
        · by_cases hk:names.idxOf s<ins.length
          · obtain⟨t,wd,rows,rows0,e1,e2,e3,_⟩:=hins2 _ hk
            rw[iU h'] at e1;cases e1
            rw[hms] at e3;cases e3
          · have:=hfree2 _ s (Nat.le_of_not_lt hk) (iU h')
            rw[hms] at this;cases this
    · by_cases hn:t∈names
      · obtain⟨_,rows0,e2,_⟩:=m2live t _ _ _ hn h3
        rw[μnew t hn] at h4
        exact .inr ⟨names.idxOf t,B,wd,rows0,e2,h4,rfl,h5⟩
      · obtain ⟨ro',e1,e2⟩:=oldlive t wd rows false hn h3
        obtain⟨rfl,hnT⟩:=e2 rfl
        rw[μold t hn] at h4
        refine .inl ⟨.inr ⟨t,B,wd,rows,e1,h4,rfl,h5⟩,?_⟩
        rintro⟨s,hs1,B',hB,hbe,hv'⟩
        have hne:t≠s:=fun e=>by
          subst e
          rcases List.mem_append.1 hs1 with h'|h'
          ·exact hnT h'
          ·exact hn h'
        cases hms:σ2.mem s with
        |free=>rw[(hs.free s).1 hms] at hB;cases hB
        |live wd' rows' ro=>exact hs.inj t s wd rows wd' rows' ro B B' hne e1 hms h4 hB h5 hv' hbe.symm
        | dead =>
          rcases List.mem_append.1 hs1 with h'|h'
          · obtain⟨_,_,_,hl⟩:=hT2 s h'
            rw[hms] at hl;cases hl
          · by_cases hk:names.idxOf s<ins.length
            · obtain⟨t,wd,rows,rows0,e1,e2,e3,_⟩:=hins2 _ hk
              rw[iU h'] at e1;cases e1
              rw[hms] at e3;cases e3
            · have:=hfree2 _ s (Nat.le_of_not_lt hk) (iU h')
              rw[hms] at this;cases this
  have hrep:∀x y v,Cv (aH outs) (names.idxOf ·) (· ∈names) (fun _=>False) x y→cD (Wr (fun b=>Wr W0 μ σ2.mem b∧¬uD μ (T++names) b) μ' (aH outs)) μ' w' y v→cD (Wr W0 μ2 m2) μ2 w' x v:=
    fun x y v hcv hy=>hcv.rep hs'.objs hW (fun t ht=>μnew t ht) (fun s B h=>h.elim) hy
  have hstep:=hs.step (m':=m2) (μ':=μ2) hs'.hsize hs'.os hs'.tape hs'.output j6 hs'.shp mu old (fun t=>by
      by_cases hn:t∈names
      · rw [μnew t hn]
        have:=hs'.free (names.idxOf t)
        rcases m2new t hn with⟨wd,rows,rows0,e1,e2,_⟩|⟨e1,e2⟩
        · simp only[bare,e2] at this
          rw[e1,←this];simp
        · simp only[bare,e2] at this
          rw[e1,←this]
      · rw[μold t hn,m2old t hn,←hs.free t]
        split
        ·cases hmt:σ2.mem t<;>simp[lU]
        ·rfl)
    (fun t wd rows ro h3=>by
      by_cases hn:t∈names
      · obtain⟨rfl,rows0,e2,e3,e4⟩:=m2live t _ _ _ hn h3
        obtain⟨B,hB,hobj⟩:=hs'.objs (names.idxOf t) _ _ _ e2
        exact⟨B,by rw[μnew t hn];exact hB,hobj.cv e4 (e3 hobj.wide) (fun _=>rfl) hrep⟩
      · obtain⟨ro',e1,e2⟩:=oldlive t wd rows ro hn h3
        obtain⟨B,hB,hobj⟩:=hs.objs t wd rows ro' e1
        refine⟨B,by rw[μold t hn];exact hB,?_⟩
        have:=hobj.grow g fun hv'=>hs'.keep _ (hs.dY e1 hB hv') fun hl=>by
          obtain⟨t1,B1,wd1,rows1,f0,f1,f2,f3,f4⟩:=lent _ hl
          exact hs.inj t1 t _ _ _ _ _ B1 B (fun e=>hn (e▸f0)) f1 e1 f2 hB f4 hv' f3
        cases ro with
        |true=>exact this.ro
        |false=>rw[(e2 rfl).1] at this;exact this)
    (by
      intro t t' wd rows wd' rows' ro' B B' hne h3 h4 h5 h6 v1 v2
      by_cases hn:t∈names<;>by_cases hn':t'∈names
      · obtain⟨_,_,e2,_⟩:=m2live t _ _ _ hn h3
        obtain⟨rfl,_,f2,_⟩:=m2live t' _ _ _ hn' h4
        rw[μnew t hn] at h5;rw[μnew t' hn'] at h6
        refine hs'.inj (names.idxOf t) (names.idxOf t') _ _ _ _ _ B B' (fun e=>hne ?_) e2 f2 h5 h6 v1 v2
        have a1:=iU hn
        rw[e,iU hn'] at a1
        cases a1;rfl
      · obtain⟨_,_,e2,_⟩:=m2live t _ _ _ hn h3
        obtain⟨_,f1,_⟩:=oldlive t' _ _ _ hn' h4
        rw[μnew t hn] at h5;rw[μold t' hn'] at h6
        have:=hs.dY f1 h6 v2
        rcases newge _ B _ _ e2 h5 v1 with h|⟨t1,B1,wd1,rows1,k0,k1,k2,k3,k4⟩
        ·omega
        ·rw[←k3];exact hs.inj t1 t' _ _ _ _ _ B1 B' (fun e=>hn' (e▸k0)) k1 f1 k2 h6 k4 v2
      · obtain⟨_,e1,e2⟩:=oldlive t _ _ _ hn h3
        obtain⟨_,_,f2,_⟩:=m2live t' _ _ _ hn' h4
        rw[μold t hn] at h5;rw[μnew t' hn'] at h6
        have:=hs.dY e1 h5 v1
        rcases newge _ B' _ _ f2 h6 v2 with h|⟨t1,B1,wd1,rows1,k0,k1,k2,k3,k4⟩
        ·omega
        ·rw[←k3];exact(hs.inj t1 t _ _ _ _ _ B1 B (fun e=>hn (e▸k0)) k1 e1 k2 h5 k4 v1).symm
      · obtain⟨_,e1,e2⟩:=oldlive t _ _ _ hn h3
        obtain⟨_,f1,_⟩:=oldlive t' _ _ _ hn' h4
        rw[μold t hn] at h5;rw[μold t' hn'] at h6
        rw[(e2 rfl).1] at e1
        exact hs.inj t t' _ _ _ _ _ B B' hne e1 f1 h5 h6 v1 v2)
  refine hK μ2 _ _ ?_
  have:=hstep.put (hrep x res v hx hv) hd
  unfold aA.yI
  rw[hm2]
  exact this
end
section
variable {P : Program} {N : Nat} {σ : aA} {o : Oper}
theorem aG.IE {t:TypeId}{y z:Operand}{s:ByteArray}{kd:IntKind}{k:Nat}{c:UInt8}(ho:o.op=.index t y z)(he:σ.eval y=.lit (.string s))(hz:σ.eval z=.lit (.int kd k))(ht:P.underlying t=some .string)
    (hc:s.data.toList[k]? =some c) (hd:∀d,o.dst=some d→d<N):aG P N o σ [] (.lit (.int .u8 c.toNat)) []:=
  .val (fun σ2 he2 hrd w0 W0 L μ a w hs=>by
    have k1:=hs.eval y
    have k2:=hs.eval z
    rw[he2 y (by simp[ho,Op.operands]),he] at k1
    rw[he2 z (by simp[ho,Op.operands]),hz] at k2
    refine⟨_,?_,.lit⟩
    obtain⟨hk,hc⟩:=bj hc
    have hk':k<s.size:=hk
    have hc':s[k]'hk'=c:=by rw[←hc];rfl
    have hr:=run_index_string (P:=P) w t s kd (k:Int) ht
    rw[dif_pos ⟨Int.natCast_nonneg k,by omega⟩] at hr
    simp only[Int.toNat_natCast] at hr
    rw[hc'] at hr
    simp[execOp,ho,k1.val,k2.val,hr]) hd
theorem aG.DL {src dst:TypeId}{y:Operand}{v r:Value}(ho:o.op=.convert src dst y)(he:σ.eval y=.lit v)(hr:∀w,(convert src dst v).run P w=.ok r w)(hd:∀d,o.dst=some d→d<N):aG P N o σ [] (.lit r) []:=
  .val (fun σ2 he2 hrd w0 W0 L μ a w hs=>by
    have k1:=hs.eval y
    rw[he2 y (by simp[ho,Op.operands]),he] at k1
    refine⟨_,?_,.lit⟩
    simp[execOp,ho,k1.val,hr w]) hd
theorem aG.Ic {src dst e:TypeId}{y:Operand}{tk off len:Nat}{rows:List AV}{ro:Bool}{bs:List UInt8}(ho:o.op=.convert src dst y)(he:σ.eval y=.own tk off len)
    (h1:P.underlying src=some (.slice e)) (h2:P.underlying e=some (.int .u8)) (h3:P.underlying dst=some .string) (hm:σ.mem tk=.live 1 rows ro) (hl:len=bs.length) (hne:bs≠ [])
    (hb:∀ (i:Nat) (b:UInt8),bs[i]? =some b→(flat rows)[off+i]? =some (.lit (.int .u8 b.toNat))) (hd:∀d,o.dst=some d→d<N):aG P N o σ [tk] (.lit (.string ⟨bs.toArray⟩)) []:=
  .val (fun σ2 he2 hrd w0 W0 L μ a w hs=>by
    have k1:=hs.eval y
    rw[he2 y (by simp[ho,Op.operands]),he] at k1
    have hm2:σ2.mem tk=.live 1 rows ro:=by rw[hrd tk (by simp)];exact hm
    obtain⟨B,hB,hobj⟩:=hs.objs tk 1 rows ro hm2
    refine⟨_,?_,.lit⟩
    subst hl
    generalize hv:a.eval y=v at k1
    generalize hn:bs.length=n at k1
    cases k1 with
    | @own _ _ _ cap e' n' B' a1 av ap a2 a3 a4=>
      rw[hB] at a1;cases a1
      subst hn
      have:=run_convert_bytes_back (P:=P) w src dst e ⟨B.b,B.o+off*B.wd,none⟩ cap bs h1 h2 h3 (fun j hj=>by
        obtain⟨u,u1,u2⟩:=hobj.cell ap _ _ (hb j _ (bA hj))
        rw[u2.val] at u1
        rw[Addr.add_lit,hobj.width,Nat.mul_one,Nat.add_assoc]
        exact u1)
      simp only[execOp,ho,hv,Sem.run_bind,this,Result.andThen_ok,Sem.run_pure]
    |ownNil a1=>exact absurd (List.eq_nil_of_length_eq_zero hn) hne) hd
theorem BP {t:TypeId}(ht:P.underlying t=some .string){s:ByteArray}{lo hi:Option Value}{a b:Nat}(hl:lo=none∧a=0∨∃k,lo=some (.int k (a:Int)))(hh:hi=none∧b=s.size∨∃k,hi=some (.int k (b:Int)))(h1:a≤b)(h2:b≤s.size)(w:World):
    (Instr.slice t (.string s) lo hi none).run P w=.ok (.string (s.extract a b)) w:=by
  rcases hl with⟨rfl,rfl⟩|⟨k,rfl⟩<;>rcases hh with⟨rfl,rfl⟩|⟨k',rfl⟩
  ·exact run_slice_string_all w t s ht
  ·rw[run_slice_string_to_if w t s k' b ht,if_pos ⟨by omega,by omega⟩];simp
  ·rw[run_slice_string_from_if w t s k a ht,if_pos ⟨by omega,by omega⟩];simp
  ·rw[run_slice_string w t s k k' a b ht (by omega) (by omega) (by omega)];simp
theorem aG.I6 {t:TypeId}{y:Operand}{lo hi:Option Operand}{s:ByteArray}{a b:Nat}(ho:o.op=.slice t y lo hi none)(he:σ.eval y=.lit (.string s))(ht:P.underlying t=some .string)
    (hl:lo=none∧a=0∨∃z k,lo=some z∧σ.eval z=.lit (.int k a)) (hh:hi=none∧b=s.size∨∃z k,hi=some z∧σ.eval z=.lit (.int k b)) (h1:a≤b) (h2:b≤s.size) (hd:∀d,o.dst=some d→d<N):
    aG P N o σ [] (.lit (.string (s.extract a b))) []:=
  .val (fun σ2 he2 hrd w0 W0 L μ ac w hs=>by
    have k1:=hs.eval y
    rw[he2 y (by simp[ho,Op.operands]),he] at k1
    have hl':lo.map ac.eval=none∧a=0∨∃k,lo.map ac.eval=some (.int k a):=by
      rcases hl with⟨rfl,rfl⟩|⟨z,k,rfl,hz⟩
      ·exact .inl ⟨rfl,rfl⟩
      · have:=hs.eval z
        rw[he2 z (by simp[ho,Op.operands]),hz] at this
        exact .inr ⟨k,by simp[this.val]⟩
    have hh':hi.map ac.eval=none∧b=s.size∨∃k,hi.map ac.eval=some (.int k b):=by
      rcases hh with⟨rfl,rfl⟩|⟨z,k,rfl,hz⟩
      ·exact .inl ⟨rfl,rfl⟩
      · have:=hs.eval z
        rw[he2 z (by simp[ho,Op.operands]),hz] at this
        exact .inr ⟨k,by simp[this.val]⟩
    refine⟨_,?_,.lit⟩
    have hr:=BP (P:=P) ht hl' hh' h1 h2 w
    simp only[execOp,ho,k1.val,Instr.sliceAt,Option.map_none,run_underlying ht,hr,Sem.run_bind,Result.andThen_ok,Sem.run_pure]) hd
end
end Go.Am
