/- Abstract values and what they say of memory; rules of code over them. By an AI agent. -/
import Derived.WalkKit
import Derived.Orders
import Derived.MapKept
import Derived.Lib.Space
import GoSem.ClaimJoined
import Derived.Still
set_option linter.unusedSimpArgs false
set_option linter.unusedVariables false
namespace Go.Am
theorem bD {α : Type _} {l : List α} {i : Nat} (h : i < l.length) : l[i]? = some l[i] := List.getElem?_eq_getElem h
theorem aY {α : Type _} {l : List α} {i : Nat} {a : α} (h : l[i]? = some a) : ∃ h : i < l.length, l[i] = a := List.getElem?_eq_some_iff.1 h
theorem bH {p : Prop} [Decidable p] : (decide p = true) = p := decide_eq_true_eq
theorem cR {p : Prop} {_ : Decidable p} : (decide p = false) ↔ ¬p := decide_eq_false_iff_not
theorem bW {α β : Type _} {as : List α} (f : α → β) : (as.map f).length = as.length := List.length_map f
theorem bN (a b : Bool) : ((a && b) = true) = (a = true ∧ b = true) := Bool.and_eq_true a b
theorem dx {p : Prop} [Decidable p] (h : ¬p) : decide p = false := decide_eq_false h
theorem dJ {p : Prop} [Decidable p] (h : p) : decide p = true := decide_eq_true h
theorem bO {α : Type _} {l : List α} {i : Nat} {a : α} (h : l[i]? = some a) : a ∈ l := List.mem_of_getElem? h
theorem gA {α : Type _} {a b : α} : a ∈ [b] ↔ a = b := List.mem_singleton
theorem mD {α : Type _} {l : List α} {i : Nat} (h : l.length ≤ i) : l[i]? = none := List.getElem?_eq_none h
theorem kf {α : Type _} {a b : List α} : (a ++ b).length = a.length + b.length := List.length_append
theorem eP {α : Type _} (y : α) {a : α} {l : List α} (h : a ∈ l) : a ∈ y :: l := List.mem_cons_of_mem y h
theorem gj {α : Type _} {a : α} {l : List α} : a ∈ a :: l := List.mem_cons_self
theorem fI {α β : Type _} {f : α → β} {l : List α} {i : Nat} : (l.map f)[i]? = Option.map f l[i]? := List.getElem?_map
theorem jT {a b c : Nat} (h : a < b) (k : b ≤ c) : a < c := Nat.lt_of_lt_of_le h k
theorem j8 (a b : Bool) : ((a || b) = true) = (a = true ∨ b = true) := Bool.or_eq_true a b
theorem iq {α β : Type _} {f : α → β} {l₁ l₂ : List α} : (l₁ ++ l₂).map f = l₁.map f ++ l₂.map f := List.map_append
theorem qL {α : Type _} {l : List α} {i : Nat} (h : l.length ≤ i) : l.take i = l := List.take_of_length_le h
theorem dU {α : Type _} {a b : α} {l : List α} : a ∈ b :: l ↔ a = b ∨ a ∈ l := List.mem_cons
theorem gh {α : Type _} {i : Nat} {l : List α} : (l.take i).length = min i l.length := List.length_take
inductive AV where
  |any
  |emp
  |guess (p q:Prop)
  |lit (x:Value)
  |sl (wd:Nat) (rows:List AV)
  |own (t off len:Nat)
  |ptr (t i k:Nat)
  |fptr (e:AV) (k:Nat)
  |agg (cs:List AV)
  |tup (vs:List AV)
  |clo (f:Fn) (first captured:List AV)
  |mapr (t:Nat)
  |fmap (rows:List AV)
  deriving Inhabited
def cells:AV→List AV
  |.agg cs=>cs
  |.lit (.agg xs)=>xs.toList.map .lit
  |x=>[x]
mutual
/-- No reference to an object of the frame. -/
def bz:AV→Bool
  |.any=>true
  |.emp=>true
  |.guess _ _=>true
  |.lit _=>true
  |.sl _ _=>true
  |.own .. =>false
  |.ptr .. =>false
  |.fptr _ _=>true
  |.mapr _=>false
  |.fmap _=>true
  |.agg cs=>br cs
  |.tup cs=>br cs
  |.clo _ a b=>br a&&br b
def br:List AV→Bool
  |[]=>true
  |x::xs=>bz x&&br xs
end
def flat (rows:List AV):List AV:=rows.flatMap cells
structure xI where
  b:Nat
  o:Nat
  wd:Nat
  virt:Bool:=false
  mp:Bool:=false
abbrev Mu:=Nat→Option xI
def entry (key:Value)(x:AV):AV:=.agg [.lit key,.tup [x]]
inductive cE (W:Nat→Prop) (μ:Mu) (w:World):AV→Value→Prop
  |any {v}:cE W μ w .any v
  |lit {x}:cE W μ w (.lit x) x
  |guess {p q:Prop} {b:Bool}:(b=true→p)→(b=false→q)→cE W μ w (.guess p q) (.bool b)
  |emp {a}:cE W μ w .emp (.slice a 0 0)
  |slNil {wd a cap}:cE W μ w (.sl wd []) (.slice a 0 cap)
  |sl  {wd:Nat} {rows:List AV} {b o cap n:Nat} {f:Nat→Value}:¬W b→b<w.heap.size→n=rows.length→n≤cap→
      (∀ (i:Nat) (r:AV),rows[i]? =some r→(cells r).length=wd)→
      (∀ (q:Nat) (c:AV),(flat rows)[q]? =some c→w.cell? ⟨b,o+q,none⟩=some (f q))→
      (∀ (q:Nat) (c:AV),(flat rows)[q]? =some c→cE W μ w c (f q))→(∀c∈flat rows,bz c=true)→cE W μ w (.sl wd rows) (.slice (some ⟨b,o,none⟩) n cap)
  |own {t off len cap:Nat} {e:TypeId} {n:Nat} {B:xI}:μ t=some B→B.virt=false→B.mp=false→len≤cap→w.shape? B.b=some (e,n)→B.o+ (off+cap)*B.wd≤n→
      cE W μ w (.own t off len) (.slice (some ⟨B.b,B.o+off*B.wd,none⟩) len cap)
  |ownNil {t off a} {B:xI}:μ t=some B→cE W μ w (.own t off 0) (.slice a 0 0)
  |ptr {t i k} {B:xI}:μ t=some B→B.mp=false→cE W μ w (.ptr t i k) (.pointer (some ⟨B.b,B.o+ (i*B.wd+k),none⟩))
  |fptr {e:AV} {k b o:Nat} {f:Nat→Value}:¬W b→b<w.heap.size→
      (∀ (q:Nat) (c:AV),(cells e)[q]? =some c→w.cell? ⟨b,o+q,none⟩=some (f q))→
      (∀ (q:Nat) (c:AV),(cells e)[q]? =some c→cE W μ w c (f q))→(∀c∈cells e,bz c=true)→cE W μ w (.fptr e k) (.pointer (some ⟨b,o+k,none⟩))
  |mapr {t} {B:xI}:μ t=some B→B.mp=true→cE W μ w (.mapr t) (.map (some B.b))
  |fmap {rows:List AV} {b:Nat} {es:Array MapEntry} {clock:Nat} {f:Nat→Value}:¬W b→b<w.heap.size→w.heap[b]? =some (.map es clock)→MapKept.Stamped es clock→es.size=rows.length→es.size<maxLen→
      (∀ (i:Nat) (r:AV),rows[i]? =some r→∃key x e,r=entry key x∧es[i]? =some e∧e.key=key∧e.val=f i)→(∀ (i:Nat) (key:Value) (x:AV),rows[i]? =some (entry key x)→cE W μ w x (f i))→
      (∀r∈rows,bz r=true)→cE W μ w (.fmap rows) (.map (some b))
  |agg {cs:List AV} {vs:List Value}:vs.length=cs.length→(∀ (j:Nat) (c:AV) (v:Value),cs[j]? =some c→vs[j]? =some v→cE W μ w c v)→cE W μ w (.agg cs) (.agg vs.toArray)
  |tup {cs:List AV} {vs:List Value}:vs.length=cs.length→(∀ (j:Nat) (c:AV) (v:Value),cs[j]? =some c→vs[j]? =some v→cE W μ w c v)→cE W μ w (.tup cs) (.tuple vs.toArray)
  |clo {f:Fn} {as bs:List AV} {va vb:List Value}:va.length=as.length→vb.length=bs.length→(∀ (j:Nat) (c:AV) (v:Value),as[j]? =some c→va[j]? =some v→cE W μ w c v)→
      (∀ (j:Nat) (c:AV) (v:Value),bs[j]? =some c→vb[j]? =some v→cE W μ w c v)→cE W μ w (.clo f as bs) (.func f va.toArray vb.toArray)
structure Grow (W:Nat→Prop) (μ:Mu) (w:World) (W':Nat→Prop) (μ':Mu) (w':World):Prop where
  size:w.heap.size≤w'.heap.size
  blk:∀b,¬W b→b<w.heap.size→w'.heap[b]? =w.heap[b]?
  shape:∀b e n,w.shape? b=some (e,n)→w'.shape? b=some (e,n)
  wr:∀b,b<w.heap.size→W' b→W b
  mu:∀t B,μ t=some B→μ' t=some B
theorem Grow.refl (W:Nat→Prop)(μ:Mu)(w:World):Grow W μ w W μ w:=⟨Nat.le_refl _,fun _ _ _=>rfl,fun _ _ _ h=>h,fun _ _ h=>h,fun _ _ h=>h⟩
theorem Grow.trans {W W' W'':Nat→Prop}{μ μ' μ'':Mu}{w w' w'':World}(h:Grow W μ w W' μ' w')(k:Grow W' μ' w' W'' μ'' w''):Grow W μ w W'' μ'' w'' where
  size:=Nat.le_trans h.size k.size
  blk b hb hl:=by rw[k.blk b (fun hw=>hb (h.wr b hl hw)) (jT hl h.size),h.blk b hb hl]
  shape b e n hs:=k.shape _ _ _ (h.shape _ _ _ hs)
  wr b hl hw:=h.wr b hl (k.wr b (jT hl h.size) hw)
  mu t B hm:=k.mu _ _ (h.mu _ _ hm)
theorem Grow.cell {W W':Nat→Prop}{μ μ':Mu}{w w':World}(h:Grow W μ w W' μ' w'){b q:Nat}(hb:¬W b)(hl:b<w.heap.size):w'.cell? ⟨b,q,none⟩=w.cell? ⟨b,q,none⟩:=
  World.cell?_of_block (h.blk b hb hl)
theorem cE.grow {W W':Nat→Prop}{μ μ':Mu}{w w':World}(g:Grow W μ w W' μ' w'){x:AV}{v:Value}(h:cE W μ w x v):cE W' μ' w' x v:=by
  induction h with
  |any=>exact .any
  |lit=>exact .lit
  |guess h1 h2=>exact .guess h1 h2
  |emp=>exact .emp
  |slNil=>exact .slNil
  |sl hW hb hn hc hwd hcell _ hnr ih=>exact .sl (fun h=>hW (g.wr _ hb h)) (jT hb g.size) hn hc hwd (fun q c hq=>by rw[g.cell hW hb];exact hcell q c hq) (fun q c hq=>ih q c hq) hnr
  |own hm hv hp hl hs ho=>exact .own (g.mu _ _ hm) hv hp hl (g.shape _ _ _ hs) ho
  |ownNil hm=>exact .ownNil (g.mu _ _ hm)
  |ptr hm hp=>exact .ptr (g.mu _ _ hm) hp
  |mapr hm hp=>exact .mapr (g.mu _ _ hm) hp
  |fmap hW hb h1 h2 h3 h4 h5 _ hn ih=>exact .fmap (fun h=>hW (g.wr _ hb h)) (jT hb g.size) (by rw[g.blk _ hW hb];exact h1) h2 h3 h4 h5 (fun i key x hi=>ih i key x hi) hn
  |fptr hW hb hcell _ hnr ih=>exact .fptr (fun h=>hW (g.wr _ hb h)) (jT hb g.size) (fun q c hq=>by rw[g.cell hW hb];exact hcell q c hq) (fun q c hq=>ih q c hq) hnr
  |agg hl _ ih=>exact .agg hl (fun j c v h1 h2=>ih j c v h1 h2)
  |tup hl _ ih=>exact .tup hl (fun j c v h1 h2=>ih j c v h1 h2)
  |clo h1 h2 _ _ ih1 ih2=>exact .clo h1 h2 (fun j c v a b=>ih1 j c v a b) (fun j c v a b=>ih2 j c v a b)
def cH (W:Nat→Prop)(μ:Mu)(w:World)(cs:List AV)(vs:List Value):Prop:=
  vs.length=cs.length∧∀ (j:Nat) (c:AV) (v:Value),cs[j]? =some c→vs[j]? =some v→cE W μ w c v
theorem cH.nil {W:Nat→Prop}{μ:Mu}{w:World}:cH W μ w [] []:=⟨rfl,fun j c v h=>by simp at h⟩
theorem cH.cons {W:Nat→Prop}{μ:Mu}{w:World}{c:AV}{v:Value}{cs:List AV}{vs:List Value}(h:cE W μ w c v)(hs:cH W μ w cs vs):cH W μ w (c::cs) (v::vs):=
  ⟨by simp[hs.1],fun j d u h1 h2=>by
    cases j with
    |zero=>simp at h1 h2;subst h1;subst h2;exact h
    |succ j=>simp at h1 h2;exact hs.2 j d u h1 h2⟩
theorem cH.grow {W W':Nat→Prop}{μ μ':Mu}{w w':World}(g:Grow W μ w W' μ' w'){cs:List AV}{vs:List Value}(h:cH W μ w cs vs):cH W' μ' w' cs vs:=
  ⟨h.1,fun j c v a b=>(h.2 j c v a b).grow g⟩
theorem cH.append {W:Nat→Prop}{μ:Mu}{w:World}{cs ds:List AV}{vs us:List Value}(h:cH W μ w cs vs)(k:cH W μ w ds us):cH W μ w (cs++ds) (vs++us):=by
  refine⟨by simp[h.1,k.1],fun j c v a b=>?_⟩
  rw[List.getElem?_append] at a b
  rw[h.1] at b
  split at a
  ·rename_i hj;rw[if_pos hj] at b;exact h.2 _ _ _ a b
  ·rename_i hj;rw[if_neg hj] at b;exact k.2 _ _ _ a b
theorem cH.Ao {W:Nat→Prop}{μ:Mu}{w:World}{c:AV}{cs:List AV}{vs:List Value}(h:cH W μ w (c::cs) vs):∃v us,vs=v::us∧cE W μ w c v∧cH W μ w cs us:=by
  cases vs with
  |nil=>simp[cH] at h
  | cons v us=>
    refine⟨v,us,rfl,h.2 0 c v rfl rfl,by simpa using h.1,fun j d u a b=>h.2 (j+1) d u (by simpa using a) (by simpa using b)⟩
theorem cH.ID {W:Nat→Prop}{μ:Mu}{w:World}{vs:List Value}(h:cH W μ w [] vs):vs=[]:=by
  cases vs with
  |nil=>rfl
  |cons v us=>simp[cH] at h
theorem cH.lits {W:Nat→Prop}{μ:Mu}{w:World}(vs:List Value):cH W μ w (vs.map .lit) vs:=
  ⟨by simp,fun j c v a b=>by
    rw[fI,b] at a
    simp at a;subst a;exact .lit⟩
theorem cH.Bn {W:Nat→Prop}{μ:Mu}{w:World}{xs vs:List Value}(h:cH W μ w (xs.map .lit) vs):vs=xs:=by
  induction xs generalizing vs with
  |nil=>exact h.ID
  | cons x xs ih=>
    obtain⟨v,us,rfl,hv,hu⟩:=cH.Ao (by simpa using h)
    cases hv
    rw[ih hu]
def AV.mw:AV→Bool
  |.any=>false
  |_=>true
theorem cE.cells {W:Nat→Prop}{μ:Mu}{w:World}{x:AV}{v:Value}(h:cE W μ w x v)(hx:x.mw=true):cH W μ w (Am.cells x) v.cells.toList:=by
  cases h with
  |any=>simp[AV.mw] at hx
  | lit=>
    cases v with
    |agg xs=>exact cH.lits xs.toList
    |_=>exact .cons .lit .nil
  |agg hl h=>simpa[Am.cells,Value.cells] using⟨hl,h⟩
  |guess h1 h2=>exact .cons (.guess h1 h2) .nil
  |emp=>exact .cons .emp .nil
  |slNil=>exact .cons .slNil .nil
  |sl a b c d e f g h=>exact .cons (.sl a b c d e f g h) .nil
  |own a b c d e f=>exact .cons (.own a b c d e f) .nil
  |ownNil a=>exact .cons (.ownNil a) .nil
  |ptr a b=>exact .cons (.ptr a b) .nil
  |mapr a b=>exact .cons (.mapr a b) .nil
  |fmap a b c d e f g h i=>exact .cons (.fmap a b c d e f g h i) .nil
  |fptr a b c d e=>exact .cons (.fptr a b c d e) .nil
  |tup a b=>exact .cons (.tup a b) .nil
  |clo a b c d=>exact .cons (.clo a b c d) .nil
def AV.one:AV→Bool
  |.any=>false
  |.agg _=>false
  |.tup _=>false
  |.lit x=>x.oneCell'
  |_=>true
theorem cE.one {W:Nat→Prop}{μ:Mu}{w:World}{x:AV}{v:Value}(h:cE W μ w x v)(hx:x.one=true):v.oneCell'=true:=by
  cases h<;>simp_all[AV.one,Value.oneCell']
theorem gM (a b:List AV):flat (a++b)=flat a++flat b:=by simp[flat]
theorem eW (a:AV)(b:List AV):flat (a::b)=cells a++flat b:=by simp[flat]
def bG (wd:Nat)(rows:List AV):Prop:=∀ (i:Nat) (r:AV),rows[i]? =some r→(cells r).length=wd
theorem bG.tail {wd:Nat}{r:AV}{rows:List AV}(h:bG wd (r::rows)):(cells r).length=wd∧bG wd rows:=
  ⟨h 0 r rfl,fun i s hs=>h (i+1) s (by simpa using hs)⟩
theorem bG.nil (wd:Nat):bG wd []:=fun i r h=>by simp at h
theorem bG.cons {wd:Nat}{r:AV}{rows:List AV}(h:(cells r).length=wd)(hs:bG wd rows):bG wd (r::rows):=fun i s h'=>by
  cases i with
  |zero=>simp at h';subst h';exact h
  |succ i=>exact hs i s (by simpa using h')
theorem bG.append {wd:Nat}{a b:List AV}(ha:bG wd a)(hb:bG wd b):bG wd (a++b):=fun i s h'=>by
  rw[List.getElem?_append] at h'
  split at h'
  ·exact ha _ _ h'
  ·exact hb _ _ h'
theorem bG.mem {wd:Nat}{a:List AV}(ha:bG wd a){r:AV}(hr:r∈a):(cells r).length=wd:=by
  obtain⟨i,hi⟩:=List.getElem?_of_mem hr
  exact ha i r hi
theorem bG.ja {wd:Nat}{a:List AV}(ha:∀r∈a,(cells r).length=wd):bG wd a:=fun _ _ h=>ha _ (bO h)
theorem bG.sub {wd:Nat}{a b:List AV}(ha:bG wd a)(h:∀r∈b,r∈a):bG wd b:=.ja fun r hr=>ha.mem (h r hr)
theorem cM {wd:Nat}:∀ {rows:List AV},bG wd rows→(flat rows).length=rows.length*wd
  |[],_=>by simp[flat]
  | r::rows,h=>by
    rw[eW,kf,h.tail.1,cM h.tail.2,List.length_cons,Nat.add_mul,Nat.one_mul,Nat.add_comm]
theorem eE {wd:Nat}:∀ {rows:List AV},bG wd rows→∀ {i k:Nat} {r c:AV},rows[i]? =some r→(cells r)[k]? =some c→(flat rows)[i*wd+k]? =some c
  |[],_,i,k,r,c,h,_=>by simp at h
  | s ::rows,hw,0,k,r,c,h,hk=>by
    simp at h;subst h
    have hlt:k< (cells s).length:=by
      rcases Nat.lt_or_ge k (cells s).length with h|h
      ·exact h
      ·rw[mD h] at hk;cases hk
    rw[eW,List.getElem?_append_left (by omega)];simpa using hk
  | s::rows,hw,i+1,k,r,c,h,hk=>by
    have:=eE hw.tail.2 (i:=i) (k:=k) (r:=r) (c:=c) (by simpa using h) hk
    rw[eW,List.getElem?_append_right (by rw[hw.tail.1,Nat.add_mul];omega),hw.tail.1]
    rw[show(i+1)*wd+k-wd=i*wd+k from by rw[Nat.add_mul];omega]
    exact this
theorem qo {wd:Nat}:∀ {rows:List AV},bG wd rows→∀ {q:Nat} {c:AV},(flat rows)[q]? =some c→∃i k r,q=i*wd+k∧rows[i]? =some r∧(cells r)[k]? =some c∧k<wd
  |[],_,q,c,h=>by simp[flat] at h
  | s ::rows,hw,q,c,h=>by
    rw[eW,List.getElem?_append] at h
    split at h
    · rename_i hq
      exact⟨0,q,s,by simp,by simp,h,by rw[←hw.tail.1];exact hq⟩
    · rename_i hq
      obtain⟨i,k,r,h1,h2,h3,h4⟩:=qo hw.tail.2 h
      rw[hw.tail.1] at h1 hq
      exact⟨i+1,k,r,by rw[Nat.add_mul];omega,by simpa using h2,h3,h4⟩
inductive MS where
  |free
  |dead
  |live (wd:Nat) (rows:List AV) (ro:Bool)
  deriving Inhabited
structure az where
  slots:Nat→AV
  mem:Nat→MS
def az.eval (σ:az):Operand→AV
  |.tmp t=>σ.slots t
  |.const v=>.lit v
  |.global g=>.lit (.pointer (some ⟨g,0,none⟩))
  |.func f=>.lit (.func (.func f) #[] #[])
def dg (s:Nat→AV):Option Tmp→AV→Nat→AV
  |none,_=>s
  |some d,x=>fun i=>if i=d then x else s i
def bk (m:Nat→MS):List (Nat×MS)→Nat→MS
  |[]=>m
  |(t,s)::r=>fun u=>if u=t then s else bk m r u
def az.zV (σ:az)(dst:Option Tmp)(x:AV)(ups:List (Nat×MS)):az:=⟨dg σ.slots dst x,bk σ.mem ups⟩
def iM (μ:Mu)(m:Nat→MS)(b:Nat):Prop:=∃t B wd rows,m t=.live wd rows false∧μ t=some B∧B.b=b∧B.virt=false
def Wr (W0:Nat→Prop)(μ:Mu)(m:Nat→MS)(b:Nat):Prop:=W0 b∨iM μ m b
structure eY (W:Nat→Prop) (μ:Mu) (w:World) (B:xI) (wd:Nat) (rows:List AV) (ro:Bool):Prop where
  width:B.wd=wd
  wide:bG wd rows
  blk:B.virt=false→B.mp=false→∃C e fz,w.heap[B.b]? =some (.cells C e fz)∧(ro=false→fz=(0,0))∧B.o+rows.length*wd≤C.size
  virt:B.virt=true→rows=[]
  cell:B.mp=false→∀ (q:Nat) (c:AV),(flat rows)[q]? =some c→∃v,w.cell? ⟨B.b,B.o+q,none⟩=some v∧cE W μ w c v
  vm:B.mp=true→B.virt=false
  map:B.mp=true→∃es clock,w.heap[B.b]? =some (.map es clock)∧MapKept.Stamped es clock∧es.size=rows.length∧es.size<maxLen∧(clock=es.size∧∀ (i:Nat) (e:MapEntry),es[i]? =some e→e.born=i)∧
    ∀ (i:Nat) (r:AV),rows[i]? =some r→∃k c e,r=.agg [k,c]∧es[i]? =some e∧(∀key,k=.lit key→e.key=key)∧∀x,c=.tup [x]→cE W μ w x e.val
theorem eY.Le {W:Nat→Prop}{μ:Mu}{w:World}{B:xI}{wd:Nat}{rows:List AV}{ro:Bool}(h:eY W μ w B wd rows ro)(hm:B.mp=true):∃es clock,w.heap[B.b]? =some (.map es clock)∧MapKept.Stamped es clock∧es.size=rows.length∧es.size<maxLen∧
    ∀ (i:Nat) (key:Value) (x:AV),rows[i]? =some (entry key x)→∃e,es[i]? =some e∧e.key=key∧cE W μ w x e.val:=by
  obtain⟨es,clock,h1,h2,h3,h4,_,h5⟩:=h.map hm
  refine⟨es,clock,h1,h2,h3,h4,fun i key x hr=>?_⟩
  obtain⟨k,c,e,k1,k2,k3,k4⟩:=h5 i _ hr
  simp only[entry,AV.agg.injEq,List.cons.injEq,and_true] at k1
  exact⟨e,k2,k3 key k1.1.symm,k4 x k1.2.symm⟩
theorem eY.lt {W:Nat→Prop}{μ:Mu}{w:World}{B:xI}{wd:Nat}{rows:List AV}{ro:Bool}(h:eY W μ w B wd rows ro)(hv:B.virt=false):B.b<w.heap.size:=by
  cases hm:B.mp with
  | false=>
    obtain⟨C,e,fz,h3,_⟩:=h.blk hv hm
    exact(Array.getElem?_eq_some_iff.1 h3).1
  | true=>
    obtain⟨es,clock,h3,_⟩:=h.map hm
    exact(Array.getElem?_eq_some_iff.1 h3).1
theorem eY.grow {W W':Nat→Prop}{μ μ':Mu}{w w':World}{B:xI}{wd:Nat}{rows:List AV}{ro:Bool}(g:Grow W μ w W' μ' w')(hb:B.virt=false→w'.heap[B.b]? =w.heap[B.b]?)
    (h:eY W μ w B wd rows ro):eY W' μ' w' B wd rows ro where
  width:=h.width
  wide:=h.wide
  blk hv hm:=by rw[hb hv];exact h.blk hv hm
  virt:=h.virt
  cell hm q c hq:=by
    obtain⟨v,h1,h2⟩:=h.cell hm q c hq
    have hv:B.virt=false:=by
      cases hv:B.virt with
      |false=>rfl
      |true=>rw[h.virt hv] at hq;simp[flat] at hq
    exact⟨v,by rw[World.cell?_of_block (w:=w) (hb hv)];exact h1,h2.grow g⟩
  vm:=h.vm
  map hm:=by
    obtain⟨es,clock,h1,h2,h3,h4,hb0,h5⟩:=h.map hm
    refine⟨es,clock,by rw[hb (h.vm hm)];exact h1,h2,h3,h4,hb0,fun i r hr=>?_⟩
    obtain⟨key,x,e,k1,k2,k3,k4⟩:=h5 i r hr
    exact⟨key,x,e,k1,k2,k3,fun y hy=>(k4 y hy).grow g⟩
theorem eY.real {W:Nat→Prop}{μ:Mu}{w:World}{B:xI}{wd:Nat}{rows:List AV}{ro:Bool}(h:eY W μ w B wd rows ro){i:Nat}{r:AV}(hr:rows[i]? =some r):B.virt=false:=by
  cases hv:B.virt with
  |false=>rfl
  |true=>rw[h.virt hv] at hr;simp at hr
theorem eY.ro {W:Nat→Prop}{μ:Mu}{w:World}{B:xI}{wd:Nat}{rows:List AV}{ro:Bool}(h:eY W μ w B wd rows ro):eY W μ w B wd rows true:=
  ⟨h.width,h.wide,fun hv hm=>let⟨C,e,fz,a,_,c⟩:=h.blk hv hm;⟨C,e,fz,a,(fun h=>nomatch h),c⟩,h.virt,h.cell,h.vm,h.map⟩
def so (L:Mu)(b:Nat):Prop:=∃t B,L t=some B∧B.b=b∧B.virt=false
def LC (P:Program)(v:Value):Prop:=∃u ty,(P.cutTypes.find? (·.1== "internal/reflectlite.rtype")).map (·.2)=some u∧ty<P.types.size∧P.rowNamed ty [101,114,114,111,114]=true∧v=.iface u (.agg #[typeHandle P ty])
def kg (P:Program)(w:World)(L:Mu):Prop:=(∀g,P.globalNamed "no such variable" =some g→¬so L g∧g<w.heap.size∧∀c:Nat,c<256→w.cell? ⟨g,c,none⟩=some (.int .u8 (if Lib.isSp (UInt8.ofNat c) then 1 else 0)))∧
  ∀g,P.globalNamed "errors.errorType" =some g→¬so L g∧g<w.heap.size∧∃v,LC P v∧w.cell? ⟨g,0,none⟩=some v
def qM (D:Nat):Deferred:={target:=.collected D,args:= #[]}
def Marks (w0:World)(ds:List Deferred)(w:World):Prop:=(w0.drawn≠0→ds=[])∧∃Ds:List Nat,ds=Ds.map qM∧Ds.Nodup∧∀D∈Ds,w0.heap.size≤D∧w.heap[D]? =some (.deferred (some []))
theorem Marks.nil {w0 w:World}:Marks w0 [] w:=⟨fun _=>rfl,[],rfl,.nil,by simp⟩
theorem Marks.keep {w0 w w':World}{ds:List Deferred}(h:Marks w0 ds w)(k:∀D,w0.heap.size≤D→w.heap[D]? =some (.deferred (some []))→w'.heap[D]? =some (.deferred (some []))):Marks w0 ds w':=by
  obtain⟨h0,Ds,h1,h2,h3⟩:=h
  exact⟨h0,Ds,h1,h2,fun D hD=>⟨(h3 D hD).1,k D (h3 D hD).1 (h3 D hD).2⟩⟩
def j9:Nat:=1000000000
structure cB (P:Program) (N:Nat) (w0:World) (W0:Nat→Prop) (L μ:Mu) (σ:az) (a:Act) (w:World):Prop where
  tsize:a.tmps.size=N
  defers:Marks w0 a.defers w
  os:w.os=w0.os
  tape:w.tape=w0.tape
  output:w.output=w0.output
  hsize:w0.heap.size≤w.heap.size
  shp:∀b e n,w0.shape? b=some (e,n)→w.shape? b=some (e,n)
  keep:∀b,b<w0.heap.size→¬so L b→w.heap[b]? =w0.heap[b]?
  w0lt:∀b,W0 b→b<w0.heap.size
  lentμ:∀t B,t<j9→L t=some B→μ t=some B
  free:∀t,σ.mem t=.free↔μ t=none
  slots:∀i,cE (Wr W0 μ σ.mem) μ w (σ.slots i) (a.tmps.getD i undef)
  objs:∀t wd rows ro,σ.mem t=.live wd rows ro→∃B,μ t=some B∧eY (Wr W0 μ σ.mem) μ w B wd rows ro
  inj:∀t t' wd rows wd' rows' ro' B B',t≠t'→σ.mem t=.live wd rows false→σ.mem t'=.live wd' rows' ro'→μ t=some B→μ t'=some B'→B.virt=false→B'.virt=false→B.b≠B'.b
  out:∀t wd rows ro B,σ.mem t=.live wd rows ro→μ t=some B→B.virt=false→¬W0 B.b∧(ro=false→w0.heap.size≤B.b∨so L B.b)
  tabs:kg P w0 L
section
variable {P : Program} {N : Nat} {w0 : World} {W0 : Nat → Prop} {L μ : Mu} {σ : az} {a : Act} {w : World}
theorem cB.qm (h:cB P N w0 W0 L μ σ a w){L':Mu}(hL:∀b,so L' b→w0.heap.size≤b∨so L b):kg P w L':=by
  refine⟨fun g hg=>?_,fun g hg=>?_⟩
  · obtain⟨h1,h2,h3⟩:=h.tabs.1 g hg
    refine⟨fun hl=>?_,jT h2 h.hsize,fun c hc=>?_⟩
    · rcases hL g hl with k|k
      ·omega
      ·exact h1 k
    · rw[←h3 c hc]
      simp only[World.cell?,h.keep g h2 h1]
  · obtain⟨h1,h2,v,h3,h4⟩:=h.tabs.2 g hg
    refine⟨fun hl=>?_,jT h2 h.hsize,v,h3,?_⟩
    · rcases hL g hl with k|k
      ·omega
      ·exact h1 k
    · rw[←h4]
      simp only[World.cell?,h.keep g h2 h1]
theorem cB.eval (h:cB P N w0 W0 L μ σ a w)(x:Operand):cE (Wr W0 μ σ.mem) μ w (σ.eval x) (a.eval x):=by
  cases x with
  |tmp t=>exact h.slots t
  |_=>exact .lit
theorem cB.put (h:cB P N w0 W0 L μ σ a w){dst:Option Tmp}{x:AV}{v:Value}(hx:cE (Wr W0 μ σ.mem) μ w x v)(hd:∀d,dst=some d→d<N):
    cB P N w0 W0 L μ ⟨dg σ.slots dst x,σ.mem⟩ (a.put dst v) w:=by
  cases dst with
  |none=>exact{h with}
  | some d=>
    have hd:=hd d rfl
    refine{h with tsize:=by simp[Act.put,h.tsize],slots:=fun i=>?_}
    simp only[dg,Act.put]
    by_cases hi:i=d
    · subst hi
      simp[Array.getD_eq_getD_getElem?,h.tsize,hd,hx]
    · simp only[if_neg hi]
      have:=h.slots i
      simpa[Array.getD_eq_getD_getElem?,Array.getElem?_setIfInBounds_ne (Ne.symm hi)] using this
theorem cB.grow (_h:cB P N w0 W0 L μ σ a w){m':Nat→MS}{μ':Mu}{w':World}(size:w.heap.size≤w'.heap.size)
    (jX:∀b,b<w.heap.size→¬iM μ σ.mem b→w'.heap[b]? =w.heap[b]?) (shape:∀b e n,w.shape? b=some (e,n)→w'.shape? b=some (e,n))
    (mu:∀t B,μ t=some B→μ' t=some B) (wr:∀b,b<w.heap.size→iM μ' m' b→iM μ σ.mem b):
    Grow (Wr W0 μ σ.mem) μ w (Wr W0 μ' m') μ' w' where
  size:=size
  blk b hb hl:=jX b hl (fun hm=>hb (.inr hm))
  shape:=shape
  wr b hl hw:=hw.imp id (wr b hl)
  mu:=mu
theorem eX {m':Nat→MS}{μ':Mu}(old:∀t wd rows ro B,m' t=.live wd rows ro→μ' t=some B→B.virt=false→w.heap.size≤B.b∨∃t1 wd1 rows1 ro1 B1,σ.mem t1=.live wd1 rows1 ro1∧μ t1=some B1∧B1.b=B.b∧B1.virt=false∧(ro=false→ro1=false)):
    ∀b,b<w.heap.size→iM μ' m' b→iM μ σ.mem b:=by
  rintro b hb ⟨t,B,wd,rows,h1,h2,rfl,hv⟩
  rcases old t wd rows false B h1 h2 hv with h|⟨t',wd',rows',ro',B',k1,k2,k3,kv,k4⟩
  ·omega
  ·rw[k4 rfl] at k1;exact⟨t',B',wd',rows',k1,k2,k3,kv⟩
theorem cB.step (h:cB P N w0 W0 L μ σ a w){m':Nat→MS}{μ':Mu}{w':World}(size:w.heap.size≤w'.heap.size)
    (hos:w'.os=w.os) (htape:w'.tape=w.tape) (hout:w'.output=w.output)
    (jX:∀b,b<w.heap.size→¬iM μ σ.mem b→w'.heap[b]? =w.heap[b]?) (shape:∀b e n,w.shape? b=some (e,n)→w'.shape? b=some (e,n))
    (mu:∀t B,μ t=some B→μ' t=some B)
    (old:∀t wd rows ro B,m' t=.live wd rows ro→μ' t=some B→B.virt=false→w.heap.size≤B.b∨∃t1 wd1 rows1 ro1 B1,σ.mem t1=.live wd1 rows1 ro1∧μ t1=some B1∧B1.b=B.b∧B1.virt=false∧(ro=false→ro1=false))
    (free:∀t,m' t=.free↔μ' t=none)
    (objs:∀t wd rows ro,m' t=.live wd rows ro→∃B,μ' t=some B∧eY (Wr W0 μ' m') μ' w' B wd rows ro)
    (inj:∀t t' wd rows wd' rows' ro' B B',t≠t'→m' t=.live wd rows false→m' t'=.live wd' rows' ro'→μ' t=some B→μ' t'=some B'→B.virt=false→B'.virt=false→B.b≠B'.b):
    cB P N w0 W0 L μ' ⟨σ.slots,m'⟩ a w' where
  tabs:=h.tabs
  tsize:=h.tsize
  defers:=h.defers.keep fun D _ h2=>by
    rw[jX D (Array.getElem?_eq_some_iff.1 h2).1 ?_];exact h2
    rintro⟨t,B,wd,rows,m1,m2,rfl,hv⟩
    obtain⟨B',hB',hobj⟩:=h.objs t wd rows false m1
    rw[m2] at hB';cases hB'
    cases hmp:B.mp with
    |false=>obtain⟨C,e,fz,h3,_⟩:=hobj.blk hv hmp;rw[h2] at h3;cases h3
    |true=>obtain⟨es,clock,h3,_⟩:=hobj.map hmp;rw[h2] at h3;cases h3
  os:=hos.trans h.os
  tape:=htape.trans h.tape
  output:=hout.trans h.output
  hsize:=Nat.le_trans h.hsize size
  shp b e n hb:=shape b e n (h.shp b e n hb)
  keep b hb hl:=by
    rw[jX b (jT hb h.hsize),h.keep b hb hl]
    rintro⟨t,B,wd,rows,h1,h2,rfl,hv⟩
    have:=(h.out t wd rows false B h1 h2 hv).2 rfl
    rcases this with h'|h'
    ·omega
    ·exact hl h'
  w0lt:=h.w0lt
  lentμ t B hb h1:=mu t B (h.lentμ t B hb h1)
  free:=free
  slots i:=(h.slots i).grow (h.grow size jX shape mu (eX old))
  objs:=objs
  inj:=inj
  out t wd rows ro B h1 h2 hv:=by
    rcases old t wd rows ro B h1 h2 hv with hb|⟨t',wd',rows',ro',B',k1,k2,k3,kv,k4⟩
    · refine⟨fun hw=>?_,fun _=>.inl ?_⟩
      ·have:=h.w0lt _ hw;have:=h.hsize;omega
      ·have:=h.hsize;omega
    · rw[←k3]
      have:=h.out t' wd' rows' ro' B' k1 k2 kv
      exact⟨this.1,fun hr=>this.2 (k4 hr)⟩
theorem cB.drawn (h:cB P N w0 W0 L μ σ a w)(n:Nat):cB P N w0 W0 L μ σ a {w with drawn:=n}:=by
  have g:Grow (Wr W0 μ σ.mem) μ w (Wr W0 μ σ.mem) μ {w with drawn:=n}:=⟨Nat.le_refl _,fun _ _ _=>rfl,fun _ _ _ h=>h,fun _ _ h=>h,fun _ _ h=>h⟩
  exact{h with slots:=fun i=>(h.slots i).grow g,objs:=fun t wd rows ro ht=>let⟨B,h1,h2⟩:=h.objs t wd rows ro ht;⟨B,h1,h2.grow g fun _=>rfl⟩}
theorem cB.dO (h:cB P N w0 W0 L μ σ a w){t wd:Nat}{rows:List AV}{ro:Bool}{B:xI}(ht:σ.mem t=.live wd rows ro)(hB:μ t=some B)(hv:B.virt=false):B.b<w.heap.size:=by
  obtain⟨B',h1,h2⟩:=h.objs t wd rows ro ht
  rw[hB] at h1;cases h1
  exact h2.lt hv
def bq (μ:Mu)(t:Nat)(B:xI):Mu:=fun u=>if u=t then some B else μ u
theorem kD {w:World}{o:Obj}{b:Nat}{e:TypeId}{n:Nat}(h:w.shape? b=some (e,n)):(w.alloc o).shape? b=some (e,n):=by
  have hb:b<w.heap.size:=by
    rcases Nat.lt_or_ge b w.heap.size with h'|h'
    ·exact h'
    ·simp[World.shape?,Array.getElem?_eq_none h'] at h
  simpa only[World.shape?,heap_alloc_old w o hb] using h
theorem cB.alloc (h:cB P N w0 W0 L μ σ a w){t wd:Nat}{rows:List AV}{C:Array Value}{e:TypeId}(ht:σ.mem t=.free)(hw:bG wd rows)(hs:rows.length*wd≤C.size)
    (hc:∀ (q:Nat) (c:AV),(flat rows)[q]? =some c→∃v,C[q]? =some v∧cE (Wr W0 μ σ.mem) μ w c v):
    cB P N w0 W0 L (bq μ t ⟨w.heap.size,0,wd,false,false⟩) ⟨σ.slots,bk σ.mem [(t,.live wd rows false)]⟩ a (w.alloc (.cells C e)):=by
  have hmt:μ t=none:=(h.free t).1 ht
  have size:w.heap.size≤ (w.alloc (.cells C e)).heap.size:=by simp
  have jX:∀b,b<w.heap.size→¬iM μ σ.mem b→(w.alloc (.cells C e)).heap[b]? =w.heap[b]? :=fun b hb _=>heap_alloc_old w _ hb
  have mu:∀u B,μ u=some B→bq μ t ⟨w.heap.size,0,wd,false,false⟩ u=some B:=fun u B hu=>by
    have:u≠t:=fun e=>by rw[e,hmt] at hu;cases hu
    simp[bq,this,hu]
  have old:∀u wd' rows' ro B,bk σ.mem [(t,.live wd rows false)] u=.live wd' rows' ro→bq μ t ⟨w.heap.size,0,wd,false,false⟩ u=some B→B.virt=false→w.heap.size≤B.b∨
      ∃t1 wd1 rows1 ro1 B1,σ.mem t1=.live wd1 rows1 ro1∧μ t1=some B1∧B1.b=B.b∧B1.virt=false∧(ro=false→ro1=false):=by
    intro u wd' rows' ro B h1 h2 hv
    by_cases hu:u=t
    ·subst hu;simp[bq] at h2;subst h2;exact .inl (Nat.le_refl _)
    · simp[bk,hu] at h1;simp[bq,hu] at h2
      exact .inr ⟨u,wd',rows',ro,B,h1,h2,rfl,hv,id⟩
  have g:=h.grow size jX (fun b e n=>kD) mu (eX old)
  refine h.step size rfl rfl rfl jX (fun b e n=>kD) mu old (fun u=>?_) (fun u wd' rows' ro hu=>?_) ?_
  · by_cases hu:u=t
    ·subst hu;simp[bk,bq]
    ·simp[bk,bq,hu,h.free u]
  · by_cases hut:u=t
    · subst hut
      simp[bk] at hu
      obtain⟨rfl,rfl,rfl⟩:=hu
      refine⟨⟨w.heap.size,0,wd,false,false⟩,by simp[bq],rfl,hw,fun _ _=>⟨C,e,(0,0),heap_alloc_new w _,fun _=>rfl,by simpa using hs⟩,(fun h=>nomatch h),fun _ q c hq=>?_,(fun h=>nomatch h),(fun h=>nomatch h)⟩
      obtain⟨v,h1,h2⟩:=hc q c hq
      exact⟨v,by simp[World.cell?_alloc_new,h1],h2.grow g⟩
    · simp[bk,hut] at hu
      obtain⟨B,h1,h2⟩:=h.objs u wd' rows' ro hu
      exact⟨B,mu u B h1,h2.grow g fun hv=>heap_alloc_old w _ (h.dO hu h1 hv)⟩
  · intro u u' wd1 r1 wd2 r2 ro2 B B' hne h1 h2 h3 h4 v1 v2
    by_cases hu:u=t
    · subst hu
      simp[bq] at h3;subst h3
      have hu':u'≠u:=fun e=>hne e.symm
      simp[bk,hu'] at h2;simp[bq,hu'] at h4
      have:=h.dO h2 h4 v2
      simp;omega
    · simp[bk,hu] at h1;simp[bq,hu] at h3
      by_cases hu':u'=t
      · subst hu'
        simp[bq] at h4;subst h4
        have:=h.dO h1 h3 v1
        simp;omega
      · simp[bk,hu'] at h2;simp[bq,hu'] at h4
        exact h.inj u u' wd1 r1 wd2 r2 ro2 B B' hne h1 h2 h3 h4 v1 v2
theorem cB.setObj (h:cB P N w0 W0 L μ σ a w){t wd:Nat}{rows rows':List AV}{B:xI}{C C':Array Value}{e:TypeId}(ht:σ.mem t=.live wd rows false)(hB:μ t=some B)(hv:B.virt=false)(hmp:B.mp=false)
    (hC:w.heap[B.b]? =some (.cells C e (0,0))) (hsz:C'.size=C.size) (hl:rows'.length=rows.length) (hw:bG wd rows')
    (hc:∀ (q:Nat) (c:AV),(flat rows')[q]? =some c→∃v,C'[B.o+q]? =some v∧cE (Wr W0 μ σ.mem) μ w c v):
    cB P N w0 W0 L μ ⟨σ.slots,bk σ.mem [(t,.live wd rows' false)]⟩ a (w.setRow B.b C'):=by
  have hheap:(w.setRow B.b C').heap[B.b]? =some (.cells C' e (0,0)):=setRow_heap w B.b C C' e (0,0) hC
  have size:w.heap.size≤ (w.setRow B.b C').heap.size:=by simp
  have jX:∀b,b<w.heap.size→¬iM μ σ.mem b→(w.setRow B.b C').heap[b]? =w.heap[b]? :=fun b _ hm=>by
    refine setRow_other w B.b b C' fun e=>hm ⟨t,B,wd,rows,ht,hB,e.symm,hv⟩
  have shape:∀b e n,w.shape? b=some (e,n)→(w.setRow B.b C').shape? b=some (e,n):=fun b e' n hs=>by
    by_cases hb:b=B.b
    ·subst hb;simp[World.shape?,hC] at hs;simp[World.shape?,hheap,hsz,hs]
    ·simpa[World.shape?,setRow_other w B.b b C' hb] using hs
  have old:∀u wd' rows'' ro B',bk σ.mem [(t,.live wd rows' false)] u=.live wd' rows'' ro→μ u=some B'→B'.virt=false→w.heap.size≤B'.b∨
      ∃t1 wd1 rows1 ro1 B1,σ.mem t1=.live wd1 rows1 ro1∧μ t1=some B1∧B1.b=B'.b∧B1.virt=false∧(ro=false→ro1=false):=by
    intro u wd' rows'' ro B' h1 h2 hv'
    by_cases hu:u=t
    ·subst hu;rw[hB] at h2;cases h2;exact .inr ⟨u,wd,rows,false,B,ht,hB,rfl,hv,fun _=>rfl⟩
    ·simp[bk,hu] at h1;exact .inr ⟨u,wd',rows'',ro,B',h1,h2,rfl,hv',id⟩
  have g:=h.grow size jX shape (fun _ _ h=>h) (eX old)
  obtain⟨B0,hB0,hobj⟩:=h.objs t wd rows false ht
  rw[hB] at hB0;cases hB0
  refine h.step size rfl rfl rfl jX shape (fun _ _ h=>h) old (fun u=>?_) (fun u wd' rows'' ro hu=>?_) ?_
  · by_cases hu:u=t
    ·subst hu;simp[bk,hB]
    ·simp[bk,hu,h.free u]
  · by_cases hut:u=t
    · subst hut
      simp[bk] at hu
      obtain⟨rfl,rfl,rfl⟩:=hu
      obtain⟨C0,e0,fz,k1,k2,k3⟩:=hobj.blk hv hmp
      rw[hC] at k1;cases k1
      refine⟨B,hB,hobj.width,hw,fun _ _=>⟨C',e,(0,0),hheap,fun _=>rfl,by rw[hl,hsz];exact k3⟩,(fun h=>by rw[hv] at h;cases h),fun _ q c hq=>?_,(fun h=>by rw[hmp] at h;cases h),(fun h=>by rw[hmp] at h;cases h)⟩
      obtain⟨v,h1,h2⟩:=hc q c hq
      exact⟨v,by simp[World.cell?,hheap,h1],h2.grow g⟩
    · simp[bk,hut] at hu
      obtain⟨B',h1,h2⟩:=h.objs u wd' rows'' ro hu
      exact⟨B',h1,h2.grow g fun hv'=>(setRow_other w B.b B'.b C' (fun e=>h.inj t u wd rows wd' rows'' ro B B' (fun e=>hut e.symm) ht hu hB h1 hv hv' e.symm))⟩
  · intro u u' wd1 r1 wd2 r2 ro2 B1 B2 hne h1 h2 h3 h4 v1 v2
    have f1:∃wd r,σ.mem u=.live wd r false:=by
      by_cases hu:u=t
      ·subst hu;exact⟨_,_,ht⟩
      ·simp[bk,hu] at h1;exact⟨_,_,h1⟩
    have f2:∃wd r ro,σ.mem u'=.live wd r ro:=by
      by_cases hu:u'=t
      ·subst hu;exact⟨_,_,_,ht⟩
      ·simp[bk,hu] at h2;exact⟨_,_,_,h2⟩
    obtain⟨x1,y1,f1⟩:=f1
    obtain⟨x2,y2,z2,f2⟩:=f2
    exact h.inj u u' _ _ _ _ _ B1 B2 hne f1 f2 h3 h4 v1 v2
theorem cB.drop (h:cB P N w0 W0 L μ σ a w){m':Nat→MS}
    (hm:∀t,m' t=σ.mem t∨(m' t=.dead∧σ.mem t≠ .free)∨∃wd rows ro,σ.mem t=.live wd rows ro∧m' t=.live wd rows true):
    cB P N w0 W0 L μ ⟨σ.slots,m'⟩ a w:=by
  have old:∀t wd rows ro,m' t=.live wd rows ro→∃ro',σ.mem t=.live wd rows ro'∧(ro=false→ro'=false):=by
    intro t wd rows ro ht
    rcases hm t with h1|⟨h1,_⟩|⟨wd',rows',ro',h1,h2⟩
    ·exact⟨ro,by rw[←h1];exact ht,id⟩
    ·rw[h1] at ht;cases ht
    ·rw[h2] at ht;cases ht;exact⟨ro',h1,fun h=>by cases h⟩
  have old':∀t wd rows ro B,m' t=.live wd rows ro→μ t=some B→B.virt=false→w.heap.size≤B.b∨∃t1 wd1 rows1 ro1 B1,σ.mem t1=.live wd1 rows1 ro1∧μ t1=some B1∧B1.b=B.b∧B1.virt=false∧(ro=false→ro1=false):=by
    intro t wd rows ro B h1 h2 hv
    obtain⟨ro',k1,k2⟩:=old t wd rows ro h1
    exact .inr ⟨t,wd,rows,ro',B,k1,h2,rfl,hv,k2⟩
  have g:=h.grow (w':=w) (Nat.le_refl _) (fun _ _ _=>rfl) (fun _ _ _ h=>h) (fun _ _ h=>h) (eX old')
  refine h.step (Nat.le_refl _) rfl rfl rfl (fun _ _ _=>rfl) (fun _ _ _ h=>h) (fun _ _ h=>h) old' (fun t=>?_) (fun t wd rows ro ht=>?_) ?_
  · rw[←h.free t]
    rcases hm t with h1|⟨h1,h2⟩|⟨wd',rows',ro',h1,h2⟩
    ·rw[h1]
    ·simp[h1,h2]
    ·simp[h1,h2]
  · obtain⟨ro',k1,k2⟩:=old t wd rows ro ht
    obtain⟨B,h1,h2⟩:=h.objs t wd rows ro' k1
    refine⟨B,h1,?_⟩
    have h3:=h2.grow g fun _=>rfl
    cases ro with
    |true=>exact h3.ro
    |false=>rw[k2 rfl] at h3;exact h3
  · intro u u' wd1 r1 wd2 r2 ro2 B1 B2 hne h1 h2 h3 h4 v1 v2
    obtain⟨x,k1,k2⟩:=old _ _ _ _ h1
    rw[k2 rfl] at k1
    obtain⟨y,k3,_⟩:=old _ _ _ _ h2
    exact h.inj u u' _ _ _ _ _ B1 B2 hne k1 k3 h3 h4 v1 v2
end
def pU (P:Program)(N:Nat)(o:Oper)(σ σ':az):Prop:=
  ∀ (w0:World) (W0:Nat→Prop) (L μ:Mu) (a:Act) (w:World) (K:Act→World→Prop) (Q:Exit→Act→World→Prop),cB P N w0 W0 L μ σ a w→
    (∀μ' a' w',cB P N w0 W0 L μ' σ' a' w'→K a' w')→o.wp P a w K Q
def aH (P:Program)(N:Nat)(o:Oper)(σ:az)(rd:List Nat)(v:AV)(ups:List (Nat×MS)):Prop:=
  ∀σ2:az,(∀x∈o.op.operands,σ2.eval x=σ.eval x)→(∀t∈rd,σ2.mem t=σ.mem t)→pU P N o σ2 (σ2.zV o.dst v ups)
structure j6 where
  o:Oper
  want:Bool
  σ:az
  rd:List Nat
  v:AV
  ups:List (Nat×MS)
def az.app (σ:az)(e:j6):az:=σ.zV e.o.dst e.v e.ups
def Holds (ops:Array Oper)(e:j6)(σ:az):Prop:=(∀s∈e.o.looksAt ops,σ.slots s=e.σ.slots s)∧∀t∈e.rd,σ.mem t=e.σ.mem t
def gv (v:Value)(b:Bool):Bool:=match v with
  |.bool c=>c==b
  |_=>false
def iX (N:Nat)(ops:Array Oper)(o:Oper)(σ:az)(want:Bool):Prop:=
  match o.guard with
  |none=>want=true
  |some (j,b)=> ∃d v,(ops[j]?).bind (·.dst)=some d∧d<N∧σ.slots d=.lit v∧want=gv v b
structure qc (P:Program) (N:Nat) (ops:Array Oper) (e:j6):Prop where
  wanted:iX N ops e.o e.σ e.want
  dst:∀d,e.o.dst=some d→d<N
  ok:e.want=true→aH P N e.o e.σ e.rd e.v e.ups
  no:e.want=false→e.v=.lit undef∧e.ups=[]
section
variable {P : Program} {N : Nat} {ops : Array Oper} {w0 : World} {W0 : Nat → Prop} {L μ : Mu} {σ : az} {a : Act} {w : World}
theorem uR (h:cB P N w0 W0 L μ σ a w){o:Oper}{want:Bool}(hw:iX N ops o σ want):Region.wanted o (yielded ops a.tmps)=want:=by
  unfold iX at hw
  unfold Region.wanted
  split at hw
  ·rename_i hg;simp[hg,hw]
  · rename_i j b hg
    obtain⟨d,c,h1,h2,h3,h4⟩:=hw
    have hs:=h.slots d
    rw[h3] at hs
    have hv:a.tmps.getD d undef=c:=by generalize a.tmps.getD d undef=v at hs;cases hs;rfl
    have hg':a.tmps[d]? =some c:=by
      have hlt:d<a.tmps.size:=by rw[h.tsize];exact h2
      simp[hlt] at hv ⊢
      exact hv
    simp only[hg,yielded,h1,Option.bind_some,hg',h4]
    unfold gv
    cases c with
    |bool c=>cases c<;>cases b<;>rfl
    |_=>rfl
theorem Holds.wanted {e:j6}(hh:Holds ops e σ){want:Bool}(hw:iX N ops e.o e.σ want):iX N ops e.o σ want:=by
  unfold iX at*
  cases hg:e.o.guard with
  |none=>simpa[hg] using hw
  | some jb=>
    obtain⟨j,b⟩:=jb
    simp only[hg] at hw ⊢
    obtain⟨d,c,h1,h2,h3,h4⟩:=hw
    refine⟨d,c,h1,h2,?_,h4⟩
    rw[hh.1 d (by simp[Oper.looksAt,hg,h1]),h3]
theorem Holds.eval {e:j6}(hh:Holds ops e σ):∀x∈e.o.op.operands,σ.eval x=e.σ.eval x:=by
  intro x hx
  cases x with
  |tmp t=>exact hh.1 t (List.mem_append_left _ (List.mem_filterMap.2 ⟨.tmp t,by simpa using hx,rfl⟩))
  |_=>rfl
theorem F4 {e:j6}(hg:qc P N ops e)(hh:Holds ops e σ)(h:cB P N w0 W0 L μ σ a w){K:Act→World→Prop}{Q:Exit→Act→World→Prop}
    (hK:∀μ' a' w',cB P N w0 W0 L μ' (σ.app e) a' w'→K a' w'):
    if Region.wanted e.o (yielded ops a.tmps) then e.o.wp P a w K Q∨(e.o.asks P a w∧LetsOut Q) else K (a.put e.o.dst undef) w:=by
  have hw:=uR h (hh.wanted hg.wanted)
  rw[hw]
  cases hwant:e.want with
  |true=>simp only[if_true];exact .inl (hg.ok hwant σ hh.eval hh.2 _ _ _ _ _ _ _ _ h hK)
  | false=>
    simp only[Bool.false_eq_true,if_false]
    obtain⟨h1,h2⟩:=hg.no hwant
    refine hK μ _ _ ?_
    unfold az.app az.zV
    rw[h1,h2]
    exact h.put .lit hg.dst
def iR (P:Program)(N:Nat)(ops:Array Oper):List Oper→az→(List j6→az→Prop)→Prop
  |[],σ,K=>K [] σ
  |o::rest,σ,K=> ∃e:j6,e.o=o∧e.σ=σ∧qc P N ops e∧iR P N ops rest (σ.app e) (fun es σ'=>K (e::es) σ')
theorem Holds.self {e:j6}:Holds ops e e.σ:=⟨fun _ _=>rfl,fun _ _=>rfl⟩
theorem iR.list {Q:Exit→Act→World→Prop}:∀ {l:List Oper} {σ:az} {K:List j6→az→Prop} {μ:Mu} {a:Act} {w:World},iR P N ops l σ K→cB P N w0 W0 L μ σ a w→
    (∀es σ',K es σ'→∀μ' a' w',cB P N w0 W0 L μ' σ' a' w'→Q .normal a' w')→wpList P ops Q l a w
  |[],σ,K,μ,a,w,h,hs,hK=>hK [] σ h μ a w hs
  | o::rest,σ,K,μ,a,w,h,hs,hK=>by
    obtain⟨e,rfl,rfl,hg,hr⟩:=h
    have:=F4 (K:=wpList P ops Q rest) (Q:=Q) hg Holds.self hs (fun μ' a' w' h'=>iR.list hr h' fun es σ' hk=>hK (e::es) σ' hk)
    unfold wpList
    exact this
def j0 (x y:List Nat×List Nat):Bool:=x.2.all (fun t=> !y.1.contains t&& !y.2.contains t)&&y.2.all (fun t=> !x.1.contains t)
def j6.toks (e:j6):List Nat×List Nat:=(e.rd,e.ups.map (·.1))
theorem nS {m:Nat→MS}{ups:List (Nat×MS)}{t:Nat}(h:t∉ups.map (·.1)):bk m ups t=m t:=by
  induction ups with
  |nil=>rfl
  | cons x r ih=>
    obtain⟨u,s⟩:=x
    simp at h
    simp only[bk]
    rw[if_neg h.1]
    exact ih (by simpa using h.2)
theorem Bs {m m':Nat→MS}{ups:List (Nat×MS)}{t:Nat}(h:t∈ups.map (·.1)):bk m ups t=bk m' ups t:=by
  induction ups with
  |nil=>simp at h
  | cons x r ih=>
    obtain⟨u,s⟩:=x
    simp only[bk]
    split
    ·rfl
    ·rename_i hne;exact ih (by simp at h;simpa using h.resolve_left hne)
theorem DK {s:Nat→AV}{d e:Option Tmp}{x y:AV}(h:∀i,d=some i→e≠some i):dg (dg s d x) e y=dg (dg s e y) d x:=by
  cases d with
  |none=>rfl
  | some d=>
    cases e with
    |none=>rfl
    | some e=>
      have hne:d≠e:=fun h'=>h d rfl (h'▸rfl)
      funext i
      simp only[dg]
      by_cases h1:i=d
      ·subst h1;simp[hne]
      ·simp[h1]
theorem og {x y:List Nat×List Nat}(h:j0 x y=true):(∀t∈x.2,t∉y.1)∧(∀t∈x.2,t∉y.2)∧(∀t∈y.2,t∉x.1):=by
  simp[j0] at h
  exact⟨fun t ht=>(h.1 t ht).1,fun t ht=>(h.1 t ht).2,fun t ht=>h.2 t ht⟩
theorem Ez {x y:j6}(hd:∀i,x.o.dst=some i→y.o.dst≠some i)(ht:j0 x.toks y.toks=true):(σ.app x).app y=(σ.app y).app x:=by
  obtain⟨_,h2,_⟩:=og ht
  unfold az.app az.zV
  simp only
  rw[DK hd]
  congr 1
  funext t
  by_cases hx:t∈x.ups.map (·.1)
  · have hy:t∉y.ups.map (·.1):=h2 t hx
    rw[nS hy,Bs (m':=bk σ.mem y.ups) hx]
  · rw[nS (ups:=x.ups) hx]
    by_cases hy:t∈y.ups.map (·.1)
    ·rw[Bs (m':=σ.mem) hy]
    ·rw[nS hy,nS hy,nS hx]
theorem Holds.app {x y:j6}(hs:∀d,x.o.dst=some d→d∉y.o.looksAt ops)(ht:∀t∈x.ups.map (·.1),t∉y.rd):Holds ops y (σ.app x)↔Holds ops y σ:=by
  unfold Holds
  have h1:∀s∈y.o.looksAt ops,(σ.app x).slots s=σ.slots s:=by
    intro s hm
    unfold az.app az.zV
    cases hd:x.o.dst with
    |none=>rfl
    | some d=>
      have:s≠d:=fun e=>hs d hd (e▸hm)
      simp[dg,this]
  have h2:∀t∈y.rd,(σ.app x).mem t=σ.mem t:=fun t hm=>nS (fun hx=>ht t hx hm)
  constructor
  · rintro⟨a,b⟩
    exact⟨fun s hm=>by rw[←h1 s hm,a s hm],fun t hm=>by rw[←h2 t hm,b t hm]⟩
  · rintro⟨a,b⟩
    exact⟨fun s hm=>by rw[h1 s hm,a s hm],fun t hm=>by rw[h2 t hm,b t hm]⟩
def El (ops:Array Oper)(es:List j6)(K:az→Prop):Nat→Array Bool→az→Prop
  |0,listed,σ=>Region.ready .any ops listed=[]∧K σ
  |fuel+1,listed,σ=>(Region.ready .any ops listed=[]→K σ)∧
      ∀i∈Region.ready .any ops listed,∃e,es[i]? =some e∧Holds ops e σ∧El ops es K fuel (listed.setIfInBounds i true) (σ.app e)
def Fits (P:Program)(N:Nat)(ops:Array Oper)(es:List j6):Prop:=∀ (i:Nat) (e:j6),es[i]? =some e→ops[i]? =some e.o∧qc P N ops e
def zI (ops:Array Oper)(ts:List (List Nat×List Nat)):Bool:=
  (List.range ts.length).all fun j=>(List.range j).all fun i=>
    (match ops[j]? with
     |some o=>o.after.any fun e=>Region.binds .any e&&e.on==i
     |none=>false)||j0 (ts.getD i ([],[])) (ts.getD j ([],[]))
theorem iR.trace {l:List Oper}:∀ {σ:az} {K:List j6→az→Prop},iR P N ops l σ K→∃es σ',K es σ'∧es.length=l.length∧(∀ (i:Nat) (e:j6),es[i]? =some e→l[i]? =some e.o∧qc P N ops e)∧
    (∀k,k≤l.length→∃σk,(k=0→σk=σ)∧(k=l.length→σk=σ')∧∀e,es[k]? =some e→e.σ=σk)∧
    (∀ (k:Nat) (e e':j6),es[k]? =some e→es[k+1]? =some e'→e'.σ=e.σ.app e)∧(∀e,es[0]? =some e→e.σ=σ)∧(∀e,es.getLast? =some e→σ'=e.σ.app e)∧(es=[]→σ'=σ):=by
  induction l with
  | nil=>
    intro σ K h
    exact⟨[],σ,h,rfl,by simp,fun k hk=>⟨σ,by simp,by simp,by simp⟩,by simp,by simp,by simp,by simp⟩
  | cons o rest ih=>
    intro σ K h
    obtain⟨e,rfl,rfl,hg,hr⟩:=h
    obtain⟨es,σ',h1,h2,h3,h4,h5,h6,h7,h8⟩:=ih hr
    refine⟨e::es,σ',h1,by simp[h2],?_,?_,?_,by simp,?_,by simp⟩
    · intro i e' hi
      cases i with
      |zero=>simp at hi;subst hi;exact⟨rfl,hg⟩
      |succ i=>exact h3 i e' (by simpa using hi)
    · intro k hk
      cases k with
      |zero=>exact⟨e.σ,fun _=>rfl,by simp,by simp⟩
      | succ k=>
        obtain⟨σk,a1,a2,a3⟩:=h4 k (by simpa using hk)
        exact⟨σk,by simp,fun h=>a2 (by simpa using h),fun e' he=>a3 e' (by simpa using he)⟩
    · intro k x y hx hy
      cases k with
      | zero=>
        simp at hx hy
        subst hx
        exact h6 y (by simpa using hy)
      |succ k=>exact h5 k x y (by simpa using hx) (by simpa using hy)
    · intro x hx
      cases es with
      |nil=>simp at hx;subst hx;exact h8 rfl
      |cons z zs=>exact h7 x (by simpa using hx)
end
theorem cT {l:List AV}:br l=true↔ ∀x∈l,bz x=true:=by
  induction l with
  |nil=>simp[br]
  |cons x xs ih=>simp[br,ih]
theorem iD {α:Type}(f:α→AV)(h:∀a,bz (f a)=true)(l:List α):br (l.map f)=true:=cT.2 fun x hx=>by
  obtain⟨a,_,rfl⟩:=List.mem_map.1 hx;exact h a
theorem mT {x c:AV}(h:bz x=true)(hc:c∈cells x):bz c=true:=by
  cases x with
  |agg cs=>simp only[bz] at h;exact cT.1 h c hc
  | lit v=>
    cases v with
    | agg xs=>
      simp only[cells,List.mem_map] at hc
      obtain⟨a,_,rfl⟩:=hc;rfl
    |_=>simp only[cells,gA] at hc;subst hc;rfl
  |_=>simp only[cells,gA] at hc;subst hc;exact h
theorem zY {rows:List AV}{c:AV}(h:br rows=true)(hc:c∈flat rows):bz c=true:=by
  simp only[flat,List.mem_flatMap] at hc
  obtain⟨x,h1,h2⟩:=hc
  exact mT (cT.1 h x h1) h2
theorem cE.bz {W W':Nat→Prop}{μ μ':Mu}{w:World}(hW:∀b,b<w.heap.size→W' b→W b){x:AV}{v:Value}(h:cE W μ w x v)(hx:Am.bz x=true):cE W' μ' w x v:=by
  induction h with
  |any=>exact .any
  |guess h1 h2=>exact .guess h1 h2
  |emp=>exact .emp
  |lit=>exact .lit
  |slNil=>exact .slNil
  |sl a b c d e f _ hnr ih=>exact .sl (fun h=>a (hW _ b h)) b c d e f (fun q c hq=>ih q c hq (hnr c (bO hq))) hnr
  |own=>simp[Am.bz] at hx
  |ownNil=>simp[Am.bz] at hx
  |ptr=>simp[Am.bz] at hx
  |mapr=>simp[Am.bz] at hx
  |fmap hW' hb h1 h2 h3 h4 h5 _ hn ih=>exact .fmap (fun h=>hW' (hW _ hb h)) hb h1 h2 h3 h4 h5 (fun i key x hi=>ih i key x hi (by have:=hn _ (bO hi);simpa[entry,Am.bz,br] using this)) hn
  |fptr a b c _ hnr ih=>exact .fptr (fun h=>a (hW _ b h)) b c (fun q c hq=>ih q c hq (hnr c (bO hq))) hnr
  |agg a _ ih=>exact .agg a (fun j c v h1 h2=>ih j c v h1 h2 (cT.1 (by simpa[Am.bz] using hx) c (bO h1)))
  |tup a _ ih=>exact .tup a (fun j c v h1 h2=>ih j c v h1 h2 (cT.1 (by simpa[Am.bz] using hx) c (bO h1)))
  | clo a b _ _ ih1 ih2=>
    simp[Am.bz] at hx
    exact .clo a b (fun j c v h1 h2=>ih1 j c v h1 h2 (cT.1 hx.1 c (bO h1))) (fun j c v h1 h2=>ih2 j c v h1 h2 (cT.1 hx.2 c (bO h1)))
inductive Cv (m:Nat→MS) (ρ:Nat→Nat) (D F:Nat→Prop):AV→AV→Prop
  |any {y}:Cv m ρ D F .any y
  |same {x}:bz x=true→Cv m ρ D F x x
  |own {t o l}:D t→Cv m ρ D F (.own t o l) (.own (ρ t) o l)
  |ptr {t i k}:D t→Cv m ρ D F (.ptr t i k) (.ptr (ρ t) i k)
  |mapr {t}:D t→Cv m ρ D F (.mapr t) (.mapr (ρ t))
  |fmap {s wd rows rows' ro}:F s→m s=.live wd rows ro→rows'.length=rows.length→(∀ (i:Nat) (r':AV),rows'[i]? =some r'→∃key x' x,r'=entry key x'∧rows[i]? =some (entry key x))→
      (∀ (i:Nat) (key key':Value) (x' x:AV),rows'[i]? =some (entry key' x')→rows[i]? =some (entry key x)→Cv m ρ D F x' x)→(∀r∈rows',bz r=true)→Cv m ρ D F (.fmap rows') (.mapr s)
  |nil {wd}:Cv m ρ D F (.sl wd []) (.lit (.slice none 0 0))
  |nilE:Cv m ρ D F .emp (.lit (.slice none 0 0))
  |empS {wd}:Cv m ρ D F (.sl wd []) .emp
  |frz {s off len wd rows rows' ro}:F s→m s=.live wd rows ro→bG wd rows'→off+len≤rows.length→rows'.length=len→
      (∀ (q:Nat) (c d:AV),(flat rows')[q]? =some c→(flat ((rows.drop off).take len))[q]? =some d→Cv m ρ D F c d)→(∀c∈flat rows',bz c=true)→Cv m ρ D F (.sl wd rows') (.own s off len)
  |frzp {s i k wd rows ro r r'}:F s→m s=.live wd rows ro→rows[i]? =some r→(cells r').length=wd→
      (∀ (q:Nat) (c d:AV),(cells r')[q]? =some c→(cells r)[q]? =some d→Cv m ρ D F c d)→(∀c∈cells r',bz c=true)→Cv m ρ D F (.fptr r' k) (.ptr s i k)
  |agg {cs ds:List AV}:cs.length=ds.length→(∀ (q:Nat) (c d:AV),cs[q]? =some c→ds[q]? =some d→Cv m ρ D F c d)→Cv m ρ D F (.agg cs) (.agg ds)
  |tup {cs ds:List AV}:cs.length=ds.length→(∀ (q:Nat) (c d:AV),cs[q]? =some c→ds[q]? =some d→Cv m ρ D F c d)→Cv m ρ D F (.tup cs) (.tup ds)
  |clo {f:Fn} {as bs cs ds:List AV}:as.length=bs.length→cs.length=ds.length→(∀ (q:Nat) (c d:AV),as[q]? =some c→bs[q]? =some d→Cv m ρ D F c d)→
      (∀ (q:Nat) (c d:AV),cs[q]? =some c→ds[q]? =some d→Cv m ρ D F c d)→Cv m ρ D F (.clo f as cs) (.clo f bs ds)
def gR (m:Nat→MS)(ρ:Nat→Nat)(D F:Nat→Prop)(cs ds:List AV):Prop:=cs.length=ds.length∧∀ (q:Nat) (c d:AV),cs[q]? =some c→ds[q]? =some d→Cv m ρ D F c d
section
variable {m : Nat → MS} {ρ : Nat → Nat} {D F : Nat → Prop}
theorem gR.nil:gR m ρ D F [] []:=⟨rfl,by simp⟩
theorem gR.cons {c d:AV}{cs ds:List AV}(h:Cv m ρ D F c d)(hs:gR m ρ D F cs ds):gR m ρ D F (c::cs) (d::ds):=
  ⟨by simp[hs.1],fun q x y h1 h2=>by
    cases q with
    |zero=>simp at h1 h2;subst h1;subst h2;exact h
    |succ q=>exact hs.2 q x y (by simpa using h1) (by simpa using h2)⟩
theorem gR.same {cs:List AV}(h:br cs=true):gR m ρ D F cs cs:=
  ⟨rfl,fun q x y h1 h2=>by rw[h1] at h2;cases h2;exact .same (cT.1 h x (bO h1))⟩
theorem Cv.uk {cs ds:List AV}(h:gR m ρ D F cs ds):Cv m ρ D F (.agg cs) (.agg ds):=.agg h.1 h.2
theorem Cv.uB {cs ds:List AV}(h:gR m ρ D F cs ds):Cv m ρ D F (.tup cs) (.tup ds):=.tup h.1 h.2
theorem Cv.JO {f:Fn}{as bs cs ds:List AV}(h:gR m ρ D F as bs)(h':gR m ρ D F cs ds):Cv m ρ D F (.clo f as cs) (.clo f bs ds):=.clo h.1 h'.1 h.2 h'.2
theorem gR.append {a b c d:List AV}(h:gR m ρ D F a b)(k:gR m ρ D F c d):gR m ρ D F (a++c) (b++d):=by
  refine⟨by simp[h.1,k.1],fun q x y h1 h2=>?_⟩
  rw[List.getElem?_append] at h1 h2
  rw[←h.1] at h2
  split at h1
  ·rename_i hq;rw[if_pos hq] at h2;exact h.2 _ _ _ h1 h2
  ·rename_i hq;rw[if_neg hq] at h2;exact k.2 _ _ _ h1 h2
theorem Cv.cells {x y:AV}(h:Cv m ρ D F x y)(hl:(Am.cells x).length=(Am.cells y).length):gR m ρ D F (Am.cells x) (Am.cells y):=by
  cases h with
  |same hx=>exact⟨rfl,fun q c d h1 h2=>by rw[h1] at h2;cases h2;exact .same (mT hx (bO h1))⟩
  |agg a b=>exact⟨a,b⟩
  | any=>
    refine⟨hl,fun q c d h1 h2=>?_⟩
    simp[Am.cells] at h1
    have:q=0:=by
      rcases q with _|q
      ·rfl
      ·simp at h1
    subst this;simp at h1;subst h1;exact .any
  |own a=>exact .cons (.own a) .nil
  |ptr a=>exact .cons (.ptr a) .nil
  |mapr a=>exact .cons (.mapr a) .nil
  |fmap a b c d e f=>exact .cons (.fmap a b c d e f) .nil
  |nil=>exact .cons .nil .nil
  |nilE=>exact .cons .nilE .nil
  |empS=>exact .cons .empS .nil
  |frz a b c d e f g=>exact .cons (.frz a b c d e f g) .nil
  |frzp a b c d e f=>exact .cons (.frzp a b c d e f) .nil
  |tup a b=>exact .cons (.tup a b) .nil
  |clo a b c d=>exact .cons (.clo a b c d) .nil
theorem gR.flat {cs ds:List AV}{wd:Nat}(h:gR m ρ D F cs ds)(h1:bG wd cs)(h2:bG wd ds):gR m ρ D F (Am.flat cs) (Am.flat ds):=by
  induction cs generalizing ds with
  | nil=>
    cases ds with
    |nil=>exact .nil
    |cons d ds=>simp[gR] at h
  | cons c cs ih=>
    cases ds with
    |nil=>simp[gR] at h
    | cons d ds=>
      rw[eW,eW]
      exact((h.2 0 c d rfl rfl).cells (by rw[h1.tail.1,h2.tail.1])).append (ih ⟨by simpa using h.1,fun q x y a b=>h.2 (q+1) x y (by simpa using a) (by simpa using b)⟩ h1.tail.2 h2.tail.2)
theorem Cv.D1 {s off len wd:Nat}{rows rows':List AV}{ro:Bool}(hF:F s)(hm:m s=.live wd rows ro)(hw:bG wd rows')(hw2:bG wd rows)(hl:off+len≤rows.length)
    (h:gR m ρ D F rows' ((rows.drop off).take len)) (hn:br rows'=true):Cv m ρ D F (.sl wd rows') (.own s off len):=
  .frz hF hm hw hl (by rw[h.1,gh,List.length_drop];omega) ((h.flat hw (hw2.sub fun r hr=>List.mem_of_mem_drop (List.mem_of_mem_take hr))).2) (fun c hc=>zY hn hc)
end
theorem lz {wd:Nat}:∀ {rows:List AV} {off:Nat},bG wd rows→flat (rows.drop off)=(flat rows).drop (off*wd)
  |[],off,_=>by simp[flat]
  |r::rows,0,_=>by simp
  | r::rows,off+1,h=>by
    rw[List.drop_succ_cons,lz h.tail.2,eW,Nat.add_mul,Nat.one_mul,List.drop_append,h.tail.1,List.drop_eq_nil_of_le (as:=cells r) (by rw[h.tail.1];omega),List.nil_append]
    congr 1;omega
theorem kV {wd:Nat}:∀ {rows:List AV} {n:Nat},bG wd rows→flat (rows.take n)=(flat rows).take (n*wd)
  |[],n,_=>by simp[flat]
  |r::rows,0,_=>by simp[flat]
  | r::rows,n+1,h=>by
    rw[List.take_succ_cons,eW,eW,kV h.tail.2,Nat.add_mul,Nat.one_mul,List.take_append,h.tail.1,qL (l:=cells r) (by rw[h.tail.1];omega)]
    congr 2;omega
theorem ld {wd:Nat}{rows:List AV}(h:bG wd rows){off len q:Nat}{c:AV}(hc:(flat ((rows.drop off).take len))[q]? =some c):(flat rows)[off*wd+q]? =some c:=by
  rw[kV (wd:=wd) (h.sub fun r hr=>List.mem_of_mem_drop hr),lz h,List.getElem?_take] at hc
  split at hc
  ·simpa using hc
  ·cases hc
theorem Cv.rep {W W':Nat→Prop}{μ μ':Mu}{w:World}{m:Nat→MS}{ρ:Nat→Nat}{D F:Nat→Prop}
    (objs:∀t wd rows ro,m t=.live wd rows ro→∃B,μ t=some B∧eY W μ w B wd rows ro)
    (hW:∀b,b<w.heap.size→W' b→W b) (hD:∀t,D t→μ' t=μ (ρ t)) (hF:∀s B,F s→μ s=some B→B.virt=false→¬W' B.b)
    {x y:AV} (h:Cv m ρ D F x y):∀ {v:Value},cE W μ w y v→cE W' μ' w x v:=by
  induction h with
  |any=>intro v _;exact .any
  |same hx=>intro v h;exact h.bz hW hx
  | own ht=>
    intro v h
    cases h with
    |own a b p c d e=>exact .own (by rw[hD _ ht];exact a) b p c d e
    |ownNil a=>exact .ownNil (by rw[hD _ ht];exact a)
  | ptr ht=>
    intro v h
    cases h with
    |ptr a p=>exact .ptr (by rw[hD _ ht];exact a) p
  | mapr ht=>
    intro v h
    cases h with
    |mapr a p=>exact .mapr (by rw[hD _ ht];exact a) p
  | @fmap s wd rows rows' ro hs hm hl hk hc hn ih=>
    intro v h
    obtain⟨B,hB,hobj⟩:=objs s wd rows ro hm
    cases h with
    | mapr a p=>
      rw[hB] at a;cases a
      have hv:=hobj.vm p
      obtain⟨es,clock,h1,h2,h3,h4,h5⟩:=hobj.Le p
      refine .fmap (f:=fun i=>((es[i]?).map (·.val)).getD undef) (hF s B hs hB hv) (hobj.lt hv) h1 h2 (by omega) h4 (fun i r hr=>?_) (fun i key' x' hi=>?_) hn
      · obtain⟨key,x',x,rfl,k0⟩:=hk i r hr
        obtain⟨e,k2,k3,k4⟩:=h5 i key x k0
        exact⟨key,x',e,rfl,k2,k3,by simp[k2]⟩
      · obtain⟨key,y',x,k1,k0⟩:=hk i _ hi
        obtain⟨e,k2,k3,k4⟩:=h5 i key x k0
        have:=ih i key key' x' x hi k0 k4
        simpa[k2] using this
  |nil=>intro v h;cases h;exact .slNil
  |nilE=>intro v h;cases h;exact .emp
  |empS=>intro v h;cases h;exact .slNil
  | @frz s off len wd rows rows' ro hs hm hw hle hl hc hnr ih=>
    intro v h
    obtain⟨B,hB,hobj⟩:=objs s wd rows ro hm
    have hlen:(flat rows').length=(flat ((rows.drop off).take len)).length:=by
      rw[cM hw,cM (wd:=wd) (hobj.wide.sub fun r hr=>List.mem_of_mem_drop (List.mem_of_mem_take hr)),hl,gh,List.length_drop]
      congr 1;omega
    have key:B.mp=false→∀ (q:Nat) (c:AV),(flat rows')[q]? =some c→∃v,w.cell? ⟨B.b,B.o+off*B.wd+q,none⟩=some v∧cE W' μ' w c v:=by
      intro hmp q c hq
      have hql:q< (flat ((rows.drop off).take len)).length:=by rw[←hlen];exact(aY hq).1
      obtain⟨d,hd⟩:∃d,(flat ((rows.drop off).take len))[q]? =some d:=⟨_,bD hql⟩
      obtain⟨v,h1,h2⟩:=hobj.cell hmp _ d (ld hobj.wide hd)
      refine⟨v,?_,ih q c d hq hd h2⟩
      rw[hobj.width,Nat.add_assoc];exact h1
    cases h with
    | own a hv hp b c d=>
      rw[hB] at a;cases a
      have key:=key hp
      have hne:=hF s B hs hB hv
      have hlt:B.b<w.heap.size:=hobj.lt hv
      have key':∀q,∃v,∀c,(flat rows')[q]? =some c→w.cell? ⟨B.b,B.o+off*B.wd+q,none⟩=some v∧cE W' μ' w c v:=fun q=>by
        cases hq:(flat rows')[q]? with
        |none=>exact⟨undef,by simp⟩
        |some c=>obtain⟨v,hv⟩:=key q c hq;exact⟨v,fun c' h'=>by cases h';exact hv⟩
      obtain⟨f,hf⟩:=Classical.skolem.1 key'
      exact .sl hne hlt hl.symm b hw (fun q c hq=>(hf q c hq).1) (fun q c hq=>(hf q c hq).2) hnr
    | ownNil a=>
      have:rows'=[]:=List.eq_nil_of_length_eq_zero hl
      subst this;exact .slNil
  | @frzp s i k wd rows ro r r' hs hm hr hw hc hnr ih=>
    intro v h
    obtain⟨B,hB,hobj⟩:=objs s wd rows ro hm
    have hv:=hobj.real hr
    have hne:=hF s B hs hB hv
    have hlt:B.b<w.heap.size:=hobj.lt hv
    have hrw:=hobj.wide i r hr
    have key:B.mp=false→∀ (q:Nat) (c:AV),(Am.cells r')[q]? =some c→∃v,w.cell? ⟨B.b,B.o+i*B.wd+q,none⟩=some v∧cE W' μ' w c v:=by
      intro hmp q c hq
      have hql:q< (Am.cells r).length:=by rw[hrw,←hw];exact(aY hq).1
      obtain⟨d,hd⟩:∃d,(Am.cells r)[q]? =some d:=⟨_,bD hql⟩
      obtain⟨v,h1,h2⟩:=hobj.cell hmp _ d (eE hobj.wide hr hd)
      refine⟨v,?_,ih q c d hq hd h2⟩
      rw[hobj.width,Nat.add_assoc];exact h1
    cases h with
    | ptr a hp=>
      rw[hB] at a;cases a
      have key:=key hp
      have key':∀q,∃v,∀c,(Am.cells r')[q]? =some c→w.cell? ⟨B.b,B.o+i*B.wd+q,none⟩=some v∧cE W' μ' w c v:=fun q=>by
        cases hq:(Am.cells r')[q]? with
        |none=>exact⟨undef,by simp⟩
        |some c=>obtain⟨v,hv⟩:=key q c hq;exact⟨v,fun c' h'=>by cases h';exact hv⟩
      obtain⟨f,hf⟩:=Classical.skolem.1 key'
      rw[←Nat.add_assoc]
      exact .fptr hne hlt (fun q c hq=>(hf q c hq).1) (fun q c hq=>(hf q c hq).2) hnr
  | agg hl hc ih=>
    intro v h
    cases h with
    | agg a b=>
      refine .agg (by rw[a,hl]) (fun j c v h1 h2=>?_)
      have hj:=(aY h1).1
      rw[hl] at hj
      exact ih j c _ h1 (bD hj) (b j _ v (bD hj) h2)
  | tup hl hc ih=>
    intro v h
    cases h with
    | tup a b=>
      refine .tup (by rw[a,hl]) (fun j c v h1 h2=>?_)
      have hj:=(aY h1).1
      rw[hl] at hj
      exact ih j c _ h1 (bD hj) (b j _ v (bD hj) h2)
  | clo hl1 hl2 hc1 hc2 ih1 ih2=>
    intro v h
    cases h with
    | clo a a' b b'=>
      refine .clo (by rw[a,hl1]) (by rw[a',hl2]) (fun j c v h1 h2=>?_) (fun j c v h1 h2=>?_)
      · have hj:=(aY h1).1
        rw[hl1] at hj
        exact ih1 j c _ h1 (bD hj) (b j _ v (bD hj) h2)
      · have hj:=(aY h1).1
        rw[hl2] at hj
        exact ih2 j c _ h1 (bD hj) (b' j _ v (bD hj) h2)
end Go.Am
