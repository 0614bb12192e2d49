/- Abstract values and what they say of memory; rules of code over them. By an AI agent. -/
import Derived.WalkKit
import Derived.Orders
import Derived.MapKept
import Derived.Lib.Space
import GoSem.ClaimJoined
import Derived.Still
import Derived.RangeFuncRecord
import Derived.OrdersIn
import Derived.TacticsIn
import Derived.RangeFuncLeaves
import Derived.Laws.StructEq
import Derived.Tactics
set_option linter.unusedSimpArgs false
set_option linter.unusedVariables false
namespace Go.Am
theorem bA {α : Type _} {l : List α} {i : Nat} (h : i < l.length) : l[i]? = some l[i] := List.getElem?_eq_getElem h
theorem bj {α : Type _} {l : List α} {i : Nat} {a : α} (h : l[i]? = some a) : ∃ h : i < l.length, l[i] = a := List.getElem?_eq_some_iff.1 h
theorem bE {p : Prop} [Decidable p] : (decide p = true) = p := decide_eq_true_eq
theorem c9 {p : Prop} {_ : Decidable p} : (decide p = false) ↔ ¬p := decide_eq_false_iff_not
theorem bN {α β : Type _} {as : List α} (f : α → β) : (as.map f).length = as.length := List.length_map f
theorem bO (a b : Bool) : ((a && b) = true) = (a = true ∧ b = true) := Bool.and_eq_true a b
theorem dy {p : Prop} [Decidable p] (h : ¬p) : decide p = false := decide_eq_false h
theorem dG {p : Prop} [Decidable p] (h : p) : decide p = true := decide_eq_true h
theorem bV {α : Type _} {l : List α} {i : Nat} {a : α} (h : l[i]? = some a) : a ∈ l := List.mem_of_getElem? h
theorem ic {α : Type _} {a b : α} : a ∈ [b] ↔ a = b := List.mem_singleton
theorem oF {α : Type _} {l : List α} {i : Nat} (h : l.length ≤ i) : l[i]? = none := List.getElem?_eq_none h
theorem rW {α : Type _} {a b : List α} {i : Nat} (h : i < a.length) : (a ++ b)[i]? = a[i]? := List.getElem?_append_left h
theorem jz {α : Type _} {a b : List α} : (a ++ b).length = a.length + b.length := List.length_append
theorem dQ {α : Type _} (y : α) {a : α} {l : List α} (h : a ∈ l) : a ∈ y :: l := List.mem_cons_of_mem y h
theorem eS {α : Type _} {a : α} {l : List α} : a ∈ a :: l := List.mem_cons_self
theorem fI {α β : Type _} {f : α → β} {l : List α} {i : Nat} : (l.map f)[i]? = Option.map f l[i]? := List.getElem?_map
theorem jS {a b c : Nat} (h : a < b) (k : b ≤ c) : a < c := Nat.lt_of_lt_of_le h k
theorem kg (a b : Bool) : ((a || b) = true) = (a = true ∨ b = true) := Bool.or_eq_true a b
theorem iR {α β : Type _} {f : α → β} {l₁ l₂ : List α} : (l₁ ++ l₂).map f = l₁.map f ++ l₂.map f := List.map_append
theorem sn {α : Type _} {l : List α} {i : Nat} (h : l.length ≤ i) : l.take i = l := List.take_of_length_le h
theorem dP {α : Type _} {a b : α} {l : List α} : a ∈ b :: l ↔ a = b ∨ a ∈ l := List.mem_cons
theorem gE {α : Type _} {i : Nat} {l : List α} : (l.take i).length = min i l.length := List.length_take
inductive AV where
  |any
  |emp
  |guess (p q:Prop)
  |lit (x:Value)
  |sl (wd:Nat) (rows:List AV)
  |own (t off len:Nat)
  |ptr (t i k:Nat)
  |fptr (e:AV) (k:Nat)
  |agg (cs:List AV)
  |tup (vs:List AV)
  |clo (f:Fn) (first captured:List AV)
  |mapr (t:Nat)
  |fmap (rows:List AV)
  deriving Inhabited
def cells:AV→List AV
  |.agg cs=>cs
  |.lit (.agg xs)=>xs.toList.map .lit
  |x=>[x]
mutual
/-- No reference to an object of the frame. -/
def bD:AV→Bool
  |.any=>true
  |.emp=>true
  |.guess _ _=>true
  |.lit _=>true
  |.sl _ _=>true
  |.own .. =>false
  |.ptr .. =>false
  |.fptr _ _=>true
  |.mapr _=>false
  |.fmap _=>true
  |.agg cs=>bu cs
  |.tup cs=>bu cs
  |.clo _ a b=>bu a&&bu b
def bu:List AV→Bool
  |[]=>true
  |x::xs=>bD x&&bu xs
end
def flat (rows:List AV):List AV:=rows.flatMap cells
structure zN where
  b:Nat
  o:Nat
  wd:Nat
  virt:Bool:=false
  mp:Bool:=false
abbrev Mu:=Nat→Option zN
def entry (key:Value)(x:AV):AV:=.agg [.lit key,.tup [x]]
inductive cD (W:Nat→Prop) (μ:Mu) (w:World):AV→Value→Prop
  |any {v}:cD W μ w .any v
  |lit {x}:cD W μ w (.lit x) x
  |guess {p q:Prop} {b:Bool}:(b=true→p)→(b=false→q)→cD W μ w (.guess p q) (.bool b)
  |emp {a}:cD W μ w .emp (.slice a 0 0)
  |slNil {wd a cap}:cD W μ w (.sl wd []) (.slice a 0 cap)
  |sl  {wd:Nat} {rows:List AV} {b o cap n:Nat} {f:Nat→Value}:¬W b→b<w.heap.size→n=rows.length→n≤cap→
      (∀ (i:Nat) (r:AV),rows[i]? =some r→(cells r).length=wd)→
      (∀ (q:Nat) (c:AV),(flat rows)[q]? =some c→w.cell? ⟨b,o+q,none⟩=some (f q))→
      (∀ (q:Nat) (c:AV),(flat rows)[q]? =some c→cD W μ w c (f q))→(∀c∈flat rows,bD c=true)→cD W μ w (.sl wd rows) (.slice (some ⟨b,o,none⟩) n cap)
  |own {t off len cap:Nat} {e:TypeId} {n:Nat} {B:zN}:μ t=some B→B.virt=false→B.mp=false→len≤cap→w.shape? B.b=some (e,n)→B.o+ (off+cap)*B.wd≤n→
      cD W μ w (.own t off len) (.slice (some ⟨B.b,B.o+off*B.wd,none⟩) len cap)
  |ownNil {t off a} {B:zN}:μ t=some B→cD W μ w (.own t off 0) (.slice a 0 0)
  |ptr {t i k} {B:zN}:μ t=some B→B.mp=false→cD W μ w (.ptr t i k) (.pointer (some ⟨B.b,B.o+ (i*B.wd+k),none⟩))
  |fptr {e:AV} {k b o:Nat} {f:Nat→Value}:¬W b→b<w.heap.size→
      (∀ (q:Nat) (c:AV),(cells e)[q]? =some c→w.cell? ⟨b,o+q,none⟩=some (f q))→
      (∀ (q:Nat) (c:AV),(cells e)[q]? =some c→cD W μ w c (f q))→(∀c∈cells e,bD c=true)→cD W μ w (.fptr e k) (.pointer (some ⟨b,o+k,none⟩))
  |mapr {t} {B:zN}:μ t=some B→B.mp=true→cD W μ w (.mapr t) (.map (some B.b))
  |fmap {rows:List AV} {b:Nat} {es:Array MapEntry} {clock:Nat} {f:Nat→Value}:¬W b→b<w.heap.size→w.heap[b]? =some (.map es clock)→MapKept.Stamped es clock→es.size=rows.length→es.size<maxLen→
      (∀ (i:Nat) (r:AV),rows[i]? =some r→∃key x e,r=entry key x∧es[i]? =some e∧e.key=key∧e.val=f i)→(∀ (i:Nat) (key:Value) (x:AV),rows[i]? =some (entry key x)→cD W μ w x (f i))→
      (∀r∈rows,bD r=true)→cD W μ w (.fmap rows) (.map (some b))
  |agg {cs:List AV} {vs:List Value}:vs.length=cs.length→(∀ (j:Nat) (c:AV) (v:Value),cs[j]? =some c→vs[j]? =some v→cD W μ w c v)→cD W μ w (.agg cs) (.agg vs.toArray)
  |tup {cs:List AV} {vs:List Value}:vs.length=cs.length→(∀ (j:Nat) (c:AV) (v:Value),cs[j]? =some c→vs[j]? =some v→cD W μ w c v)→cD W μ w (.tup cs) (.tuple vs.toArray)
  |clo {f:Fn} {as bs:List AV} {va vb:List Value}:va.length=as.length→vb.length=bs.length→(∀ (j:Nat) (c:AV) (v:Value),as[j]? =some c→va[j]? =some v→cD W μ w c v)→
      (∀ (j:Nat) (c:AV) (v:Value),bs[j]? =some c→vb[j]? =some v→cD W μ w c v)→cD W μ w (.clo f as bs) (.func f va.toArray vb.toArray)
structure Grow (W:Nat→Prop) (μ:Mu) (w:World) (W':Nat→Prop) (μ':Mu) (w':World):Prop where
  size:w.heap.size≤w'.heap.size
  blk:∀b,¬W b→b<w.heap.size→w'.heap[b]? =w.heap[b]?
  shape:∀b e n,w.shape? b=some (e,n)→w'.shape? b=some (e,n)
  wr:∀b,b<w.heap.size→W' b→W b
  mu:∀t B,μ t=some B→μ' t=some B
theorem Grow.refl (W:Nat→Prop)(μ:Mu)(w:World):Grow W μ w W μ w:=⟨Nat.le_refl _,fun _ _ _=>rfl,fun _ _ _ h=>h,fun _ _ h=>h,fun _ _ h=>h⟩
theorem Grow.trans {W W' W'':Nat→Prop}{μ μ' μ'':Mu}{w w' w'':World}(h:Grow W μ w W' μ' w')(k:Grow W' μ' w' W'' μ'' w''):Grow W μ w W'' μ'' w'' where
  size:=Nat.le_trans h.size k.size
  blk b hb hl:=by rw[k.blk b (fun hw=>hb (h.wr b hl hw)) (jS hl h.size),h.blk b hb hl]
  shape b e n hs:=k.shape _ _ _ (h.shape _ _ _ hs)
  wr b hl hw:=h.wr b hl (k.wr b (jS hl h.size) hw)
  mu t B hm:=k.mu _ _ (h.mu _ _ hm)
theorem Grow.cell {W W':Nat→Prop}{μ μ':Mu}{w w':World}(h:Grow W μ w W' μ' w'){b q:Nat}(hb:¬W b)(hl:b<w.heap.size):w'.cell? ⟨b,q,none⟩=w.cell? ⟨b,q,none⟩:=
  World.cell?_of_block (h.blk b hb hl)
theorem cD.grow {W W':Nat→Prop}{μ μ':Mu}{w w':World}(g:Grow W μ w W' μ' w'){x:AV}{v:Value}(h:cD W μ w x v):cD W' μ' w' x v:=by
  induction h with
  |any=>exact .any
  |lit=>exact .lit
  |guess h1 h2=>exact .guess h1 h2
  |emp=>exact .emp
  |slNil=>exact .slNil
  |sl hW hb hn hc hwd hcell _ hnr ih=>exact .sl (fun h=>hW (g.wr _ hb h)) (jS hb g.size) hn hc hwd (fun q c hq=>by rw[g.cell hW hb];exact hcell q c hq) (fun q c hq=>ih q c hq) hnr
  |own hm hv hp hl hs ho=>exact .own (g.mu _ _ hm) hv hp hl (g.shape _ _ _ hs) ho
  |ownNil hm=>exact .ownNil (g.mu _ _ hm)
  |ptr hm hp=>exact .ptr (g.mu _ _ hm) hp
  |mapr hm hp=>exact .mapr (g.mu _ _ hm) hp
  |fmap hW hb h1 h2 h3 h4 h5 _ hn ih=>exact .fmap (fun h=>hW (g.wr _ hb h)) (jS hb g.size) (by rw[g.blk _ hW hb];exact h1) h2 h3 h4 h5 (fun i key x hi=>ih i key x hi) hn
  |fptr hW hb hcell _ hnr ih=>exact .fptr (fun h=>hW (g.wr _ hb h)) (jS hb g.size) (fun q c hq=>by rw[g.cell hW hb];exact hcell q c hq) (fun q c hq=>ih q c hq) hnr
  |agg hl _ ih=>exact .agg hl (fun j c v h1 h2=>ih j c v h1 h2)
  |tup hl _ ih=>exact .tup hl (fun j c v h1 h2=>ih j c v h1 h2)
  |clo h1 h2 _ _ ih1 ih2=>exact .clo h1 h2 (fun j c v a b=>ih1 j c v a b) (fun j c v a b=>ih2 j c v a b)
def cN (W:Nat→Prop)(μ:Mu)(w:World)(cs:List AV)(vs:List Value):Prop:=
  vs.length=cs.length∧∀ (j:Nat) (c:AV) (v:Value),cs[j]? =some c→vs[j]? =some v→cD W μ w c v
theorem cN.nil {W:Nat→Prop}{μ:Mu}{w:World}:cN W μ w [] []:=⟨rfl,fun j c v h=>by simp at h⟩
theorem cN.cons {W:Nat→Prop}{μ:Mu}{w:World}{c:AV}{v:Value}{cs:List AV}{vs:List Value}(h:cD W μ w c v)(hs:cN W μ w cs vs):cN W μ w (c::cs) (v::vs):=
  ⟨by simp[hs.1],fun j d u h1 h2=>by
    cases j with
    |zero=>simp at h1 h2;subst h1;subst h2;exact h
    |succ j=>simp at h1 h2;exact hs.2 j d u h1 h2⟩
theorem cN.grow {W W':Nat→Prop}{μ μ':Mu}{w w':World}(g:Grow W μ w W' μ' w'){cs:List AV}{vs:List Value}(h:cN W μ w cs vs):cN W' μ' w' cs vs:=
  ⟨h.1,fun j c v a b=>(h.2 j c v a b).grow g⟩
theorem cN.append {W:Nat→Prop}{μ:Mu}{w:World}{cs ds:List AV}{vs us:List Value}(h:cN W μ w cs vs)(k:cN W μ w ds us):cN W μ w (cs++ds) (vs++us):=by
  refine⟨by simp[h.1,k.1],fun j c v a b=>?_⟩
  rw[List.getElem?_append] at a b
  rw[h.1] at b
  split at a
  ·rename_i hj;rw[if_pos hj] at b;exact h.2 _ _ _ a b
  ·rename_i hj;rw[if_neg hj] at b;exact k.2 _ _ _ a b
theorem cN.CX {W:Nat→Prop}{μ:Mu}{w:World}{c:AV}{cs:List AV}{vs:List Value}(h:cN W μ w (c::cs) vs):∃v us,vs=v::us∧cD W μ w c v∧cN W μ w cs us:=by
  cases vs with
  |nil=>simp[cN] at h
  | cons v us=>
    refine⟨v,us,rfl,h.2 0 c v rfl rfl,by simpa using h.1,fun j d u a b=>h.2 (j+1) d u (by simpa using a) (by simpa using b)⟩
theorem cN.LI {W:Nat→Prop}{μ:Mu}{w:World}{vs:List Value}(h:cN W μ w [] vs):vs=[]:=by
  cases vs with
  |nil=>rfl
  |cons v us=>simp[cN] at h
theorem cN.lits {W:Nat→Prop}{μ:Mu}{w:World}(vs:List Value):cN W μ w (vs.map .lit) vs:=
  ⟨by simp,fun j c v a b=>by
    rw[fI,b] at a
    simp at a;subst a;exact .lit⟩
theorem cN.D8 {W:Nat→Prop}{μ:Mu}{w:World}{xs vs:List Value}(h:cN W μ w (xs.map .lit) vs):vs=xs:=by
  induction xs generalizing vs with
  |nil=>exact h.LI
  | cons x xs ih=>
    obtain⟨v,us,rfl,hv,hu⟩:=cN.CX (by simpa using h)
    cases hv
    rw[ih hu]
def AV.lF:AV→Bool
  |.any=>false
  |_=>true
theorem cD.cells {W:Nat→Prop}{μ:Mu}{w:World}{x:AV}{v:Value}(h:cD W μ w x v)(hx:x.lF=true):cN W μ w (Am.cells x) v.cells.toList:=by
  cases h with
  |any=>simp[AV.lF] at hx
  | lit=>
    cases v with
    |agg xs=>exact cN.lits xs.toList
    |_=>exact .cons .lit .nil
  |agg hl h=>simpa[Am.cells,Value.cells] using⟨hl,h⟩
  |guess h1 h2=>exact .cons (.guess h1 h2) .nil
  |emp=>exact .cons .emp .nil
  |slNil=>exact .cons .slNil .nil
  |sl a b c d e f g h=>exact .cons (.sl a b c d e f g h) .nil
  |own a b c d e f=>exact .cons (.own a b c d e f) .nil
  |ownNil a=>exact .cons (.ownNil a) .nil
  |ptr a b=>exact .cons (.ptr a b) .nil
  |mapr a b=>exact .cons (.mapr a b) .nil
  |fmap a b c d e f g h i=>exact .cons (.fmap a b c d e f g h i) .nil
  |fptr a b c d e=>exact .cons (.fptr a b c d e) .nil
  |tup a b=>exact .cons (.tup a b) .nil
  |clo a b c d=>exact .cons (.clo a b c d) .nil
def AV.one:AV→Bool
  |.any=>false
  |.agg _=>false
  |.tup _=>false
  |.lit x=>x.oneCell'
  |_=>true
theorem cD.one {W:Nat→Prop}{μ:Mu}{w:World}{x:AV}{v:Value}(h:cD W μ w x v)(hx:x.one=true):v.oneCell'=true:=by
  cases h<;>simp_all[AV.one,Value.oneCell']
theorem gZ (a b:List AV):flat (a++b)=flat a++flat b:=by simp[flat]
theorem fF (a:AV)(b:List AV):flat (a::b)=cells a++flat b:=by simp[flat]
def bJ (wd:Nat)(rows:List AV):Prop:=∀ (i:Nat) (r:AV),rows[i]? =some r→(cells r).length=wd
theorem bJ.tail {wd:Nat}{r:AV}{rows:List AV}(h:bJ wd (r::rows)):(cells r).length=wd∧bJ wd rows:=
  ⟨h 0 r rfl,fun i s hs=>h (i+1) s (by simpa using hs)⟩
theorem bJ.nil (wd:Nat):bJ wd []:=fun i r h=>by simp at h
theorem bJ.cons {wd:Nat}{r:AV}{rows:List AV}(h:(cells r).length=wd)(hs:bJ wd rows):bJ wd (r::rows):=fun i s h'=>by
  cases i with
  |zero=>simp at h';subst h';exact h
  |succ i=>exact hs i s (by simpa using h')
theorem bJ.append {wd:Nat}{a b:List AV}(ha:bJ wd a)(hb:bJ wd b):bJ wd (a++b):=fun i s h'=>by
  rw[List.getElem?_append] at h'
  split at h'
  ·exact ha _ _ h'
  ·exact hb _ _ h'
theorem bJ.mem {wd:Nat}{a:List AV}(ha:bJ wd a){r:AV}(hr:r∈a):(cells r).length=wd:=by
  obtain⟨i,hi⟩:=List.getElem?_of_mem hr
  exact ha i r hi
theorem bJ.jk {wd:Nat}{a:List AV}(ha:∀r∈a,(cells r).length=wd):bJ wd a:=fun _ _ h=>ha _ (bV h)
theorem bJ.sub {wd:Nat}{a b:List AV}(ha:bJ wd a)(h:∀r∈b,r∈a):bJ wd b:=.jk fun r hr=>ha.mem (h r hr)
theorem cQ {wd:Nat}:∀ {rows:List AV},bJ wd rows→(flat rows).length=rows.length*wd
  |[],_=>by simp[flat]
  | r::rows,h=>by
    rw[fF,jz,h.tail.1,cQ h.tail.2,List.length_cons,Nat.add_mul,Nat.one_mul,Nat.add_comm]
theorem eN {wd:Nat}:∀ {rows:List AV},bJ wd rows→∀ {i k:Nat} {r c:AV},rows[i]? =some r→(cells r)[k]? =some c→(flat rows)[i*wd+k]? =some c
  |[],_,i,k,r,c,h,_=>by simp at h
  | s ::rows,hw,0,k,r,c,h,hk=>by
    simp at h;subst h
    have hlt:k< (cells s).length:=by
      rcases Nat.lt_or_ge k (cells s).length with h|h
      ·exact h
      ·rw[oF h] at hk;cases hk
    rw[fF,rW (by omega)];simpa using hk
  | s::rows,hw,i+1,k,r,c,h,hk=>by
    have:=eN hw.tail.2 (i:=i) (k:=k) (r:=r) (c:=c) (by simpa using h) hk
    rw[fF,List.getElem?_append_right (by rw[hw.tail.1,Nat.add_mul];omega),hw.tail.1]
    rw[show(i+1)*wd+k-wd=i*wd+k from by rw[Nat.add_mul];omega]
    exact this
theorem qK {wd:Nat}:∀ {rows:List AV},bJ wd rows→∀ {q:Nat} {c:AV},(flat rows)[q]? =some c→∃i k r,q=i*wd+k∧rows[i]? =some r∧(cells r)[k]? =some c∧k<wd
  |[],_,q,c,h=>by simp[flat] at h
  | s ::rows,hw,q,c,h=>by
    rw[fF,List.getElem?_append] at h
    split at h
    · rename_i hq
      exact⟨0,q,s,by simp,by simp,h,by rw[←hw.tail.1];exact hq⟩
    · rename_i hq
      obtain⟨i,k,r,h1,h2,h3,h4⟩:=qK hw.tail.2 h
      rw[hw.tail.1] at h1 hq
      exact⟨i+1,k,r,by rw[Nat.add_mul];omega,by simpa using h2,h3,h4⟩
inductive MS where
  |free
  |dead
  |live (wd:Nat) (rows:List AV) (ro:Bool)
  deriving Inhabited
structure aA where
  slots:Nat→AV
  mem:Nat→MS
def aA.eval (σ:aA):Operand→AV
  |.tmp t=>σ.slots t
  |.const v=>.lit v
  |.global g=>.lit (.pointer (some ⟨g,0,none⟩))
  |.func f=>.lit (.func (.func f) #[] #[])
def dA (s:Nat→AV):Option Tmp→AV→Nat→AV
  |none,_=>s
  |some d,x=>fun i=>if i=d then x else s i
def br (m:Nat→MS):List (Nat×MS)→Nat→MS
  |[]=>m
  |(t,s)::r=>fun u=>if u=t then s else br m r u
def aA.yI (σ:aA)(dst:Option Tmp)(x:AV)(ups:List (Nat×MS)):aA:=⟨dA σ.slots dst x,br σ.mem ups⟩
def iZ (μ:Mu)(m:Nat→MS)(b:Nat):Prop:=∃t B wd rows,m t=.live wd rows false∧μ t=some B∧B.b=b∧B.virt=false
def Wr (W0:Nat→Prop)(μ:Mu)(m:Nat→MS)(b:Nat):Prop:=W0 b∨iZ μ m b
structure fM (W:Nat→Prop) (μ:Mu) (w:World) (B:zN) (wd:Nat) (rows:List AV) (ro:Bool):Prop where
  width:B.wd=wd
  wide:bJ wd rows
  blk:B.virt=false→B.mp=false→∃C e fz,w.heap[B.b]? =some (.cells C e fz)∧(ro=false→fz=(0,0))∧B.o+rows.length*wd≤C.size
  virt:B.virt=true→rows=[]
  cell:B.mp=false→∀ (q:Nat) (c:AV),(flat rows)[q]? =some c→∃v,w.cell? ⟨B.b,B.o+q,none⟩=some v∧cD W μ w c v
  vm:B.mp=true→B.virt=false
  map:B.mp=true→∃es clock,w.heap[B.b]? =some (.map es clock)∧MapKept.Stamped es clock∧es.size=rows.length∧es.size<maxLen∧(clock=es.size∧∀ (i:Nat) (e:MapEntry),es[i]? =some e→e.born=i)∧
    ∀ (i:Nat) (r:AV),rows[i]? =some r→∃k c e,r=.agg [k,c]∧es[i]? =some e∧(∀key,k=.lit key→e.key=key)∧∀x,c=.tup [x]→cD W μ w x e.val
theorem fM.OW {W:Nat→Prop}{μ:Mu}{w:World}{B:zN}{wd:Nat}{rows:List AV}{ro:Bool}(h:fM W μ w B wd rows ro)(hm:B.mp=true):∃es clock,w.heap[B.b]? =some (.map es clock)∧MapKept.Stamped es clock∧es.size=rows.length∧es.size<maxLen∧
    ∀ (i:Nat) (key:Value) (x:AV),rows[i]? =some (entry key x)→∃e,es[i]? =some e∧e.key=key∧cD W μ w x e.val:=by
  obtain⟨es,clock,h1,h2,h3,h4,_,h5⟩:=h.map hm
  refine⟨es,clock,h1,h2,h3,h4,fun i key x hr=>?_⟩
  obtain⟨k,c,e,k1,k2,k3,k4⟩:=h5 i _ hr
  simp only[entry,AV.agg.injEq,List.cons.injEq,and_true] at k1
  exact⟨e,k2,k3 key k1.1.symm,k4 x k1.2.symm⟩
theorem fM.lt {W:Nat→Prop}{μ:Mu}{w:World}{B:zN}{wd:Nat}{rows:List AV}{ro:Bool}(h:fM W μ w B wd rows ro)(hv:B.virt=false):B.b<w.heap.size:=by
  cases hm:B.mp with
  | false=>
    obtain⟨C,e,fz,h3,_⟩:=h.blk hv hm
    exact(Array.getElem?_eq_some_iff.1 h3).1
  | true=>
    obtain⟨es,clock,h3,_⟩:=h.map hm
    exact(Array.getElem?_eq_some_iff.1 h3).1
theorem fM.grow {W W':Nat→Prop}{μ μ':Mu}{w w':World}{B:zN}{wd:Nat}{rows:List AV}{ro:Bool}(g:Grow W μ w W' μ' w')(hb:B.virt=false→w'.heap[B.b]? =w.heap[B.b]?)
    (h:fM W μ w B wd rows ro):fM W' μ' w' B wd rows ro where
  width:=h.width
  wide:=h.wide
  blk hv hm:=by rw[hb hv];exact h.blk hv hm
  virt:=h.virt
  cell hm q c hq:=by
    obtain⟨v,h1,h2⟩:=h.cell hm q c hq
    have hv:B.virt=false:=by
      cases hv:B.virt with
      |false=>rfl
      |true=>rw[h.virt hv] at hq;simp[flat] at hq
    exact⟨v,by rw[World.cell?_of_block (w:=w) (hb hv)];exact h1,h2.grow g⟩
  vm:=h.vm
  map hm:=by
    obtain⟨es,clock,h1,h2,h3,h4,hb0,h5⟩:=h.map hm
    refine⟨es,clock,by rw[hb (h.vm hm)];exact h1,h2,h3,h4,hb0,fun i r hr=>?_⟩
    obtain⟨key,x,e,k1,k2,k3,k4⟩:=h5 i r hr
    exact⟨key,x,e,k1,k2,k3,fun y hy=>(k4 y hy).grow g⟩
theorem fM.real {W:Nat→Prop}{μ:Mu}{w:World}{B:zN}{wd:Nat}{rows:List AV}{ro:Bool}(h:fM W μ w B wd rows ro){i:Nat}{r:AV}(hr:rows[i]? =some r):B.virt=false:=by
  cases hv:B.virt with
  |false=>rfl
  |true=>rw[h.virt hv] at hr;simp at hr
theorem fM.ro {W:Nat→Prop}{μ:Mu}{w:World}{B:zN}{wd:Nat}{rows:List AV}{ro:Bool}(h:fM W μ w B wd rows ro):fM W μ w B wd rows true:=
  ⟨h.width,h.wide,fun hv hm=>let⟨C,e,fz,a,_,c⟩:=h.blk hv hm;⟨C,e,fz,a,(fun h=>nomatch h),c⟩,h.virt,h.cell,h.vm,h.map⟩
def th (L:Mu)(b:Nat):Prop:=∃t B,L t=some B∧B.b=b∧B.virt=false
def Pw (P:Program)(v:Value):Prop:=∃u ty,(P.cutTypes.find? (·.1== "internal/reflectlite.rtype")).map (·.2)=some u∧ty<P.types.size∧P.rowNamed ty [101,114,114,111,114]=true∧v=.iface u (.agg #[typeHandle P ty])
def ku (P:Program)(w:World)(L:Mu):Prop:=(∀g,P.globalNamed "no such variable" =some g→¬th L g∧g<w.heap.size∧∀c:Nat,c<256→w.cell? ⟨g,c,none⟩=some (.int .u8 (if Lib.isSp (UInt8.ofNat c) then 1 else 0)))∧
  ∀g,P.globalNamed "errors.errorType" =some g→¬th L g∧g<w.heap.size∧∃v,Pw P v∧w.cell? ⟨g,0,none⟩=some v
def su (D:Nat):Deferred:={target:=.collected D,args:= #[]}
def Marks (w0:World)(ds:List Deferred)(w:World):Prop:=(w0.drawn≠0→ds=[])∧∃Ds:List Nat,ds=Ds.map su∧Ds.Nodup∧∀D∈Ds,w0.heap.size≤D∧w.heap[D]? =some (.deferred (some []))
theorem Marks.nil {w0 w:World}:Marks w0 [] w:=⟨fun _=>rfl,[],rfl,.nil,by simp⟩
theorem Marks.keep {w0 w w':World}{ds:List Deferred}(h:Marks w0 ds w)(k:∀D,w0.heap.size≤D→w.heap[D]? =some (.deferred (some []))→w'.heap[D]? =some (.deferred (some []))):Marks w0 ds w':=by
  obtain⟨h0,Ds,h1,h2,h3⟩:=h
  exact⟨h0,Ds,h1,h2,fun D hD=>⟨(h3 D hD).1,k D (h3 D hD).1 (h3 D hD).2⟩⟩
def jD:Nat:=1000000000
structure cz (P:Program) (N:Nat) (w0:World) (W0:Nat→Prop) (L μ:Mu) (σ:aA) (a:Act) (w:World):Prop where
  tsize:a.tmps.size=N
  defers:Marks w0 a.defers w
  os:w.os=w0.os
  tape:w.tape=w0.tape
  output:w.output=w0.output
  hsize:w0.heap.size≤w.heap.size
  shp:∀b e n,w0.shape? b=some (e,n)→w.shape? b=some (e,n)
  keep:∀b,b<w0.heap.size→¬th L b→w.heap[b]? =w0.heap[b]?
  w0lt:∀b,W0 b→b<w0.heap.size
  lentμ:∀t B,t<jD→L t=some B→μ t=some B
  free:∀t,σ.mem t=.free↔μ t=none
  slots:∀i,cD (Wr W0 μ σ.mem) μ w (σ.slots i) (a.tmps.getD i undef)
  objs:∀t wd rows ro,σ.mem t=.live wd rows ro→∃B,μ t=some B∧fM (Wr W0 μ σ.mem) μ w B wd rows ro
  inj:∀t t' wd rows wd' rows' ro' B B',t≠t'→σ.mem t=.live wd rows false→σ.mem t'=.live wd' rows' ro'→μ t=some B→μ t'=some B'→B.virt=false→B'.virt=false→B.b≠B'.b
  out:∀t wd rows ro B,σ.mem t=.live wd rows ro→μ t=some B→B.virt=false→¬W0 B.b∧(ro=false→w0.heap.size≤B.b∨th L B.b)
  tabs:ku P w0 L
section
variable {P : Program} {N : Nat} {w0 : World} {W0 : Nat → Prop} {L μ : Mu} {σ : aA} {a : Act} {w : World}
theorem cz.qO (h:cz P N w0 W0 L μ σ a w){L':Mu}(hL:∀b,th L' b→w0.heap.size≤b∨th L b):ku P w L':=by
  refine⟨fun g hg=>?_,fun g hg=>?_⟩
  · obtain⟨h1,h2,h3⟩:=h.tabs.1 g hg
    refine⟨fun hl=>?_,jS h2 h.hsize,fun c hc=>?_⟩
    · rcases hL g hl with k|k
      ·omega
      ·exact h1 k
    · rw[←h3 c hc]
      simp only[World.cell?,h.keep g h2 h1]
  · obtain⟨h1,h2,v,h3,h4⟩:=h.tabs.2 g hg
    refine⟨fun hl=>?_,jS h2 h.hsize,v,h3,?_⟩
    · rcases hL g hl with k|k
      ·omega
      ·exact h1 k
    · rw[←h4]
      simp only[World.cell?,h.keep g h2 h1]
theorem cz.eval (h:cz P N w0 W0 L μ σ a w)(x:Operand):cD (Wr W0 μ σ.mem) μ w (σ.eval x) (a.eval x):=by
  cases x with
  |tmp t=>exact h.slots t
  |_=>exact .lit
theorem cz.put (h:cz P N w0 W0 L μ σ a w){dst:Option Tmp}{x:AV}{v:Value}(hx:cD (Wr W0 μ σ.mem) μ w x v)(hd:∀d,dst=some d→d<N):
    cz P N w0 W0 L μ ⟨dA σ.slots dst x,σ.mem⟩ (a.put dst v) w:=by
  cases dst with
  |none=>exact{h with}
  | some d=>
    have hd:=hd d rfl
    refine{h with tsize:=by simp[Act.put,h.tsize],slots:=fun i=>?_}
    simp only[dA,Act.put]
    by_cases hi:i=d
    · subst hi
      simp[Array.getD_eq_getD_getElem?,h.tsize,hd,hx]
    · simp only[if_neg hi]
      have:=h.slots i
      simpa[Array.getD_eq_getD_getElem?,Array.getElem?_setIfInBounds_ne (Ne.symm hi)] using this
theorem cz.grow (_h:cz P N w0 W0 L μ σ a w){m':Nat→MS}{μ':Mu}{w':World}(size:w.heap.size≤w'.heap.size)
    (j6:∀b,b<w.heap.size→¬iZ μ σ.mem b→w'.heap[b]? =w.heap[b]?) (shape:∀b e n,w.shape? b=some (e,n)→w'.shape? b=some (e,n))
    (mu:∀t B,μ t=some B→μ' t=some B) (wr:∀b,b<w.heap.size→iZ μ' m' b→iZ μ σ.mem b):
    Grow (Wr W0 μ σ.mem) μ w (Wr W0 μ' m') μ' w' where
  size:=size
  blk b hb hl:=j6 b hl (fun hm=>hb (.inr hm))
  shape:=shape
  wr b hl hw:=hw.imp id (wr b hl)
  mu:=mu
theorem fD {m':Nat→MS}{μ':Mu}(old:∀t wd rows ro B,m' t=.live wd rows ro→μ' t=some B→B.virt=false→w.heap.size≤B.b∨∃t1 wd1 rows1 ro1 B1,σ.mem t1=.live wd1 rows1 ro1∧μ t1=some B1∧B1.b=B.b∧B1.virt=false∧(ro=false→ro1=false)):
    ∀b,b<w.heap.size→iZ μ' m' b→iZ μ σ.mem b:=by
  rintro b hb ⟨t,B,wd,rows,h1,h2,rfl,hv⟩
  rcases old t wd rows false B h1 h2 hv with h|⟨t',wd',rows',ro',B',k1,k2,k3,kv,k4⟩
  ·omega
  ·rw[k4 rfl] at k1;exact⟨t',B',wd',rows',k1,k2,k3,kv⟩
theorem cz.step (h:cz P N w0 W0 L μ σ a w){m':Nat→MS}{μ':Mu}{w':World}(size:w.heap.size≤w'.heap.size)
    (hos:w'.os=w.os) (htape:w'.tape=w.tape) (hout:w'.output=w.output)
    (j6:∀b,b<w.heap.size→¬iZ μ σ.mem b→w'.heap[b]? =w.heap[b]?) (shape:∀b e n,w.shape? b=some (e,n)→w'.shape? b=some (e,n))
    (mu:∀t B,μ t=some B→μ' t=some B)
    (old:∀t wd rows ro B,m' t=.live wd rows ro→μ' t=some B→B.virt=false→w.heap.size≤B.b∨∃t1 wd1 rows1 ro1 B1,σ.mem t1=.live wd1 rows1 ro1∧μ t1=some B1∧B1.b=B.b∧B1.virt=false∧(ro=false→ro1=false))
    (free:∀t,m' t=.free↔μ' t=none)
    (objs:∀t wd rows ro,m' t=.live wd rows ro→∃B,μ' t=some B∧fM (Wr W0 μ' m') μ' w' B wd rows ro)
    (inj:∀t t' wd rows wd' rows' ro' B B',t≠t'→m' t=.live wd rows false→m' t'=.live wd' rows' ro'→μ' t=some B→μ' t'=some B'→B.virt=false→B'.virt=false→B.b≠B'.b):
    cz P N w0 W0 L μ' ⟨σ.slots,m'⟩ a w' where
  tabs:=h.tabs
  tsize:=h.tsize
  defers:=h.defers.keep fun D _ h2=>by
    rw[j6 D (Array.getElem?_eq_some_iff.1 h2).1 ?_];exact h2
    rintro⟨t,B,wd,rows,m1,m2,rfl,hv⟩
    obtain⟨B',hB',hobj⟩:=h.objs t wd rows false m1
    rw[m2] at hB';cases hB'
    cases hmp:B.mp with
    |false=>obtain⟨C,e,fz,h3,_⟩:=hobj.blk hv hmp;rw[h2] at h3;cases h3
    |true=>obtain⟨es,clock,h3,_⟩:=hobj.map hmp;rw[h2] at h3;cases h3
  os:=hos.trans h.os
  tape:=htape.trans h.tape
  output:=hout.trans h.output
  hsize:=Nat.le_trans h.hsize size
  shp b e n hb:=shape b e n (h.shp b e n hb)
  keep b hb hl:=by
    rw[j6 b (jS hb h.hsize),h.keep b hb hl]
    rintro⟨t,B,wd,rows,h1,h2,rfl,hv⟩
    have:=(h.out t wd rows false B h1 h2 hv).2 rfl
    rcases this with h'|h'
    ·omega
    ·exact hl h'
  w0lt:=h.w0lt
  lentμ t B hb h1:=mu t B (h.lentμ t B hb h1)
  free:=free
  slots i:=(h.slots i).grow (h.grow size j6 shape mu (fD old))
  objs:=objs
  inj:=inj
  out t wd rows ro B h1 h2 hv:=by
    rcases old t wd rows ro B h1 h2 hv with hb|⟨t',wd',rows',ro',B',k1,k2,k3,kv,k4⟩
    · refine⟨fun hw=>?_,fun _=>.inl ?_⟩
      ·have:=h.w0lt _ hw;have:=h.hsize;omega
      ·have:=h.hsize;omega
    · rw[←k3]
      have:=h.out t' wd' rows' ro' B' k1 k2 kv
      exact⟨this.1,fun hr=>this.2 (k4 hr)⟩
theorem cz.drawn (h:cz P N w0 W0 L μ σ a w)(n:Nat):cz P N w0 W0 L μ σ a {w with drawn:=n}:=by
  have g:Grow (Wr W0 μ σ.mem) μ w (Wr W0 μ σ.mem) μ {w with drawn:=n}:=⟨Nat.le_refl _,fun _ _ _=>rfl,fun _ _ _ h=>h,fun _ _ h=>h,fun _ _ h=>h⟩
  exact{h with slots:=fun i=>(h.slots i).grow g,objs:=fun t wd rows ro ht=>let⟨B,h1,h2⟩:=h.objs t wd rows ro ht;⟨B,h1,h2.grow g fun _=>rfl⟩}
theorem cz.dY (h:cz P N w0 W0 L μ σ a w){t wd:Nat}{rows:List AV}{ro:Bool}{B:zN}(ht:σ.mem t=.live wd rows ro)(hB:μ t=some B)(hv:B.virt=false):B.b<w.heap.size:=by
  obtain⟨B',h1,h2⟩:=h.objs t wd rows ro ht
  rw[hB] at h1;cases h1
  exact h2.lt hv
def bz (μ:Mu)(t:Nat)(B:zN):Mu:=fun u=>if u=t then some B else μ u
theorem kE {w:World}{o:Obj}{b:Nat}{e:TypeId}{n:Nat}(h:w.shape? b=some (e,n)):(w.alloc o).shape? b=some (e,n):=by
  have hb:b<w.heap.size:=by
    rcases Nat.lt_or_ge b w.heap.size with h'|h'
    ·exact h'
    ·simp[World.shape?,Array.getElem?_eq_none h'] at h
  simpa only[World.shape?,heap_alloc_old w o hb] using h
theorem cz.alloc (h:cz P N w0 W0 L μ σ a w){t wd:Nat}{rows:List AV}{C:Array Value}{e:TypeId}(ht:σ.mem t=.free)(hw:bJ wd rows)(hs:rows.length*wd≤C.size)
    (hc:∀ (q:Nat) (c:AV),(flat rows)[q]? =some c→∃v,C[q]? =some v∧cD (Wr W0 μ σ.mem) μ w c v):
    cz P N w0 W0 L (bz μ t ⟨w.heap.size,0,wd,false,false⟩) ⟨σ.slots,br σ.mem [(t,.live wd rows false)]⟩ a (w.alloc (.cells C e)):=by
  have hmt:μ t=none:=(h.free t).1 ht
  have size:w.heap.size≤ (w.alloc (.cells C e)).heap.size:=by simp
  have j6:∀b,b<w.heap.size→¬iZ μ σ.mem b→(w.alloc (.cells C e)).heap[b]? =w.heap[b]? :=fun b hb _=>heap_alloc_old w _ hb
  have mu:∀u B,μ u=some B→bz μ t ⟨w.heap.size,0,wd,false,false⟩ u=some B:=fun u B hu=>by
    have:u≠t:=fun e=>by rw[e,hmt] at hu;cases hu
    simp[bz,this,hu]
  have old:∀u wd' rows' ro B,br σ.mem [(t,.live wd rows false)] u=.live wd' rows' ro→bz μ t ⟨w.heap.size,0,wd,false,false⟩ u=some B→B.virt=false→w.heap.size≤B.b∨
      ∃t1 wd1 rows1 ro1 B1,σ.mem t1=.live wd1 rows1 ro1∧μ t1=some B1∧B1.b=B.b∧B1.virt=false∧(ro=false→ro1=false):=by
    intro u wd' rows' ro B h1 h2 hv
    by_cases hu:u=t
    ·subst hu;simp[bz] at h2;subst h2;exact .inl (Nat.le_refl _)
    · simp[br,hu] at h1;simp[bz,hu] at h2
      exact .inr ⟨u,wd',rows',ro,B,h1,h2,rfl,hv,id⟩
  have g:=h.grow size j6 (fun b e n=>kE) mu (fD old)
  refine h.step size rfl rfl rfl j6 (fun b e n=>kE) mu old (fun u=>?_) (fun u wd' rows' ro hu=>?_) ?_
  · by_cases hu:u=t
    ·subst hu;simp[br,bz]
    ·simp[br,bz,hu,h.free u]
  · by_cases hut:u=t
    · subst hut
      simp[br] at hu
      obtain⟨rfl,rfl,rfl⟩:=hu
      refine⟨⟨w.heap.size,0,wd,false,false⟩,by simp[bz],rfl,hw,fun _ _=>⟨C,e,(0,0),heap_alloc_new w _,fun _=>rfl,by simpa using hs⟩,(fun h=>nomatch h),fun _ q c hq=>?_,(fun h=>nomatch h),(fun h=>nomatch h)⟩
      obtain⟨v,h1,h2⟩:=hc q c hq
      exact⟨v,by simp[World.cell?_alloc_new,h1],h2.grow g⟩
    · simp[br,hut] at hu
      obtain⟨B,h1,h2⟩:=h.objs u wd' rows' ro hu
      exact⟨B,mu u B h1,h2.grow g fun hv=>heap_alloc_old w _ (h.dY hu h1 hv)⟩
  · intro u u' wd1 r1 wd2 r2 ro2 B B' hne h1 h2 h3 h4 v1 v2
    by_cases hu:u=t
    · subst hu
      simp[bz] at h3;subst h3
      have hu':u'≠u:=fun e=>hne e.symm
      simp[br,hu'] at h2;simp[bz,hu'] at h4
      have:=h.dY h2 h4 v2
      simp;omega
    · simp[br,hu] at h1;simp[bz,hu] at h3
      by_cases hu':u'=t
      · subst hu'
        simp[bz] at h4;subst h4
        have:=h.dY h1 h3 v1
        simp;omega
      · simp[br,hu'] at h2;simp[bz,hu'] at h4
        exact h.inj u u' wd1 r1 wd2 r2 ro2 B B' hne h1 h2 h3 h4 v1 v2
theorem cz.setObj (h:cz P N w0 W0 L μ σ a w){t wd:Nat}{rows rows':List AV}{B:zN}{C C':Array Value}{e:TypeId}(ht:σ.mem t=.live wd rows false)(hB:μ t=some B)(hv:B.virt=false)(hmp:B.mp=false)
    (hC:w.heap[B.b]? =some (.cells C e (0,0))) (hsz:C'.size=C.size) (hl:rows'.length=rows.length) (hw:bJ wd rows')
    (hc:∀ (q:Nat) (c:AV),(flat rows')[q]? =some c→∃v,C'[B.o+q]? =some v∧cD (Wr W0 μ σ.mem) μ w c v):
    cz P N w0 W0 L μ ⟨σ.slots,br σ.mem [(t,.live wd rows' false)]⟩ a (w.setRow B.b C'):=by
  have hheap:(w.setRow B.b C').heap[B.b]? =some (.cells C' e (0,0)):=setRow_heap w B.b C C' e (0,0) hC
  have size:w.heap.size≤ (w.setRow B.b C').heap.size:=by simp
  have j6:∀b,b<w.heap.size→¬iZ μ σ.mem b→(w.setRow B.b C').heap[b]? =w.heap[b]? :=fun b _ hm=>by
    refine setRow_other w B.b b C' fun e=>hm ⟨t,B,wd,rows,ht,hB,e.symm,hv⟩
  have shape:∀b e n,w.shape? b=some (e,n)→(w.setRow B.b C').shape? b=some (e,n):=fun b e' n hs=>by
    by_cases hb:b=B.b
    ·subst hb;simp[World.shape?,hC] at hs;simp[World.shape?,hheap,hsz,hs]
    ·simpa[World.shape?,setRow_other w B.b b C' hb] using hs
  have old:∀u wd' rows'' ro B',br σ.mem [(t,.live wd rows' false)] u=.live wd' rows'' ro→μ u=some B'→B'.virt=false→w.heap.size≤B'.b∨
      ∃t1 wd1 rows1 ro1 B1,σ.mem t1=.live wd1 rows1 ro1∧μ t1=some B1∧B1.b=B'.b∧B1.virt=false∧(ro=false→ro1=false):=by
    intro u wd' rows'' ro B' h1 h2 hv'
    by_cases hu:u=t
    ·subst hu;rw[hB] at h2;cases h2;exact .inr ⟨u,wd,rows,false,B,ht,hB,rfl,hv,fun _=>rfl⟩
    ·simp[br,hu] at h1;exact .inr ⟨u,wd',rows'',ro,B',h1,h2,rfl,hv',id⟩
  have g:=h.grow size j6 shape (fun _ _ h=>h) (fD old)
  obtain⟨B0,hB0,hobj⟩:=h.objs t wd rows false ht
  rw[hB] at hB0;cases hB0
  refine h.step size rfl rfl rfl j6 shape (fun _ _ h=>h) old (fun u=>?_) (fun u wd' rows'' ro hu=>?_) ?_
  · by_cases hu:u=t
    ·subst hu;simp[br,hB]
    ·simp[br,hu,h.free u]
  · by_cases hut:u=t
    · subst hut
      simp[br] at hu
      obtain⟨rfl,rfl,rfl⟩:=hu
      obtain⟨C0,e0,fz,k1,k2,k3⟩:=hobj.blk hv hmp
      rw[hC] at k1;cases k1
      refine⟨B,hB,hobj.width,hw,fun _ _=>⟨C',e,(0,0),hheap,fun _=>rfl,by rw[hl,hsz];exact k3⟩,(fun h=>by rw[hv] at h;cases h),fun _ q c hq=>?_,(fun h=>by rw[hmp] at h;cases h),(fun h=>by rw[hmp] at h;cases h)⟩
      obtain⟨v,h1,h2⟩:=hc q c hq
      exact⟨v,by simp[World.cell?,hheap,h1],h2.grow g⟩
    · simp[br,hut] at hu
      obtain⟨B',h1,h2⟩:=h.objs u wd' rows'' ro hu
      exact⟨B',h1,h2.grow g fun hv'=>(setRow_other w B.b B'.b C' (fun e=>h.inj t u wd rows wd' rows'' ro B B' (fun e=>hut e.symm) ht hu hB h1 hv hv' e.symm))⟩
  · intro u u' wd1 r1 wd2 r2 ro2 B1 B2 hne h1 h2 h3 h4 v1 v2
    have f1:∃wd r,σ.mem u=.live wd r false:=by
      by_cases hu:u=t
      ·subst hu;exact⟨_,_,ht⟩
      ·simp[br,hu] at h1;exact⟨_,_,h1⟩
    have f2:∃wd r ro,σ.mem u'=.live wd r ro:=by
      by_cases hu:u'=t
      ·subst hu;exact⟨_,_,_,ht⟩
      ·simp[br,hu] at h2;exact⟨_,_,_,h2⟩
    obtain⟨x1,y1,f1⟩:=f1
    obtain⟨x2,y2,z2,f2⟩:=f2
    exact h.inj u u' _ _ _ _ _ B1 B2 hne f1 f2 h3 h4 v1 v2
theorem cz.drop (h:cz P N w0 W0 L μ σ a w){m':Nat→MS}
    (hm:∀t,m' t=σ.mem t∨(m' t=.dead∧σ.mem t≠ .free)∨∃wd rows ro,σ.mem t=.live wd rows ro∧m' t=.live wd rows true):
    cz P N w0 W0 L μ ⟨σ.slots,m'⟩ a w:=by
  have old:∀t wd rows ro,m' t=.live wd rows ro→∃ro',σ.mem t=.live wd rows ro'∧(ro=false→ro'=false):=by
    intro t wd rows ro ht
    rcases hm t with h1|⟨h1,_⟩|⟨wd',rows',ro',h1,h2⟩
    ·exact⟨ro,by rw[←h1];exact ht,id⟩
    ·rw[h1] at ht;cases ht
    ·rw[h2] at ht;cases ht;exact⟨ro',h1,fun h=>by cases h⟩
  have old':∀t wd rows ro B,m' t=.live wd rows ro→μ t=some B→B.virt=false→w.heap.size≤B.b∨∃t1 wd1 rows1 ro1 B1,σ.mem t1=.live wd1 rows1 ro1∧μ t1=some B1∧B1.b=B.b∧B1.virt=false∧(ro=false→ro1=false):=by
    intro t wd rows ro B h1 h2 hv
    obtain⟨ro',k1,k2⟩:=old t wd rows ro h1
    exact .inr ⟨t,wd,rows,ro',B,k1,h2,rfl,hv,k2⟩
  have g:=h.grow (w':=w) (Nat.le_refl _) (fun _ _ _=>rfl) (fun _ _ _ h=>h) (fun _ _ h=>h) (fD old')
  refine h.step (Nat.le_refl _) rfl rfl rfl (fun _ _ _=>rfl) (fun _ _ _ h=>h) (fun _ _ h=>h) old' (fun t=>?_) (fun t wd rows ro ht=>?_) ?_
  · rw[←h.free t]
    rcases hm t with h1|⟨h1,h2⟩|⟨wd',rows',ro',h1,h2⟩
    ·rw[h1]
    ·simp[h1,h2]
    ·simp[h1,h2]
  · obtain⟨ro',k1,k2⟩:=old t wd rows ro ht
    obtain⟨B,h1,h2⟩:=h.objs t wd rows ro' k1
    refine⟨B,h1,?_⟩
    have h3:=h2.grow g fun _=>rfl
    cases ro with
    |true=>exact h3.ro
    |false=>rw[k2 rfl] at h3;exact h3
  · intro u u' wd1 r1 wd2 r2 ro2 B1 B2 hne h1 h2 h3 h4 v1 v2
    obtain⟨x,k1,k2⟩:=old _ _ _ _ h1
    rw[k2 rfl] at k1
    obtain⟨y,k3,_⟩:=old _ _ _ _ h2
    exact h.inj u u' _ _ _ _ _ B1 B2 hne k1 k3 h3 h4 v1 v2
end
def Ce (P:Program)(N:Nat)(o:Oper)(σ σ':aA):Prop:=
  ∀ (w0:World) (W0:Nat→Prop) (L μ:Mu) (a:Act) (w:World) (K:Act→World→Prop) (Q:Exit→Act→World→Prop),cz P N w0 W0 L μ σ a w→
    (∀μ' a' w',cz P N w0 W0 L μ' σ' a' w'→K a' w')→o.wp P a w K Q
def aG (P:Program)(N:Nat)(o:Oper)(σ:aA)(rd:List Nat)(v:AV)(ups:List (Nat×MS)):Prop:=
  ∀σ2:aA,(∀x∈o.op.operands,σ2.eval x=σ.eval x)→(∀t∈rd,σ2.mem t=σ.mem t)→Ce P N o σ2 (σ2.yI o.dst v ups)
structure jg where
  o:Oper
  want:Bool
  σ:aA
  rd:List Nat
  v:AV
  ups:List (Nat×MS)
def aA.app (σ:aA)(e:jg):aA:=σ.yI e.o.dst e.v e.ups
def Holds (ops:Array Oper)(e:jg)(σ:aA):Prop:=(∀s∈e.o.looksAt ops,σ.slots s=e.σ.slots s)∧∀t∈e.rd,σ.mem t=e.σ.mem t
def gv (v:Value)(b:Bool):Bool:=match v with
  |.bool c=>c==b
  |_=>false
def gA (N:Nat)(ops:Array Oper)(o:Oper)(σ:aA)(want:Bool):Prop:=
  match o.guard with
  |none=>want=true
  |some (j,b)=> ∃d v,(ops[j]?).bind (·.dst)=some d∧d<N∧σ.slots d=.lit v∧want=gv v b
structure qu (P:Program) (N:Nat) (ops:Array Oper) (e:jg):Prop where
  wanted:gA N ops e.o e.σ e.want
  dst:∀d,e.o.dst=some d→d<N
  ok:e.want=true→aG P N e.o e.σ e.rd e.v e.ups
  no:e.want=false→e.v=.lit undef∧e.ups=[]
section
variable {P : Program} {N : Nat} {ops : Array Oper} {w0 : World} {W0 : Nat → Prop} {L μ : Mu} {σ : aA} {a : Act} {w : World}
theorem xN (h:cz P N w0 W0 L μ σ a w){o:Oper}{want:Bool}(hw:gA N ops o σ want):Region.wanted o (yielded ops a.tmps)=want:=by
  unfold gA at hw
  unfold Region.wanted
  split at hw
  ·rename_i hg;simp[hg,hw]
  · rename_i j b hg
    obtain⟨d,c,h1,h2,h3,h4⟩:=hw
    have hs:=h.slots d
    rw[h3] at hs
    have hv:a.tmps.getD d undef=c:=by generalize a.tmps.getD d undef=v at hs;cases hs;rfl
    have hg':a.tmps[d]? =some c:=by
      have hlt:d<a.tmps.size:=by rw[h.tsize];exact h2
      simp[hlt] at hv ⊢
      exact hv
    simp only[hg,yielded,h1,Option.bind_some,hg',h4]
    unfold gv
    cases c with
    |bool c=>cases c<;>cases b<;>rfl
    |_=>rfl
theorem Holds.wanted {e:jg}(hh:Holds ops e σ){want:Bool}(hw:gA N ops e.o e.σ want):gA N ops e.o σ want:=by
  unfold gA at*
  cases hg:e.o.guard with
  |none=>simpa[hg] using hw
  | some jb=>
    obtain⟨j,b⟩:=jb
    simp only[hg] at hw ⊢
    obtain⟨d,c,h1,h2,h3,h4⟩:=hw
    refine⟨d,c,h1,h2,?_,h4⟩
    rw[hh.1 d (by simp[Oper.looksAt,hg,h1]),h3]
theorem Holds.eval {e:jg}(hh:Holds ops e σ):∀x∈e.o.op.operands,σ.eval x=e.σ.eval x:=by
  intro x hx
  cases x with
  |tmp t=>exact hh.1 t (List.mem_append_left _ (List.mem_filterMap.2 ⟨.tmp t,by simpa using hx,rfl⟩))
  |_=>rfl
theorem G3 {e:jg}(hg:qu P N ops e)(hh:Holds ops e σ)(h:cz P N w0 W0 L μ σ a w){K:Act→World→Prop}{Q:Exit→Act→World→Prop}
    (hK:∀μ' a' w',cz P N w0 W0 L μ' (σ.app e) a' w'→K a' w'):
    if Region.wanted e.o (yielded ops a.tmps) then e.o.wp P a w K Q∨(e.o.asks P a w∧LetsOut Q) else K (a.put e.o.dst undef) w:=by
  have hw:=xN h (hh.wanted hg.wanted)
  rw[hw]
  cases hwant:e.want with
  |true=>simp only[if_true];exact .inl (hg.ok hwant σ hh.eval hh.2 _ _ _ _ _ _ _ _ h hK)
  | false=>
    simp only[Bool.false_eq_true,if_false]
    obtain⟨h1,h2⟩:=hg.no hwant
    refine hK μ _ _ ?_
    unfold aA.app aA.yI
    rw[h1,h2]
    exact h.put .lit hg.dst
def gH (P:Program)(N:Nat)(ops:Array Oper):List Oper→aA→(List jg→aA→Prop)→Prop
  |[],σ,K=>K [] σ
  |o::rest,σ,K=> ∃e:jg,e.o=o∧e.σ=σ∧qu P N ops e∧gH P N ops rest (σ.app e) (fun es σ'=>K (e::es) σ')
theorem Holds.self {e:jg}:Holds ops e e.σ:=⟨fun _ _=>rfl,fun _ _=>rfl⟩
theorem gH.list {Q:Exit→Act→World→Prop}:∀ {l:List Oper} {σ:aA} {K:List jg→aA→Prop} {μ:Mu} {a:Act} {w:World},gH P N ops l σ K→cz P N w0 W0 L μ σ a w→
    (∀es σ',K es σ'→∀μ' a' w',cz P N w0 W0 L μ' σ' a' w'→Q .normal a' w')→wpList P ops Q l a w
  |[],σ,K,μ,a,w,h,hs,hK=>hK [] σ h μ a w hs
  | o::rest,σ,K,μ,a,w,h,hs,hK=>by
    obtain⟨e,rfl,rfl,hg,hr⟩:=h
    have:=G3 (K:=wpList P ops Q rest) (Q:=Q) hg Holds.self hs (fun μ' a' w' h'=>gH.list hr h' fun es σ' hk=>hK (e::es) σ' hk)
    unfold wpList
    exact this
def kf (x y:List Nat×List Nat):Bool:=x.2.all (fun t=> !y.1.contains t&& !y.2.contains t)&&y.2.all (fun t=> !x.1.contains t)
def jg.toks (e:jg):List Nat×List Nat:=(e.rd,e.ups.map (·.1))
theorem oA {m:Nat→MS}{ups:List (Nat×MS)}{t:Nat}(h:t∉ups.map (·.1)):br m ups t=m t:=by
  induction ups with
  |nil=>rfl
  | cons x r ih=>
    obtain⟨u,s⟩:=x
    simp at h
    simp only[br]
    rw[if_neg h.1]
    exact ih (by simpa using h.2)
theorem Em {m m':Nat→MS}{ups:List (Nat×MS)}{t:Nat}(h:t∈ups.map (·.1)):br m ups t=br m' ups t:=by
  induction ups with
  |nil=>simp at h
  | cons x r ih=>
    obtain⟨u,s⟩:=x
    simp only[br]
    split
    ·rfl
    ·rename_i hne;exact ih (by simp at h;simpa using h.resolve_left hne)
theorem FT {s:Nat→AV}{d e:Option Tmp}{x y:AV}(h:∀i,d=some i→e≠some i):dA (dA s d x) e y=dA (dA s e y) d x:=by
  cases d with
  |none=>rfl
  | some d=>
    cases e with
    |none=>rfl
    | some e=>
      have hne:d≠e:=fun h'=>h d rfl (h'▸rfl)
      funext i
      simp only[dA]
      by_cases h1:i=d
      ·subst h1;simp[hne]
      ·simp[h1]
theorem oP {x y:List Nat×List Nat}(h:kf x y=true):(∀t∈x.2,t∉y.1)∧(∀t∈x.2,t∉y.2)∧(∀t∈y.2,t∉x.1):=by
  simp[kf] at h
  exact⟨fun t ht=>(h.1 t ht).1,fun t ht=>(h.1 t ht).2,fun t ht=>h.2 t ht⟩
theorem Ir {x y:jg}(hd:∀i,x.o.dst=some i→y.o.dst≠some i)(ht:kf x.toks y.toks=true):(σ.app x).app y=(σ.app y).app x:=by
  obtain⟨_,h2,_⟩:=oP ht
  unfold aA.app aA.yI
  simp only
  rw[FT hd]
  congr 1
  funext t
  by_cases hx:t∈x.ups.map (·.1)
  · have hy:t∉y.ups.map (·.1):=h2 t hx
    rw[oA hy,Em (m':=br σ.mem y.ups) hx]
  · rw[oA (ups:=x.ups) hx]
    by_cases hy:t∈y.ups.map (·.1)
    ·rw[Em (m':=σ.mem) hy]
    ·rw[oA hy,oA hy,oA hx]
theorem Holds.app {x y:jg}(hs:∀d,x.o.dst=some d→d∉y.o.looksAt ops)(ht:∀t∈x.ups.map (·.1),t∉y.rd):Holds ops y (σ.app x)↔Holds ops y σ:=by
  unfold Holds
  have h1:∀s∈y.o.looksAt ops,(σ.app x).slots s=σ.slots s:=by
    intro s hm
    unfold aA.app aA.yI
    cases hd:x.o.dst with
    |none=>rfl
    | some d=>
      have:s≠d:=fun e=>hs d hd (e▸hm)
      simp[dA,this]
  have h2:∀t∈y.rd,(σ.app x).mem t=σ.mem t:=fun t hm=>oA (fun hx=>ht t hx hm)
  constructor
  · rintro⟨a,b⟩
    exact⟨fun s hm=>by rw[←h1 s hm,a s hm],fun t hm=>by rw[←h2 t hm,b t hm]⟩
  · rintro⟨a,b⟩
    exact⟨fun s hm=>by rw[h1 s hm,a s hm],fun t hm=>by rw[h2 t hm,b t hm]⟩
def Hj (ops:Array Oper)(es:List jg)(K:aA→Prop):Nat→Array Bool→aA→Prop
  |0,listed,σ=>Region.ready .any ops listed=[]∧K σ
  |fuel+1,listed,σ=>(Region.ready .any ops listed=[]→K σ)∧
      ∀i∈Region.ready .any ops listed,∃e,es[i]? =some e∧Holds ops e σ∧Hj ops es K fuel (listed.setIfInBounds i true) (σ.app e)
def Fits (P:Program)(N:Nat)(ops:Array Oper)(es:List jg):Prop:=∀ (i:Nat) (e:jg),es[i]? =some e→ops[i]? =some e.o∧qu P N ops e
def Bb (ops:Array Oper)(ts:List (List Nat×List Nat)):Bool:=
  (List.range ts.length).all fun j=>(List.range j).all fun i=>
    (match ops[j]? with
     |some o=>o.after.any fun e=>Region.binds .any e&&e.on==i
     |none=>false)||kf (ts.getD i ([],[])) (ts.getD j ([],[]))
theorem gH.trace {l:List Oper}:∀ {σ:aA} {K:List jg→aA→Prop},gH P N ops l σ K→∃es σ',K es σ'∧es.length=l.length∧(∀ (i:Nat) (e:jg),es[i]? =some e→l[i]? =some e.o∧qu P N ops e)∧
    (∀k,k≤l.length→∃σk,(k=0→σk=σ)∧(k=l.length→σk=σ')∧∀e,es[k]? =some e→e.σ=σk)∧
    (∀ (k:Nat) (e e':jg),es[k]? =some e→es[k+1]? =some e'→e'.σ=e.σ.app e)∧(∀e,es[0]? =some e→e.σ=σ)∧(∀e,es.getLast? =some e→σ'=e.σ.app e)∧(es=[]→σ'=σ):=by
  induction l with
  | nil=>
    intro σ K h
    exact⟨[],σ,h,rfl,by simp,fun k hk=>⟨σ,by simp,by simp,by simp⟩,by simp,by simp,by simp,by simp⟩
  | cons o rest ih=>
    intro σ K h
    obtain⟨e,rfl,rfl,hg,hr⟩:=h
    obtain⟨es,σ',h1,h2,h3,h4,h5,h6,h7,h8⟩:=ih hr
    refine⟨e::es,σ',h1,by simp[h2],?_,?_,?_,by simp,?_,by simp⟩
    · intro i e' hi
      cases i with
      |zero=>simp at hi;subst hi;exact⟨rfl,hg⟩
      |succ i=>exact h3 i e' (by simpa using hi)
    · intro k hk
      cases k with
      |zero=>exact⟨e.σ,fun _=>rfl,by simp,by simp⟩
      | succ k=>
        obtain⟨σk,a1,a2,a3⟩:=h4 k (by simpa using hk)
        exact⟨σk,by simp,fun h=>a2 (by simpa using h),fun e' he=>a3 e' (by simpa using he)⟩
    · intro k x y hx hy
      cases k with
      | zero=>
        simp at hx hy
        subst hx
        exact h6 y (by simpa using hy)
      |succ k=>exact h5 k x y (by simpa using hx) (by simpa using hy)
    · intro x hx
      cases es with
      |nil=>simp at hx;subst hx;exact h8 rfl
      |cons z zs=>exact h7 x (by simpa using hx)
end
theorem c7 {l:List AV}:bu l=true↔ ∀x∈l,bD x=true:=by
  induction l with
  |nil=>simp[bu]
  |cons x xs ih=>simp[bu,ih]
theorem iJ {α:Type}(f:α→AV)(h:∀a,bD (f a)=true)(l:List α):bu (l.map f)=true:=c7.2 fun x hx=>by
  obtain⟨a,_,rfl⟩:=List.mem_map.1 hx;exact h a
theorem nU {x c:AV}(h:bD x=true)(hc:c∈cells x):bD c=true:=by
  cases x with
  |agg cs=>simp only[bD] at h;exact c7.1 h c hc
  | lit v=>
    cases v with
    | agg xs=>
      simp only[cells,List.mem_map] at hc
      obtain⟨a,_,rfl⟩:=hc;rfl
    |_=>simp only[cells,ic] at hc;subst hc;rfl
  |_=>simp only[cells,ic] at hc;subst hc;exact h
theorem C3 {rows:List AV}{c:AV}(h:bu rows=true)(hc:c∈flat rows):bD c=true:=by
  simp only[flat,List.mem_flatMap] at hc
  obtain⟨x,h1,h2⟩:=hc
  exact nU (c7.1 h x h1) h2
theorem cD.bD {W W':Nat→Prop}{μ μ':Mu}{w:World}(hW:∀b,b<w.heap.size→W' b→W b){x:AV}{v:Value}(h:cD W μ w x v)(hx:Am.bD x=true):cD W' μ' w x v:=by
  induction h with
  |any=>exact .any
  |guess h1 h2=>exact .guess h1 h2
  |emp=>exact .emp
  |lit=>exact .lit
  |slNil=>exact .slNil
  |sl a b c d e f _ hnr ih=>exact .sl (fun h=>a (hW _ b h)) b c d e f (fun q c hq=>ih q c hq (hnr c (bV hq))) hnr
  |own=>simp[Am.bD] at hx
  |ownNil=>simp[Am.bD] at hx
  |ptr=>simp[Am.bD] at hx
  |mapr=>simp[Am.bD] at hx
  |fmap hW' hb h1 h2 h3 h4 h5 _ hn ih=>exact .fmap (fun h=>hW' (hW _ hb h)) hb h1 h2 h3 h4 h5 (fun i key x hi=>ih i key x hi (by have:=hn _ (bV hi);simpa[entry,Am.bD,bu] using this)) hn
  |fptr a b c _ hnr ih=>exact .fptr (fun h=>a (hW _ b h)) b c (fun q c hq=>ih q c hq (hnr c (bV hq))) hnr
  |agg a _ ih=>exact .agg a (fun j c v h1 h2=>ih j c v h1 h2 (c7.1 (by simpa[Am.bD] using hx) c (bV h1)))
  |tup a _ ih=>exact .tup a (fun j c v h1 h2=>ih j c v h1 h2 (c7.1 (by simpa[Am.bD] using hx) c (bV h1)))
  | clo a b _ _ ih1 ih2=>
    simp[Am.bD] at hx
    exact .clo a b (fun j c v h1 h2=>ih1 j c v h1 h2 (c7.1 hx.1 c (bV h1))) (fun j c v h1 h2=>ih2 j c v h1 h2 (c7.1 hx.2 c (bV h1)))
inductive Cv (m:Nat→MS) (ρ:Nat→Nat) (D F:Nat→Prop):AV→AV→Prop
  |any {y}:Cv m ρ D F .any y
  |same {x}:bD x=true→Cv m ρ D F x x
  |own {t o l}:D t→Cv m ρ D F (.own t o l) (.own (ρ t) o l)
  |ptr {t i k}:D t→Cv m ρ D F (.ptr t i k) (.ptr (ρ t) i k)
  |mapr {t}:D t→Cv m ρ D F (.mapr t) (.mapr (ρ t))
  |fmap {s wd rows rows' ro}:F s→m s=.live wd rows ro→rows'.length=rows.length→(∀ (i:Nat) (r':AV),rows'[i]? =some r'→∃key x' x,r'=entry key x'∧rows[i]? =some (entry key x))→
      (∀ (i:Nat) (key key':Value) (x' x:AV),rows'[i]? =some (entry key' x')→rows[i]? =some (entry key x)→Cv m ρ D F x' x)→(∀r∈rows',bD r=true)→Cv m ρ D F (.fmap rows') (.mapr s)
  |nil {wd}:Cv m ρ D F (.sl wd []) (.lit (.slice none 0 0))
  |nilE:Cv m ρ D F .emp (.lit (.slice none 0 0))
  |empS {wd}:Cv m ρ D F (.sl wd []) .emp
  |frz {s off len wd rows rows' ro}:F s→m s=.live wd rows ro→bJ wd rows'→off+len≤rows.length→rows'.length=len→
      (∀ (q:Nat) (c d:AV),(flat rows')[q]? =some c→(flat ((rows.drop off).take len))[q]? =some d→Cv m ρ D F c d)→(∀c∈flat rows',bD c=true)→Cv m ρ D F (.sl wd rows') (.own s off len)
  |frzp {s i k wd rows ro r r'}:F s→m s=.live wd rows ro→rows[i]? =some r→(cells r').length=wd→
      (∀ (q:Nat) (c d:AV),(cells r')[q]? =some c→(cells r)[q]? =some d→Cv m ρ D F c d)→(∀c∈cells r',bD c=true)→Cv m ρ D F (.fptr r' k) (.ptr s i k)
  |agg {cs ds:List AV}:cs.length=ds.length→(∀ (q:Nat) (c d:AV),cs[q]? =some c→ds[q]? =some d→Cv m ρ D F c d)→Cv m ρ D F (.agg cs) (.agg ds)
  |tup {cs ds:List AV}:cs.length=ds.length→(∀ (q:Nat) (c d:AV),cs[q]? =some c→ds[q]? =some d→Cv m ρ D F c d)→Cv m ρ D F (.tup cs) (.tup ds)
  |clo {f:Fn} {as bs cs ds:List AV}:as.length=bs.length→cs.length=ds.length→(∀ (q:Nat) (c d:AV),as[q]? =some c→bs[q]? =some d→Cv m ρ D F c d)→
      (∀ (q:Nat) (c d:AV),cs[q]? =some c→ds[q]? =some d→Cv m ρ D F c d)→Cv m ρ D F (.clo f as cs) (.clo f bs ds)
def ig (m:Nat→MS)(ρ:Nat→Nat)(D F:Nat→Prop)(cs ds:List AV):Prop:=cs.length=ds.length∧∀ (q:Nat) (c d:AV),cs[q]? =some c→ds[q]? =some d→Cv m ρ D F c d
section
variable {m : Nat → MS} {ρ : Nat → Nat} {D F : Nat → Prop}
theorem ig.nil:ig m ρ D F [] []:=⟨rfl,by simp⟩
theorem ig.cons {c d:AV}{cs ds:List AV}(h:Cv m ρ D F c d)(hs:ig m ρ D F cs ds):ig m ρ D F (c::cs) (d::ds):=
  ⟨by simp[hs.1],fun q x y h1 h2=>by
    cases q with
    |zero=>simp at h1 h2;subst h1;subst h2;exact h
    |succ q=>exact hs.2 q x y (by simpa using h1) (by simpa using h2)⟩
theorem ig.same {cs:List AV}(h:bu cs=true):ig m ρ D F cs cs:=
  ⟨rfl,fun q x y h1 h2=>by rw[h1] at h2;cases h2;exact .same (c7.1 h x (bV h1))⟩
theorem Cv.uM {cs ds:List AV}(h:ig m ρ D F cs ds):Cv m ρ D F (.agg cs) (.agg ds):=.agg h.1 h.2
theorem Cv.uE {cs ds:List AV}(h:ig m ρ D F cs ds):Cv m ρ D F (.tup cs) (.tup ds):=.tup h.1 h.2
theorem Cv.MD {f:Fn}{as bs cs ds:List AV}(h:ig m ρ D F as bs)(h':ig m ρ D F cs ds):Cv m ρ D F (.clo f as cs) (.clo f bs ds):=.clo h.1 h'.1 h.2 h'.2
theorem ig.append {a b c d:List AV}(h:ig m ρ D F a b)(k:ig m ρ D F c d):ig m ρ D F (a++c) (b++d):=by
  refine⟨by simp[h.1,k.1],fun q x y h1 h2=>?_⟩
  rw[List.getElem?_append] at h1 h2
  rw[←h.1] at h2
  split at h1
  ·rename_i hq;rw[if_pos hq] at h2;exact h.2 _ _ _ h1 h2
  ·rename_i hq;rw[if_neg hq] at h2;exact k.2 _ _ _ h1 h2
theorem Cv.cells {x y:AV}(h:Cv m ρ D F x y)(hl:(Am.cells x).length=(Am.cells y).length):ig m ρ D F (Am.cells x) (Am.cells y):=by
  cases h with
  |same hx=>exact⟨rfl,fun q c d h1 h2=>by rw[h1] at h2;cases h2;exact .same (nU hx (bV h1))⟩
  |agg a b=>exact⟨a,b⟩
  | any=>
    refine⟨hl,fun q c d h1 h2=>?_⟩
    simp[Am.cells] at h1
    have:q=0:=by
      rcases q with _|q
      ·rfl
      ·simp at h1
    subst this;simp at h1;subst h1;exact .any
  |own a=>exact .cons (.own a) .nil
  |ptr a=>exact .cons (.ptr a) .nil
  |mapr a=>exact .cons (.mapr a) .nil
  |fmap a b c d e f=>exact .cons (.fmap a b c d e f) .nil
  |nil=>exact .cons .nil .nil
  |nilE=>exact .cons .nilE .nil
  |empS=>exact .cons .empS .nil
  |frz a b c d e f g=>exact .cons (.frz a b c d e f g) .nil
  |frzp a b c d e f=>exact .cons (.frzp a b c d e f) .nil
  |tup a b=>exact .cons (.tup a b) .nil
  |clo a b c d=>exact .cons (.clo a b c d) .nil
theorem ig.flat {cs ds:List AV}{wd:Nat}(h:ig m ρ D F cs ds)(h1:bJ wd cs)(h2:bJ wd ds):ig m ρ D F (Am.flat cs) (Am.flat ds):=by
  induction cs generalizing ds with
  | nil=>
    cases ds with
    |nil=>exact .nil
    |cons d ds=>simp[ig] at h
  | cons c cs ih=>
    cases ds with
    |nil=>simp[ig] at h
    | cons d ds=>
      rw[fF,fF]
      exact((h.2 0 c d rfl rfl).cells (by rw[h1.tail.1,h2.tail.1])).append (ih ⟨by simpa using h.1,fun q x y a b=>h.2 (q+1) x y (by simpa using a) (by simpa using b)⟩ h1.tail.2 h2.tail.2)
theorem Cv.Gz {s off len wd:Nat}{rows rows':List AV}{ro:Bool}(hF:F s)(hm:m s=.live wd rows ro)(hw:bJ wd rows')(hw2:bJ wd rows)(hl:off+len≤rows.length)
    (h:ig m ρ D F rows' ((rows.drop off).take len)) (hn:bu rows'=true):Cv m ρ D F (.sl wd rows') (.own s off len):=
  .frz hF hm hw hl (by rw[h.1,gE,List.length_drop];omega) ((h.flat hw (hw2.sub fun r hr=>List.mem_of_mem_drop (List.mem_of_mem_take hr))).2) (fun c hc=>C3 hn hc)
end
theorem k8 {wd:Nat}:∀ {rows:List AV} {off:Nat},bJ wd rows→flat (rows.drop off)=(flat rows).drop (off*wd)
  |[],off,_=>by simp[flat]
  |r::rows,0,_=>by simp
  | r::rows,off+1,h=>by
    rw[List.drop_succ_cons,k8 h.tail.2,fF,Nat.add_mul,Nat.one_mul,List.drop_append,h.tail.1,List.drop_eq_nil_of_le (as:=cells r) (by rw[h.tail.1];omega),List.nil_append]
    congr 1;omega
theorem lB {wd:Nat}:∀ {rows:List AV} {n:Nat},bJ wd rows→flat (rows.take n)=(flat rows).take (n*wd)
  |[],n,_=>by simp[flat]
  |r::rows,0,_=>by simp[flat]
  | r::rows,n+1,h=>by
    rw[List.take_succ_cons,fF,fF,lB h.tail.2,Nat.add_mul,Nat.one_mul,List.take_append,h.tail.1,sn (l:=cells r) (by rw[h.tail.1];omega)]
    congr 2;omega
theorem lM {wd:Nat}{rows:List AV}(h:bJ wd rows){off len q:Nat}{c:AV}(hc:(flat ((rows.drop off).take len))[q]? =some c):(flat rows)[off*wd+q]? =some c:=by
  rw[lB (wd:=wd) (h.sub fun r hr=>List.mem_of_mem_drop hr),k8 h,List.getElem?_take] at hc
  split at hc
  ·simpa using hc
  ·cases hc
theorem Cv.rep {W W':Nat→Prop}{μ μ':Mu}{w:World}{m:Nat→MS}{ρ:Nat→Nat}{D F:Nat→Prop}
    (objs:∀t wd rows ro,m t=.live wd rows ro→∃B,μ t=some B∧fM W μ w B wd rows ro)
    (hW:∀b,b<w.heap.size→W' b→W b) (hD:∀t,D t→μ' t=μ (ρ t)) (hF:∀s B,F s→μ s=some B→B.virt=false→¬W' B.b)
    {x y:AV} (h:Cv m ρ D F x y):∀ {v:Value},cD W μ w y v→cD W' μ' w x v:=by
  induction h with
  |any=>intro v _;exact .any
  |same hx=>intro v h;exact h.bD hW hx
  | own ht=>
    intro v h
    cases h with
    |own a b p c d e=>exact .own (by rw[hD _ ht];exact a) b p c d e
    |ownNil a=>exact .ownNil (by rw[hD _ ht];exact a)
  | ptr ht=>
    intro v h
    cases h with
    |ptr a p=>exact .ptr (by rw[hD _ ht];exact a) p
  | mapr ht=>
    intro v h
    cases h with
    |mapr a p=>exact .mapr (by rw[hD _ ht];exact a) p
  | @fmap s wd rows rows' ro hs hm hl hk hc hn ih=>
    intro v h
    obtain⟨B,hB,hobj⟩:=objs s wd rows ro hm
    cases h with
    | mapr a p=>
      rw[hB] at a;cases a
      have hv:=hobj.vm p
      obtain⟨es,clock,h1,h2,h3,h4,h5⟩:=hobj.OW p
      refine .fmap (f:=fun i=>((es[i]?).map (·.val)).getD undef) (hF s B hs hB hv) (hobj.lt hv) h1 h2 (by omega) h4 (fun i r hr=>?_) (fun i key' x' hi=>?_) hn
      · obtain⟨key,x',x,rfl,k0⟩:=hk i r hr
        obtain⟨e,k2,k3,k4⟩:=h5 i key x k0
        exact⟨key,x',e,rfl,k2,k3,by simp[k2]⟩
      · obtain⟨key,y',x,k1,k0⟩:=hk i _ hi
        obtain⟨e,k2,k3,k4⟩:=h5 i key x k0
        have:=ih i key key' x' x hi k0 k4
        simpa[k2] using this
  |nil=>intro v h;cases h;exact .slNil
  |nilE=>intro v h;cases h;exact .emp
  |empS=>intro v h;cases h;exact .slNil
  | @frz s off len wd rows rows' ro hs hm hw hle hl hc hnr ih=>
    intro v h
    obtain⟨B,hB,hobj⟩:=objs s wd rows ro hm
    have hlen:(flat rows').length=(flat ((rows.drop off).take len)).length:=by
      rw[cQ hw,cQ (wd:=wd) (hobj.wide.sub fun r hr=>List.mem_of_mem_drop (List.mem_of_mem_take hr)),hl,gE,List.length_drop]
      congr 1;omega
    have key:B.mp=false→∀ (q:Nat) (c:AV),(flat rows')[q]? =some c→∃v,w.cell? ⟨B.b,B.o+off*B.wd+q,none⟩=some v∧cD W' μ' w c v:=by
      intro hmp q c hq
      have hql:q< (flat ((rows.drop off).take len)).length:=by rw[←hlen];exact(bj hq).1
      obtain⟨d,hd⟩:∃d,(flat ((rows.drop off).take len))[q]? =some d:=⟨_,bA hql⟩
      obtain⟨v,h1,h2⟩:=hobj.cell hmp _ d (lM hobj.wide hd)
      refine⟨v,?_,ih q c d hq hd h2⟩
      rw[hobj.width,Nat.add_assoc];exact h1
    cases h with
    | own a hv hp b c d=>
      rw[hB] at a;cases a
      have key:=key hp
      have hne:=hF s B hs hB hv
      have hlt:B.b<w.heap.size:=hobj.lt hv
      have key':∀q,∃v,∀c,(flat rows')[q]? =some c→w.cell? ⟨B.b,B.o+off*B.wd+q,none⟩=some v∧cD W' μ' w c v:=fun q=>by
        cases hq:(flat rows')[q]? with
        |none=>exact⟨undef,by simp⟩
        |some c=>obtain⟨v,hv⟩:=key q c hq;exact⟨v,fun c' h'=>by cases h';exact hv⟩
      obtain⟨f,hf⟩:=Classical.skolem.1 key'
      exact .sl hne hlt hl.symm b hw (fun q c hq=>(hf q c hq).1) (fun q c hq=>(hf q c hq).2) hnr
    | ownNil a=>
      have:rows'=[]:=List.eq_nil_of_length_eq_zero hl
      subst this;exact .slNil
  | @frzp s i k wd rows ro r r' hs hm hr hw hc hnr ih=>
    intro v h
    obtain⟨B,hB,hobj⟩:=objs s wd rows ro hm
    have hv:=hobj.real hr
    have hne:=hF s B hs hB hv
    have hlt:B.b<w.heap.size:=hobj.lt hv
    have hrw:=hobj.wide i r hr
    have key:B.mp=false→∀ (q:Nat) (c:AV),(Am.cells r')[q]? =some c→∃v,w.cell? ⟨B.b,B.o+i*B.wd+q,none⟩=some v∧cD W' μ' w c v:=by
      intro hmp q c hq
      have hql:q< (Am.cells r).length:=by rw[hrw,←hw];exact(bj hq).1
      obtain⟨d,hd⟩:∃d,(Am.cells r)[q]? =some d:=⟨_,bA hql⟩
      obtain⟨v,h1,h2⟩:=hobj.cell hmp _ d (eN hobj.wide hr hd)
      refine⟨v,?_,ih q c d hq hd h2⟩
      rw[hobj.width,Nat.add_assoc];exact h1
    cases h with
    | ptr a hp=>
      rw[hB] at a;cases a
      have key:=key hp
      have key':∀q,∃v,∀c,(Am.cells r')[q]? =some c→w.cell? ⟨B.b,B.o+i*B.wd+q,none⟩=some v∧cD W' μ' w c v:=fun q=>by
        cases hq:(Am.cells r')[q]? with
        |none=>exact⟨undef,by simp⟩
        |some c=>obtain⟨v,hv⟩:=key q c hq;exact⟨v,fun c' h'=>by cases h';exact hv⟩
      obtain⟨f,hf⟩:=Classical.skolem.1 key'
      rw[←Nat.add_assoc]
      exact .fptr hne hlt (fun q c hq=>(hf q c hq).1) (fun q c hq=>(hf q c hq).2) hnr
  | agg hl hc ih=>
    intro v h
    cases h with
    | agg a b=>
      refine .agg (by rw[a,hl]) (fun j c v h1 h2=>?_)
      have hj:=(bj h1).1
      rw[hl] at hj
      exact ih j c _ h1 (bA hj) (b j _ v (bA hj) h2)
  | tup hl hc ih=>
    intro v h
    cases h with
    | tup a b=>
      refine .tup (by rw[a,hl]) (fun j c v h1 h2=>?_)
      have hj:=(bj h1).1
      rw[hl] at hj
      exact ih j c _ h1 (bA hj) (b j _ v (bA hj) h2)
  | clo hl1 hl2 hc1 hc2 ih1 ih2=>
    intro v h
    cases h with
    | clo a a' b b'=>
      refine .clo (by rw[a,hl1]) (by rw[a',hl2]) (fun j c v h1 h2=>?_) (fun j c v h1 h2=>?_)
      · have hj:=(bj h1).1
        rw[hl1] at hj
        exact ih1 j c _ h1 (bA hj) (b j _ v (bA hj) h2)
      · have hj:=(bj h1).1
        rw[hl2] at hj
        exact ih2 j c _ h1 (bA hj) (b' j _ v (bA hj) h2)
def ko (rd:Option Nat):Fence:={Fence.wide with round:=rd}
def nu (o:Oper):Bool:=match o.op with
  |.defer _=>false
  |_=>true
def dO:Code→Bool
  |.region _ ops _=>ops.toList.all nu
  |.seq a b=>dO a&&dO b
  |.cond _ a b=>dO a&&dO b
  |.block _ c=>dO c
  |.loop c=>dO c
  |.scope c=>dO c
  |.rangeFunc _ _ _ _=>false
  |.skip=>true
  |.exit _=>true
  |.label _=>true
  |.goto _=>true
  |_=>true
theorem AF {rd:Option Nat}{P:Program}{row:String}{args:Array Value}{w:World}{R:Value→World→Prop}(h:Rows P row args w R):RowsIn (ko rd) 0 P row args w R:=
  fun c cs _=>let⟨v,w',r,s⟩:=h c cs;⟨v,w',r,stepsIn_wide.2 s⟩
theorem oN {rd:Option Nat}{n:Nat}{P:Program}{f:FuncId}{args:Array Value}{w:World}{R:Ending→World→Prop}(h:Calls P f args w R):CallsIn (ko rd) n P f args w R:=
  (callsIn_wide (n:=n)).2 h
theorem Oper.uW {P:Program}{rd:Option Nat}{o:Oper}{a:Act}{w:World}{K:Act→World→Prop}{Q:Exit→Act→World→Prop}(hd:rd=none∨nu o=true)(h:o.wp P a w K Q):o.wpIn (ko rd) 0 P a w K Q:=by
  refine⟨fun _ _=>trivial,?_⟩
  have e:o.semAt (ko rd).round a.eval=execOp a.eval o:=by
    rcases hd with rfl|hd
    ·rfl
    ·exact Oper.semAt_eq _ _ _ (fun c hc=>by simp[nu,hc] at hd)
  rw[e]
  unfold Oper.wp at h
  generalize(execOp a.eval o).run P w=r at h ⊢
  cases r with
  | ok x w'=>
    cases x<;>simp only[Oper.upon,Oper.uponIn] at h ⊢ <;>
      first
        |exact h
        |exact h.elim
        |exact⟨fun h=>(by cases h),oN h⟩
        |exact⟨fun h=>(by cases h),AF h⟩
  |halt x w'=>cases x<;>simp only[Oper.upon,Oper.uponIn] at h ⊢ <;>exact h
section
variable {P : Program} {N : Nat} {ops : Array Oper} {σ : aA} {w0 : World} {W0 : Nat → Prop} {L μ : Mu} {a : Act} {w : World}
theorem xg {e:jg}(hg:qu P N ops e)(hh:Holds ops e σ)(h:cz P N w0 W0 L μ σ a w){K:Act→World→Prop}{Q:Exit→Act→World→Prop}
    (hK:∀μ' a' w',cz P N w0 W0 L μ' (σ.app e) a' w'→K a' w'):
    if Region.wanted e.o (yielded ops a.tmps) then e.o.wp P a w K Q else K (a.put e.o.dst undef) w:=by
  have hw:=xN h (hh.wanted hg.wanted)
  rw[hw]
  cases hwant:e.want with
  |true=>simp only[if_true];exact hg.ok hwant σ hh.eval hh.2 _ _ _ _ _ _ _ _ h hK
  | false=>
    simp only[Bool.false_eq_true,if_false]
    obtain⟨h1,h2⟩:=hg.no hwant
    refine hK μ _ _ ?_
    unfold aA.app aA.yI
    rw[h1,h2]
    exact h.put .lit hg.dst
theorem gH.Hz {rd:Option Nat}{Q:Exit→Act→World→Prop}:∀ {l:List Oper} {σ:aA} {K:List jg→aA→Prop} {μ:Mu} {a:Act} {w:World},(rd=none∨l.all nu=true)→gH P N ops l σ K→cz P N w0 W0 L μ σ a w→
    (∀es σ',K es σ'→∀μ' a' w',cz P N w0 W0 L μ' σ' a' w'→Q .normal a' w')→wpListIn (ko rd) 0 P ops Q l a w
  |[],σ,K,μ,a,w,_,h,hs,hK=>hK [] σ h μ a w hs
  | o::rest,σ,K,μ,a,w,hp,h,hs,hK=>by
    obtain⟨e,rfl,rfl,hg,hr⟩:=h
    have hp1:rd=none∨nu e.o=true:=hp.imp (fun h=>h) fun h=>by simp only[List.all_cons,bO] at h;exact h.1
    have hp2:rd=none∨rest.all nu=true:=hp.imp (fun h=>h) fun h=>by simp only[List.all_cons,bO] at h;exact h.2
    have:=xg (K:=wpListIn (ko rd) 0 P ops Q rest) (Q:=Q) hg Holds.self hs (fun μ' a' w' h'=>gH.Hz hp2 hr h' fun es σ' hk=>hK (e::es) σ' hk)
    unfold wpListIn
    split at this
    ·rename_i hw;rw[if_pos hw];exact Oper.uW hp1 this
    ·rename_i hw;rw[if_neg hw];exact⟨fun _ _=>trivial,this⟩
theorem qq {rd:Option Nat}{es:List jg}{K:aA→Prop}{Q:Exit→Act→World→Prop}(hp:rd=none∨∀ (i:Nat) (o:Oper),ops[i]? =some o→nu o=true)(hf:Fits P N ops es)
    (hK:∀σ',K σ'→∀μ' a' w',cz P N w0 W0 L μ' σ' a' w'→Q .normal a' w'):
    ∀ (fuel:Nat) (listed:Array Bool) (σ:aA) (μ:Mu) (a:Act) (w:World),Hj ops es K fuel listed σ→cz P N w0 W0 L μ σ a w→wpAnyIn (ko rd) 0 P .any ops Q fuel listed a w
  |0,listed,σ,μ,a,w,h,hs=>⟨h.1,hK σ h.2 μ a w hs⟩
  | fuel+1,listed,σ,μ,a,w,h,hs=>by
    refine⟨fun hr=>hK σ (h.1 hr) μ a w hs,fun i hi=>?_⟩
    obtain⟨e,h1,h2,h3⟩:=h.2 i hi
    obtain⟨h4,h5⟩:=hf i e h1
    have:=xg (Q:=Q) h5 h2 hs (fun μ' a' w' h'=>qq hp hf hK fuel _ _ μ' a' w' h3 h')
    unfold wpOpIn
    simp only[h4]
    split at this
    ·rename_i hw;rw[if_pos hw];exact Oper.uW (hp.imp (fun h=>h) fun h=>h i _ h4) this
    ·rename_i hw;rw[if_neg hw];exact⟨fun _ _=>trivial,this⟩
end
def fj (P:Program)(N nL:Nat)(c:Code)(Q:Exit→aA→Prop)(σ:aA):Prop:=
  ∀ (rd:Option Nat),(rd=none∨dO c=true)→∀ (w0:World) (W0:Nat→Prop) (L μ:Mu) (a:Act) (w:World),((∀t,nL≤t→(t<jD∨rd=none)→L t=none)∧(rd=none→w0.drawn=0))→cz P N w0 W0 L μ σ a w→
    c.wpIn (ko rd) 0 P (fun e a' w'=> ∃μ' σ',Q e σ'∧cz P N w0 W0 L μ' σ' a' w') a w
def Ho (next:aA→Prop)(Q:Exit→aA→Prop):Exit→aA→Prop
  |.normal,σ=>next σ
  |e,σ=>Q e σ
def qd (id:Nat)(Q:Exit→aA→Prop):Exit→aA→Prop
  |.exit id',σ=>if id'=id then Q .normal σ else Q (.exit id') σ
  |e,σ=>Q e σ
section
variable {P : Program} {N nL : Nat} {Q : Exit → aA → Prop} {σ : aA}
theorem fj.seq {x y:Code}(h:fj P N nL x (Ho (fj P N nL y Q) Q) σ):fj P N nL (.seq x y) Q σ:=by
  intro rd hp w0 W0 L μ a w hL hs
  have hp1:rd=none∨dO x=true:=hp.imp (fun h=>h) fun h=>by simp only[dO,bO] at h;exact h.1
  have hp2:rd=none∨dO y=true:=hp.imp (fun h=>h) fun h=>by simp only[dO,bO] at h;exact h.2
  refine wpIn_seq (wpIn_mono (h rd hp1 w0 W0 L μ a w hL hs) ?_)
  rintro e a' w' ⟨μ',σ',hq,hs'⟩
  cases e with
  |normal=>exact hq rd hp2 w0 W0 L μ' a' w' hL hs'
  |_=>exact⟨μ',σ',hq,hs'⟩
theorem fj.skip (h:Q .normal σ):fj P N nL .skip Q σ:=fun _ _ _ _ _ μ _ _ _ hs=>wpIn_skip ⟨μ,σ,h,hs⟩
theorem fj.ret (h:Q .ret σ):fj P N nL .ret Q σ:=fun _ _ _ _ _ μ _ _ _ hs=>wpIn_ret ⟨μ,σ,h,hs⟩
theorem fj.exit {id:Nat}(h:Q (.exit id) σ):fj P N nL (.exit id) Q σ:=fun _ _ _ _ _ μ _ _ _ hs=>wpIn_exit ⟨μ,σ,h,hs⟩
theorem fj.label {l:Nat}(h:Q .normal σ):fj P N nL (.label l) Q σ:=fun _ _ _ _ _ μ _ _ _ hs=>wpIn_label ⟨μ,σ,h,hs⟩
theorem fj.cond {c:Operand}{x y:Code}{b:Bool}(hc:σ.eval c=.lit (.bool b))(ht:b=true→fj P N nL x Q σ)(hf:b=false→fj P N nL y Q σ):fj P N nL (.cond c x y) Q σ:=by
  intro rd hp w0 W0 L μ a w hL hs
  have hp1:rd=none∨dO x=true:=hp.imp (fun h=>h) fun h=>by simp only[dO,bO] at h;exact h.1
  have hp2:rd=none∨dO y=true:=hp.imp (fun h=>h) fun h=>by simp only[dO,bO] at h;exact h.2
  have h1:=hs.eval c
  rw[hc] at h1
  have hv:a.eval c=.bool b:=by generalize a.eval c=v at h1;cases h1;rfl
  refine wpIn_cond hv ?_
  cases b
  ·exact hf rfl rd hp2 w0 W0 L μ a w hL hs
  ·exact ht rfl rd hp1 w0 W0 L μ a w hL hs
theorem fj.FM {c:Operand}{x y:Code}{p q:Prop}(hc:σ.eval c=.guess p q)(ht:p→fj P N nL x Q σ)(hf:q→fj P N nL y Q σ):fj P N nL (.cond c x y) Q σ:=by
  intro rd hp w0 W0 L μ a w hL hs
  have hp1:rd=none∨dO x=true:=hp.imp (fun h=>h) fun h=>by simp only[dO,bO] at h;exact h.1
  have hp2:rd=none∨dO y=true:=hp.imp (fun h=>h) fun h=>by simp only[dO,bO] at h;exact h.2
  have h1:=hs.eval c
  rw[hc] at h1
  generalize hv:a.eval c=v at h1
  cases h1 with
  | @guess _ _ b h1 h2=>
    refine wpIn_cond hv ?_
    cases b
    ·exact hf (h2 rfl) rd hp2 w0 W0 L μ a w hL hs
    ·exact ht (h1 rfl) rd hp1 w0 W0 L μ a w hL hs
theorem fj.block {id:Nat}{c:Code}(h:fj P N nL c (qd id Q) σ):fj P N nL (.block id c) Q σ:=by
  intro rd hp w0 W0 L μ a w hL hs
  refine wpIn_block (wpIn_mono (h rd hp w0 W0 L μ a w hL hs) ?_)
  rintro e a' w' ⟨μ',σ',hq,hs'⟩
  cases e with
  | exit id'=>
    simp only[qd] at hq
    simp only[Exit.inBlock]
    split at hq
    ·rename_i h;rw[if_pos h];exact⟨μ',σ',hq,hs'⟩
    ·rename_i h;rw[if_neg h];exact⟨μ',σ',hq,hs'⟩
  |_=>exact⟨μ',σ',hq,hs'⟩
theorem fj.loop {c:Code}(I:Nat→aA→Prop)(h0:∃n,I n σ)(round:∀n σ,I n σ→fj P N nL c (Ho (fun σ'=> ∃m,m<n∧I m σ') Q) σ):fj P N nL (.loop c) Q σ:=by
  intro rd hp w0 W0 L μ a w hL hs
  have key:∀ (n:Nat) (σ:aA) (μ:Mu) (a:Act) (w:World),I n σ→cz P N w0 W0 L μ σ a w→∀ (b:Frame) (k:List Item) (cs:List Frame),b.roundOf=(ko rd).round→
      ∃e a' w',(∃μ' σ',Q e σ'∧cz P N w0 W0 L μ' σ' a' w')∧ArrivesIn (Machine.fenced P (ko rd)) P (lone (b.atR a (.code c:: .inLoop c::k)) cs w) b k cs e a' w':=by
    intro n
    induction n using Nat.strongRecOn with
    | _ n ih=>
      intro σ μ a w hI hs b k cs hro
      have hr0:(ko rd).room (cs.length+1+0):=fun _ h=>by cases h
      obtain⟨e,a₁,w₁,⟨μ₁,σ₁,hq,hs₁⟩,harr⟩:=round n σ hI rd hp w0 W0 L μ a w hL hs b (.inLoop c::k) cs hro trivial hr0
      cases e with
      | normal=>
        obtain⟨m,hm,hI'⟩:=hq
        obtain⟨e₂,a₂,w₂,hq₂,harr₂⟩:=ih m hm σ₁ μ₁ a₁ w₁ hI' hs₁ b k cs hro
        exact⟨e₂,a₂,w₂,hq₂,.of_steps (StepsIn.trans harr (.one (fenced_calm (n:=0) (fr:=b.atR a₁ (.inLoop c::k)) trivial hr0 rfl) stepR_inLoop)) harr₂⟩
      |exit id=>exact⟨_,a₁,w₁,⟨μ₁,σ₁,hq,hs₁⟩,.pass (x:=.inLoop c) rfl (fun _ _=>.inl (by simp)) harr⟩
      |goto l=>exact⟨_,a₁,w₁,⟨μ₁,σ₁,hq,hs₁⟩,.pass (x:=.inLoop c) rfl (fun _ _=>.inl (by simp)) harr⟩
      |ret=>exact⟨_,a₁,w₁,⟨μ₁,σ₁,hq,hs₁⟩,.pass (x:=.inLoop c) rfl (fun _ _=>.inl (by simp)) harr⟩
      |panic ch=>exact⟨_,a₁,w₁,⟨μ₁,σ₁,hq,hs₁⟩,.pass (x:=.inLoop c) rfl (fun _ _=>.inl (by simp)) harr⟩
      |outgrown=>exact⟨_,a₁,w₁,⟨μ₁,σ₁,hq,hs₁⟩,.pass (x:=.inLoop c) rfl (fun _ _=>.inl (by simp)) harr⟩
  intro b k cs hro hb hr
  obtain⟨n,hn⟩:=h0
  obtain⟨e,a',w',hq,harr⟩:=key n σ μ a w hn hs b k cs hro
  exact⟨e,a',w',hq,.of_steps (.one (fenced_calm (n:=0) (fr:=b.atR a (.code (.loop c)::k)) trivial hr rfl) stepR_loop) harr⟩
theorem fj.region {id:Nat}{l:List Oper}(h:gH P N l.toArray l σ (fun _ σ'=>Q .normal σ')):fj P N nL (.region id l.toArray false) Q σ:=by
  intro rd hp w0 W0 L μ a w hL hs
  exact wpIn_region_lit (h.Hz (hp.imp (fun h=>h) fun h=>by simpa[dO] using h) hs fun _ σ' hq μ' a' w' hs'=>⟨μ',σ',hq,hs'⟩)
theorem fj.mono {c:Code}{Q':Exit→aA→Prop}(h:fj P N nL c Q σ)(hq:∀e σ,Q e σ→Q' e σ):fj P N nL c Q' σ:=fun rd hp w0 W0 L μ a w hL hs=>
  wpIn_mono (h rd hp w0 W0 L μ a w hL hs) fun _ _ _ ⟨μ',σ',h1,h2⟩=>⟨μ',σ',hq _ _ h1,h2⟩
end
structure lT (nL:Nat) (ρ:Nat→Nat) (F:Nat→Prop) (σ' σ:aA):Prop where
  slots:∀i,Cv σ.mem ρ (fun t=>σ'.mem t≠ .free) F (σ'.slots i) (σ.slots i)
  mem:∀t,σ'.mem t=.free∨(σ'.mem t=.dead∧σ.mem (ρ t)≠ .free)∨
    ∃wd rows' rows ro ro0,σ'.mem t=.live wd rows' ro∧σ.mem (ρ t)=.live wd rows ro0∧(ro=false→ro0=false)∧bJ wd rows'∧ig σ.mem ρ (fun t=>σ'.mem t≠ .free) F rows' rows
  inj:∀t t' wd rows wd' rows' ro',σ'.mem t=.live wd rows false→σ'.mem t'=.live wd' rows' ro'→ρ t=ρ t'→t=t'
  frz:∀s,F s→(∃wd rows ro,σ.mem s=.live wd rows ro)∧∀t wd rows,σ'.mem t=.live wd rows false→ρ t≠s
  lent:∀t,t<nL→σ.mem t≠ .free→ρ t=t∧σ'.mem t≠ .free
theorem fM.cv {W W':Nat→Prop}{μ μ':Mu}{w:World}{B:zN}{wd:Nat}{rows rows0:List AV}{ro ro0:Bool}{m:Nat→MS}{ρ:Nat→Nat}{D F:Nat→Prop}(hobj:fM W μ w B wd rows0 ro0)(k4:ig m ρ D F rows rows0)(k3:bJ wd rows)(k2:ro=false→ro0=false)
    (rep:∀x y v,Cv m ρ D F x y→cD W μ w y v→cD W' μ' w x v):fM W' μ' w B wd rows ro:=by
  refine⟨hobj.width,k3,fun hv hm=>?_,fun hv=>?_,fun hm q c hq=>?_,hobj.vm,fun hm=>?_⟩
  · obtain⟨C,e,fz,c1,c2,c3⟩:=hobj.blk hv hm
    exact⟨C,e,fz,c1,fun hr=>c2 (k2 hr),by rw[k4.1];exact c3⟩
  · have:=k4.1
    rw[hobj.virt hv] at this
    exact List.eq_nil_of_length_eq_zero this
  · have hfl:=k4.flat k3 hobj.wide
    obtain⟨d,hd⟩:∃d,(flat rows0)[q]? =some d:=⟨_,bA (by rw[←hfl.1];exact(bj hq).1)⟩
    obtain⟨v,v1,v2⟩:=hobj.cell hm q d hd
    exact⟨v,v1,rep c d v (hfl.2 q c d hq hd) v2⟩
  · obtain⟨es,clock,h1,h2,h3,h4,hb0,h5⟩:=hobj.map hm
    refine⟨es,clock,h1,h2,by rw[h3,k4.1],h4,hb0,fun i r hr=>?_⟩
    have hi:i<rows0.length:=by rw[←k4.1];exact(bj hr).1
    have hr0:=bA hi
    obtain⟨k,c,e,e1,e2,e3,e4⟩:=h5 i _ hr0
    have hcv:=k4.2 i r _ hr hr0
    have hlen:(cells r).length=(cells rows0[i]).length:=by rw[k3 i r hr,hobj.wide i _ hr0]
    have hcl:=hcv.cells hlen
    rw[e1] at hcv hcl hlen
    have hagg:∃k' c',r=.agg [k',c']:=by
      cases hcv with
      |any=>simp[cells] at hlen
      |same _=>exact⟨k,c,rfl⟩
      | @agg cs _ hl _=>
        match cs,hl with
        |[a,b],_=>exact⟨a,b,rfl⟩
    obtain⟨k',c',rfl⟩:=hagg
    refine⟨k',c',e,rfl,e2,fun key hk=>?_,fun x hx=>?_⟩
    · have h0:=hcl.2 0 k' k rfl rfl
      rw[hk] at h0
      generalize hkk:k=kk at h0
      cases h0 with
      |same _=>exact e3 key hkk
    · have h0:=hcl.2 1 c' c rfl rfl
      rw[hx] at h0
      generalize hcc:c=cc at h0
      cases h0 with
      |same hn=>exact rep x x _ (.same (by simpa[bD,bu] using hn)) (e4 x hcc)
      | @tup _ ds hl hh=>
        match ds,hl with
        |[y],_=>exact rep x y _ (hh 0 x y rfl rfl) (e4 y hcc)
theorem lT.GF {P:Program}{N nL:Nat}{w0:World}{W0:Nat→Prop}{L μ:Mu}{σ σ':aA}{a a':Act}{w:World}{ρ:Nat→Nat}{F:Nat→Prop}(h:lT nL ρ F σ' σ)(hL:∀t,nL≤t→t<jD→L t=none)
    (hs:cz P N w0 W0 L μ σ a w) {N':Nat} (hsl:N'=N∧a'=a∨(∀i,σ'.slots i=.any)∧a'.tmps.size=N'∧a'.defers=[]):
    ∃μ',cz P N' w0 W0 L μ' σ' a' w∧∀x y v,Cv σ.mem ρ (fun t=>σ'.mem t≠ .free) F x y→cD (Wr W0 μ σ.mem) μ w y v→cD (Wr W0 μ' σ'.mem) μ' w x v:=by
  classical
  let μ':Mu:=fun t=>if σ'.mem t=.free then none else μ (ρ t)
  have hμ':∀t,σ'.mem t≠ .free→μ' t=μ (ρ t):=fun t ht=>if_neg ht
  have live:∀t wd rows ro,σ'.mem t=.live wd rows ro→∃rows0 ro0,σ.mem (ρ t)=.live wd rows0 ro0∧(ro=false→ro0=false)∧bJ wd rows∧ig σ.mem ρ (fun t=>σ'.mem t≠ .free) F rows rows0:=by
    intro t wd rows ro ht
    rcases h.mem t with h1|⟨h1,_⟩|⟨wd',rows',rows0,ro',ro0,h1,h2,h3,h4,h5⟩
    ·rw[h1] at ht;cases ht
    ·rw[h1] at ht;cases ht
    ·rw[h1] at ht;cases ht;exact⟨rows0,ro0,h2,h3,h4,h5⟩
  have nf:∀t wd rows ro,σ'.mem t=.live wd rows ro→σ'.mem t≠ .free:=fun t wd rows ro h e=>by rw[h] at e;cases e
  have mine:∀b,iZ μ' σ'.mem b→iZ μ σ.mem b:=by
    rintro b ⟨t,B,wd,rows,h1,h2,h3,hv⟩
    obtain⟨rows0,ro0,k1,k2,_⟩:=live t wd rows false h1
    rw[k2 rfl] at k1
    exact⟨ρ t,B,wd,rows0,k1,by rw[←hμ' t (nf _ _ _ _ h1)];exact h2,h3,hv⟩
  have hW:∀b,b<w.heap.size→Wr W0 μ' σ'.mem b→Wr W0 μ σ.mem b:=fun b _ hb=>hb.imp id (mine b)
  have hF:∀s B,F s→μ s=some B→B.virt=false→¬Wr W0 μ' σ'.mem B.b:=by
    intro s B hs' hB hv
    obtain⟨⟨wds,rowss,ros,hlive⟩,hne⟩:=h.frz s hs'
    rintro(hw0|⟨t,B',wd,rows,h1,h2,h3,hv'⟩)
    ·exact(hs.out s _ _ _ B hlive hB hv).1 hw0
    · obtain⟨rows0,ro0,k1,k2,_⟩:=live t wd rows false h1
      rw[k2 rfl] at k1
      rw[hμ' t (nf _ _ _ _ h1)] at h2
      exact hs.inj (ρ t) s _ _ _ _ _ B' B (hne t wd rows h1) k1 hlive h2 hB hv' hv h3
  have rep:∀x y v,Cv σ.mem ρ (fun t=>σ'.mem t≠ .free) F x y→cD (Wr W0 μ σ.mem) μ w y v→cD (Wr W0 μ' σ'.mem) μ' w x v:=
    fun x y v hc hy=>hc.rep hs.objs hW hμ' hF hy
  have objs:∀t wd rows ro,σ'.mem t=.live wd rows ro→∃B,μ' t=some B∧fM (Wr W0 μ' σ'.mem) μ' w B wd rows ro:=by
    intro t wd rows ro ht
    obtain⟨rows0,ro0,k1,k2,k3,k4⟩:=live t wd rows ro ht
    obtain⟨B,hB,hobj⟩:=hs.objs (ρ t) wd rows0 ro0 k1
    exact⟨B,by rw[hμ' t (nf _ _ _ _ ht)];exact hB,hobj.cv k4 k3 k2 rep⟩
  have slots:∀i,cD (Wr W0 μ' σ'.mem) μ' w (σ'.slots i) (a'.tmps.getD i undef):=by
    intro i
    rcases hsl with⟨_,rfl⟩|⟨h1,_,_⟩
    ·exact rep _ _ _ (h.slots i) (hs.slots i)
    ·rw[h1 i];exact .any
  refine⟨μ',⟨?_,?_,hs.os,hs.tape,hs.output,hs.hsize,hs.shp,hs.keep,hs.w0lt,fun t B hb hB=>?_,fun t=>?_,slots,objs,?_,?_,hs.tabs⟩,rep⟩
  · rcases hsl with⟨h1,rfl⟩|⟨_,h1,_⟩
    ·rw[h1];exact hs.tsize
    ·exact h1
  · rcases hsl with⟨h1,rfl⟩|⟨_,_,h1⟩
    ·exact hs.defers
    ·rw[h1];exact .nil
  · have ht:t<nL:=by
      rcases Nat.lt_or_ge t nL with h'|h'
      ·exact h'
      ·rw[hL t h' hb] at hB;cases hB
    obtain⟨l1,l2⟩:=h.lent t ht (fun hf=>by have h1:=(hs.free t).1 hf;rw[hs.lentμ t B hb hB] at h1;cases h1)
    rw[hμ' t l2,l1];exact hs.lentμ t B hb hB
  · constructor
    ·intro ht;exact if_pos ht
    · intro ht
      by_cases hf:σ'.mem t=.free
      ·exact hf
      · exfalso
        rw[hμ' t hf] at ht
        have:=(hs.free (ρ t)).2 ht
        rcases h.mem t with h1|⟨_,h2⟩|⟨wd',rows',rows0,ro',ro0,h1,h2,_⟩
        ·exact hf h1
        ·exact h2 this
        ·rw[h2] at this;cases this
  · intro t t' wd rows wd' rows' ro' B B' hne h1 h2 h3 h4 v1 v2
    obtain⟨r1,o1,k1,k2,_⟩:=live _ _ _ _ h1
    obtain⟨r2,o2,k3,_⟩:=live _ _ _ _ h2
    rw[k2 rfl] at k1
    rw[hμ' t (nf _ _ _ _ h1)] at h3
    rw[hμ' t' (nf _ _ _ _ h2)] at h4
    exact hs.inj _ _ _ _ _ _ _ B B' (fun e=>hne (h.inj t t' _ _ _ _ _ h1 h2 e)) k1 k3 h3 h4 v1 v2
  · intro t wd rows ro B h1 h2 hv
    obtain⟨r1,o1,k1,k2,_⟩:=live _ _ _ _ h1
    rw[hμ' t (nf _ _ _ _ h1)] at h2
    have:=hs.out _ _ _ _ B k1 h2 hv
    exact⟨this.1,fun hr=>this.2 (k2 hr)⟩
theorem fj.rP {P:Program}{N nL:Nat}{c:Code}{Q:Exit→aA→Prop}{σ σ':aA}(ρ:Nat→Nat)(F:Nat→Prop)(h:lT nL ρ F σ' σ)(hc:fj P N nL c Q σ'):fj P N nL c Q σ:=by
  intro rd hp w0 W0 L μ a w hL hs
  obtain⟨μ',hs',_⟩:=h.GF (fun t h1 h2=>hL.1 t h1 (.inl h2)) hs (.inl ⟨rfl,rfl⟩)
  exact hc rd hp w0 W0 L μ' a w hL hs'
def aH (l:List MS):Nat→MS:=fun t=>(l[t]?).getD .free
def bare (l:List MS):aA:=⟨fun _=>.any,aH l⟩
def iA:Act:={tmps:= #[],defers:=[]}
def aj (P:Program)(f:FuncId)(ins:List MS)(args:List AV)(outs:List MS)(res:AV):Prop:=
  ∀ (w:World) (W0:Nat→Prop) (L:Mu) (vs:List Value),(∀t,ins.length≤t→L t=none)→cz P 0 w W0 L L (bare ins) iA w→cN (Wr W0 L (aH ins)) L w args vs→
    Calls P f vs.toArray w fun e w'=> ∃v μ',e=.returned v∧cz P 0 w W0 L μ' (bare outs) iA w'∧cD (Wr W0 μ' (aH outs)) μ' w' res v
def jB (P:Program)(t:TypeId):Prop:=∀w,(isAgg t).run P w=.ok false w
def Fy (P:Program)(t:TypeId):Prop:=∀w,(isAgg t).run P w=.ok true w
def eW (P:Program)(t:TypeId)(n:Nat):Prop:=∀w,(sizeOf t).run P w=.ok n w
def tK (P:Program)(t:TypeId)(f off:Nat)(ft:TypeId):Prop:=∀cs w,(Instr.field t (.agg cs) f).run P w=(part ft cs off).run P w
def qJ (P:Program)(t:TypeId)(f off:Nat):Prop:=∀ (ad:Addr) w,(Instr.fieldAt t (.pointer (some ad)) f).run P w=.ok (.pointer (some (ad.add off))) w
def lW (P:Program)(t e:TypeId):Prop:=P.underlying t=some (.slice e)
def CU (P:Program)(t:TypeId)(n:Nat)(e:TypeId):Prop:=P.underlying t=some (.array n e)
def k7:AV→Bool
  |.agg _=>true
  |.lit (.agg _)=>true
  |_=>false
inductive oK (P:Program) (t:TypeId) (r:AV) (k:Nat):AV→Prop
  |scalar {c:AV}:jB P t→(cells r)[k]? =some c→oK P t r k c
  |full {n:Nat}:Fy P t→eW P t n→k=0→(cells r).length=n→k7 r=true→oK P t r k r
  |part {n:Nat}:Fy P t→eW P t n→k+n≤ (cells r).length→oK P t r k (.agg (((cells r).drop k).take n))
section
variable {P : Program} {N : Nat} {σ : aA} {o : Oper}
theorem oK.run {t:TypeId}{r x:AV}{k b q0:Nat}{W:Nat→Prop}{μ:Mu}{w:World}(h:oK P t r k x)
    (hc:∀ (q:Nat) (c:AV),(cells r)[q]? =some c→∃v,w.cell? ⟨b,q0+q,none⟩=some v∧cD W μ w c v):
    ∃v,(loadVar t ⟨b,q0+k,none⟩).run P w=.ok v w∧cD W μ w x v:=by
  have agg:∀n,Fy P t→eW P t n→k+n≤ (cells r).length→∃vs:List Value,(loadVar t ⟨b,q0+k,none⟩).run P w=.ok (.agg vs.toArray) w∧cN W μ w (((cells r).drop k).take n) vs:=by
    intro n h1 h2 h3
    have key:∀j,∃v,j<n→∃c,(cells r)[k+j]? =some c∧w.cell? ⟨b,q0+ (k+j),none⟩=some v∧cD W μ w c v:=fun j=>by
      by_cases hj:j<n
      · obtain⟨c,hcj⟩:∃c,(cells r)[k+j]? =some c:=⟨_,bA (by omega)⟩
        obtain⟨v,h4,h5⟩:=hc _ c hcj
        exact⟨v,fun _=>⟨c,hcj,h4,h5⟩⟩
      ·exact⟨undef,fun h=>absurd h hj⟩
    obtain⟨f,hf⟩:=Classical.skolem.1 key
    refine⟨(List.range n).map f,?_,?_⟩
    · simp only[loadVar,Sem.run_bind,h1 w,h2 w,Result.andThen_ok,if_true]
      rw [run_loadCells w ⟨b,q0+k,none⟩ n f (fun j hj=>by
        obtain⟨c,_,h5,_⟩:=hf j hj
        rw[Addr.add_lit,Nat.add_assoc];exact h5)]
      rfl
    · refine⟨by simp[gE,List.length_drop];omega,fun j c v h4 h5=>?_⟩
      rw[List.getElem?_take] at h4
      split at h4
      · rename_i hj
        rw[List.getElem?_drop] at h4
        obtain⟨c',h6,_,h7⟩:=hf j hj
        rw[h4] at h6;cases h6
        simp[hj] at h5
        rw[←h5];exact h7
      ·cases h4
  cases h with
  | scalar h1 h2=>
    obtain⟨v,h3,h4⟩:=hc k x h2
    refine⟨v,?_,h4⟩
    simp[loadVar,h1 w,h3]
  | full h1 h2 h3 h4 h5=>
    subst h3
    obtain⟨vs,k1,k2⟩:=agg _ h1 h2 (by omega)
    refine⟨_,k1,?_⟩
    have hd:((cells r).drop 0).take (cells r).length=cells r:=by simp
    rw[←h4,hd] at k2
    cases r with
    |agg cs=>exact .agg k2.1 k2.2
    | lit z=>
      cases z with
      | agg xs=>
        have:=k2.D8
        rw[this];exact .lit
      |_=>simp[k7] at h5
    |_=>simp[k7] at h5
  | part h1 h2 h3=>
    obtain⟨vs,k1,k2⟩:=agg _ h1 h2 h3
    exact⟨_,k1,.agg k2.1 k2.2⟩
theorem aG.val {rd:List Nat}{x:AV}
    (h :∀ (σ2:aA),(∀y∈o.op.operands,σ2.eval y=σ.eval y)→(∀t∈rd,σ2.mem t=σ.mem t)→∀ (w0:World) (W0:Nat→Prop) (L μ:Mu) (a:Act) (w:World),cz P N w0 W0 L μ σ2 a w→
      ∃v,(execOp a.eval o).run P w=.ok (.value v) w∧cD (Wr W0 μ σ2.mem) μ w x v) (hd:∀d,o.dst=some d→d<N):aG P N o σ rd x []:=by
  intro σ2 he hr w0 W0 L μ a w K Q hs hK
  obtain⟨v,h1,h2⟩:=h σ2 he hr w0 W0 L μ a w hs
  unfold Oper.wp
  rw[h1]
  exact hK μ _ _ (hs.put h2 hd)
theorem aG.move {y:Operand}(ho:o.op=.move y)(hd:∀d,o.dst=some d→d<N):aG P N o σ [] (σ.eval y) []:=
  .val (fun σ2 he _ w0 W0 L μ a w hs=>⟨a.eval y,by simp[execOp,ho],by rw[←he y (by simp[ho,Op.operands])];exact hs.eval y⟩) hd
theorem aG.assign {y:Operand}(ho:o.op=.assign y)(hd:∀d,o.dst=some d→d<N):aG P N o σ [] (σ.eval y) []:=
  .val (fun σ2 he _ w0 W0 L μ a w hs=>⟨a.eval y,by simp[execOp,ho],by rw[←he y (by simp[ho,Op.operands])];exact hs.eval y⟩) hd
theorem cD.val {W:Nat→Prop}{μ:Mu}{w:World}{x v:Value}(h:cD W μ w (.lit x) v):v=x:=by cases h;rfl
theorem aG.lits {ρ:Operand→Value}{r:Value}(hs:∀cs b,o.op≠ .select cs b)(hρ:∀y∈o.op.operands,σ.eval y=.lit (ρ y))(hr:∀w,(execOp ρ o).run P w=.ok (.value r) w)
    (hd:∀d,o.dst=some d→d<N):aG P N o σ [] (.lit r) []:=
  .val (fun σ2 he _ w0 W0 L μ a w h=>⟨r,by
    rw[execOp_congr (ρ':=ρ) o hs (fun y hy=>?_)]
    ·exact hr w
    · have:=h.eval y
      rw[he y hy,hρ y hy] at this
      exact this.val,.lit⟩) hd
theorem aG.PU {y:Operand}{x r:Value}{f:Value→Sem Value}(hx:∀ρ:Operand→Value,execOp ρ o=do pure (.value (←f (ρ y))))(hy:o.op.operands= #[y])(he:σ.eval y=.lit x)
    (hr:∀w,(f x).run P w=.ok r w) (hd:∀d,o.dst=some d→d<N):aG P N o σ [] (.lit r) []:=
  .val (fun σ2 he2 _ w0 W0 L μ a w h=>⟨r,by
    have:=h.eval y
    rw[he2 y (by simp[hy]),he] at this
    rw[hx,this.val];simp[hr w],.lit⟩) hd
theorem aG.bin {y z:Operand}{x1 x2 r:Value}{f:Value→Value→Sem Value}(hx:∀ρ:Operand→Value,execOp ρ o=do pure (.value (←f (ρ y) (ρ z))))(hy:o.op.operands= #[y,z])
    (he:σ.eval y=.lit x1) (he':σ.eval z=.lit x2) (hr:∀w,(f x1 x2).run P w=.ok r w) (hd:∀d,o.dst=some d→d<N):aG P N o σ [] (.lit r) []:=
  .val (fun σ2 he2 _ w0 W0 L μ a w h=>⟨r,by
    have h1:=h.eval y
    have h2:=h.eval z
    rw[he2 y (by simp[hy]),he] at h1
    rw[he2 z (by simp[hy]),he'] at h2
    rw[hx,h1.val,h2.val];simp[hr w],.lit⟩) hd
theorem aG.pick {c y z:Operand}{b:Bool}{x:AV}(ho:o.op=.pick c y z)(hc:σ.eval c=.lit (.bool b))(hx:x=if b then σ.eval y else σ.eval z)(hd:∀d,o.dst=some d→d<N):aG P N o σ [] x []:=
  .val (fun σ2 he _ w0 W0 L μ a w hs=>by
    have h1:=hs.eval c
    rw[he c (by simp[ho,Op.operands]),hc] at h1
    refine⟨if b then a.eval y else a.eval z,by simp[execOp,ho,h1.val,asBool],?_⟩
    rw[hx]
    cases b
    ·simp only[Bool.false_eq_true,if_false];rw[←he z (by simp[ho,Op.operands])];exact hs.eval z
    ·simp only[if_true];rw[←he y (by simp[ho,Op.operands])];exact hs.eval y) hd
theorem aG.extract {y:Operand}{i:Nat}{vs:List AV}{x:AV}(ho:o.op=.extract y i)(he:σ.eval y=.tup vs)(hx:vs[i]? =some x)(hd:∀d,o.dst=some d→d<N):aG P N o σ [] x []:=
  .val (fun σ2 he2 _ w0 W0 L μ a w hs=>by
    have h1:=hs.eval y
    rw[he2 y (by simp[ho,Op.operands]),he] at h1
    generalize hv:a.eval y=v at h1
    cases h1 with
    | @tup cs us a1 a2=>
      have hi:=(bj hx).1
      have hu:us[i]? =some us[i]:=bA (by omega)
      refine⟨us[i],?_,a2 i x _ hx hu⟩
      simp[execOp,ho,hv,Instr.extract,hu]) hd
theorem aG.field {y:Operand}{t ft:TypeId}{f off:Nat}{cs:List AV}{x:AV}(ho:o.op=.field t y f)(he:σ.eval y=.agg cs)(hf:tK P t f off ft)
    (hx:oK P ft (.agg cs) off x) (hd:∀d,o.dst=some d→d<N):aG P N o σ [] x []:=
  .val (fun σ2 he2 _ w0 W0 L μ a w hs=>by
    have h1:=hs.eval y
    rw[he2 y (by simp[ho,Op.operands]),he] at h1
    generalize hv:a.eval y=v at h1
    cases h1 with
    | @agg _ us a1 a2=>
      have hpart:∃v,(part ft us.toArray off).run P w=.ok v w∧cD (Wr W0 μ σ2.mem) μ w x v:=by
        cases hx with
        | scalar k1 k2=>
          have hi:=(bj k2).1
          simp only[cells] at hi k2
          have hu:us[off]? =some us[off]:=bA (by omega)
          exact⟨us[off],by simp[part,k1 w,hu],a2 off x _ k2 hu⟩
        | full k1 k2 k3 k4 k5=>
          subst k3
          refine⟨.agg us.toArray,?_,.agg a1 a2⟩
          simp only[cells] at k4
          simp[part,k1 w,k2 w,←k4,←a1]
        | @part n k1 k2 k3=>
          refine⟨.agg ((us.drop off).take n).toArray,?_,.agg ?_ ?_⟩
          ·simp[part,k1 w,k2 w,List.extract_eq_take_drop]
          ·simp[cells,a1]
          · intro j c v h4 h5
            simp only[cells] at h4
            rw[List.getElem?_take] at h4 h5
            split at h4
            · rename_i hj
              rw[if_pos hj] at h5
              rw[List.getElem?_drop] at h4 h5
              exact a2 _ _ _ h4 h5
            ·cases h4
      obtain⟨v,p1,p2⟩:=hpart
      refine⟨v,?_,p2⟩
      simp[execOp,ho,hv,hf us.toArray w,p1]) hd
theorem aG.AQ {y:Operand}{t:TypeId}{tk i k wd:Nat}{rows:List AV}{ro:Bool}{r x:AV}(ho:o.op=.load t y)(he:σ.eval y=.ptr tk i k)(hm:σ.mem tk=.live wd rows ro)
    (hr:rows[i]? =some r) (hx:oK P t r k x) (hd:∀d,o.dst=some d→d<N):aG P N o σ [tk] x []:=
  .val (fun σ2 he2 hrd w0 W0 L μ a w hs=>by
    have h1:=hs.eval y
    rw[he2 y (by simp[ho,Op.operands]),he] at h1
    have hm2:σ2.mem tk=.live wd rows ro:=by rw[hrd tk (by simp)];exact hm
    obtain⟨B,hB,hobj⟩:=hs.objs tk wd rows ro hm2
    generalize hv:a.eval y=v at h1
    cases h1 with
    | ptr a1 ap=>
      rw[hB] at a1;cases a1
      have:=hx.run (b:=B.b) (q0:=B.o+i*B.wd) (w:=w) (fun q c hq=>by
        obtain⟨v,h2,h3⟩:=hobj.cell ap _ c (eN hobj.wide hr hq)
        exact⟨v,by rw[hobj.width,Nat.add_assoc];exact h2,h3⟩)
      obtain⟨v,h2,h3⟩:=this
      refine⟨v,?_,h3⟩
      rw[←Nat.add_assoc] at hv
      simp[execOp,ho,hv,Instr.loadAt,Instr.sureAddr,h2]) hd
theorem aG.EZ {y:Operand}{t:TypeId}{k:Nat}{r x:AV}(ho:o.op=.load t y)(he:σ.eval y=.fptr r k)(hx:oK P t r k x)(hd:∀d,o.dst=some d→d<N):aG P N o σ [] x []:=
  .val (fun σ2 he2 hrd w0 W0 L μ a w hs=>by
    have h1:=hs.eval y
    rw[he2 y (by simp[ho,Op.operands]),he] at h1
    generalize hv:a.eval y=v at h1
    cases h1 with
    | @fptr e k b q0 f a1 a2 a3 a4 _=>
      obtain⟨v,h2,h3⟩:=hx.run (b:=b) (q0:=q0) (w:=w) (fun q c hq=>⟨f q,a3 q c hq,a4 q c hq⟩)
      refine⟨v,?_,h3⟩
      simp[execOp,ho,hv,Instr.loadAt,Instr.sureAddr,h2]) hd
theorem aG.wA {y:Operand}{t:TypeId}{f off tk i k:Nat}(ho:o.op=.fieldAddr t y f)(he:σ.eval y=.ptr tk i k)(hf:qJ P t f off)
    (hd:∀d,o.dst=some d→d<N):aG P N o σ [] (.ptr tk i (k+off)) []:=
  .val (fun σ2 he2 hrd w0 W0 L μ a w hs=>by
    have h1:=hs.eval y
    rw[he2 y (by simp[ho,Op.operands]),he] at h1
    generalize hv:a.eval y=v at h1
    cases h1 with
    | @ptr _ _ _ B a1 ap=>
      refine⟨.pointer (some ⟨B.b,B.o+ (i*B.wd+ (k+off)),none⟩),?_,.ptr a1 ap⟩
      simp[execOp,ho,hv,hf ⟨B.b,B.o+ (i*B.wd+k),none⟩ w,Addr.add_lit,Nat.add_assoc]) hd
theorem aG.uh {y:Operand}{t:TypeId}{f off k:Nat}{r:AV}(ho:o.op=.fieldAddr t y f)(he:σ.eval y=.fptr r k)(hf:qJ P t f off)
    (hd:∀d,o.dst=some d→d<N):aG P N o σ [] (.fptr r (k+off)) []:=
  .val (fun σ2 he2 hrd w0 W0 L μ a w hs=>by
    have h1:=hs.eval y
    rw[he2 y (by simp[ho,Op.operands]),he] at h1
    generalize hv:a.eval y=v at h1
    cases h1 with
    | @fptr e k b q0 g a1 a2 a3 a4 a5=>
      refine⟨.pointer (some ⟨b,q0+ (k+off),none⟩),?_,.fptr a1 a2 a3 a4 a5⟩
      simp[execOp,ho,hv,hf ⟨b,q0+k,none⟩ w,Addr.add_lit,Nat.add_assoc]) hd
theorem aG.nilCheck {y:Operand}{x:AV}(ho:o.op=.nilCheck y)(he:σ.eval y=x)(hx:(∃t i k,x=.ptr t i k)∨(∃r k,x=.fptr r k))(hd:∀d,o.dst=some d→d<N):aG P N o σ [] x []:=
  .val (fun σ2 he2 hrd w0 W0 L μ a w hs=>by
    have h1:=hs.eval y
    rw[he2 y (by simp[ho,Op.operands]),he] at h1
    refine⟨a.eval y,?_,h1⟩
    generalize hv:a.eval y=v at h1
    rcases hx with⟨t,i,k,rfl⟩|⟨r,k,rfl⟩
    ·cases h1;simp[execOp,ho,hv]
    ·cases h1;simp[execOp,ho,hv]) hd
theorem aG.wH {y z:Operand}{t e:TypeId}{tk off len wd:Nat}{kd:IntKind}{i:Int}(ho:o.op=.indexAddr t y z)(he:σ.eval y=.own tk off len)(hz:σ.eval z=.lit (.int kd i))
    (ht:lW P t e) (hsz:eW P e wd) (h0:0≤i) (h1:i<len) (hwd:∃rows ro,σ.mem tk=.live wd rows ro) (hd:∀d,o.dst=some d→d<N):aG P N o σ [tk] (.ptr tk (off+i.toNat) 0) []:=
  .val (fun σ2 he2 hrd w0 W0 L μ a w hs=>by
    have k1:=hs.eval y
    have k2:=hs.eval z
    rw[he2 y (by simp[ho,Op.operands]),he] at k1
    rw[he2 z (by simp[ho,Op.operands]),hz] at k2
    obtain⟨rows,ro,hm⟩:=hwd
    have hm2:σ2.mem tk=.live wd rows ro:=by rw[hrd tk (by simp)];exact hm
    obtain⟨B,hB,hobj⟩:=hs.objs tk wd rows ro hm2
    generalize hv:a.eval y=v at k1
    cases k1 with
    | own a1 _ ap a2 a3 a4=>
      rw[hB] at a1;cases a1
      refine⟨.pointer (some ⟨B.b,B.o+ ((off+i.toNat)*B.wd+0),none⟩),?_,.ptr hB ap⟩
      simp[execOp,ho,hv,k2.val,Instr.indexAt,asIntOf,run_underlying ht,hsz w,h0,h1,Addr.add_lit,hobj.width,Nat.add_mul,Nat.add_assoc]
    |ownNil a1=>simp at h1;omega) hd
theorem aG.AX {y z:Operand}{t e:TypeId}{wd:Nat}{rows:List AV}{r:AV}{kd:IntKind}{i:Int}(ho:o.op=.indexAddr t y z)(he:σ.eval y=.sl wd rows)(hz:σ.eval z=.lit (.int kd i))
    (ht:lW P t e) (hsz:eW P e wd) (h0:0≤i) (hr:rows[i.toNat]? =some r) (hd:∀d,o.dst=some d→d<N):aG P N o σ [] (.fptr r 0) []:=
  .val (fun σ2 he2 hrd w0 W0 L μ a w hs=>by
    have k1:=hs.eval y
    have k2:=hs.eval z
    rw[he2 y (by simp[ho,Op.operands]),he] at k1
    rw[he2 z (by simp[ho,Op.operands]),hz] at k2
    have hlt:=(bj hr).1
    have h1:i<rows.length:=by omega
    generalize hv:a.eval y=v at k1
    cases k1 with
    |slNil=>simp at hr
    | @sl _ _ b q0 cap n f a1 a2 a3 a4 a5 a6 a7 a8=>
      refine⟨.pointer (some ⟨b,q0+i.toNat*wd+0,none⟩),?_,.fptr (f:=fun q=>f (i.toNat*wd+q)) a1 a2 (fun q c hq=>?_) (fun q c hq=>a7 _ c (eN a5 hr hq)) (fun c hc=>by
        obtain⟨q,hq⟩:=List.getElem?_of_mem hc
        exact a8 c (bV (eN a5 hr hq)))⟩
      · subst a3
        simp[execOp,ho,hv,k2.val,Instr.indexAt,asIntOf,run_underlying ht,hsz w,h0,h1,Addr.add_lit]
      ·rw[Nat.add_assoc];exact a6 _ c (eN a5 hr hq)) hd
theorem aG.xG {y z:Operand}{t e:TypeId}{tk i0 k0 wd n:Nat}{kd:IntKind}{i:Int}(ho:o.op=.indexAddr t y z)(he:σ.eval y=.ptr tk i0 k0)(hz:σ.eval z=.lit (.int kd i))
    (ht:CU P t n e) (hsz:eW P e wd) (h0:0≤i) (h1:i<n) (hd:∀d,o.dst=some d→d<N):aG P N o σ [] (.ptr tk i0 (k0+i.toNat*wd)) []:=
  .val (fun σ2 he2 hrd w0 W0 L μ a w hs=>by
    have k1:=hs.eval y
    have k2:=hs.eval z
    rw[he2 y (by simp[ho,Op.operands]),he] at k1
    rw[he2 z (by simp[ho,Op.operands]),hz] at k2
    generalize hv:a.eval y=v at k1
    cases k1 with
    | @ptr _ _ _ B a1 ap=>
      refine⟨.pointer (some ⟨B.b,B.o+ (i0*B.wd+ (k0+i.toNat*wd)),none⟩),?_,.ptr a1 ap⟩
      simp[execOp,ho,hv,k2.val,Instr.indexAt,asIntOf,run_underlying ht,hsz w,h0,h1,Addr.add_lit,Instr.sureAddr,Nat.add_assoc]) hd
theorem aG.len {y:Operand}{t:TypeId}{x:AV}{n:Nat}{e:TypeId}(ho:o.op=.call {callee:=.builtin .len,args:= #[y],argTypes:= #[t]})(he:σ.eval y=x)(ht:lW P t e)
    (hx:(∃tk off,x=.own tk off n)∨(∃wd rows,x=.sl wd rows∧n=rows.length)∨(∃a c,x=.lit (.slice a n c))) (hd:∀d,o.dst=some d→d<N):aG P N o σ [] (.lit (.int .i64 n)) []:=
  .val (fun σ2 he2 hrd w0 W0 L μ a w hs=>by
    have k1:=hs.eval y
    rw[he2 y (by simp[ho,Op.operands,Call.operands]),he] at k1
    refine⟨.int .i64 n,?_,.lit⟩
    have hv:∃a' c,a.eval y=.slice a' n c:=by
      generalize a.eval y=v at k1
      rcases hx with⟨tk,off,rfl⟩|⟨wd,rows,rfl,rfl⟩|⟨a',c,rfl⟩
      ·cases k1<;>exact⟨_,_,rfl⟩
      · cases k1 with
        |slNil=>exact⟨_,_,rfl⟩
        |sl a1 a2 a3 a4 a5 a6 a7=>subst a3;exact⟨_,_,rfl⟩
      ·cases k1;exact⟨_,_,rfl⟩
    obtain⟨a',c,hv⟩:=hv
    simp[execOp,ho,resolve,invoke,builtin,hv,Builtin.len_,run_underlying ht,goInt]) hd
theorem aG.Ji {y:Operand}{t:TypeId}{s:ByteArray}(ho:o.op=.call {callee:=.builtin .len,args:= #[y],argTypes:= #[t]})(he:σ.eval y=.lit (.string s))(ht:P.underlying t=some .string)
    (hd:∀d,o.dst=some d→d<N):aG P N o σ [] (.lit (.int .i64 s.size)) []:=
  .val (fun σ2 he2 hrd w0 W0 L μ a w hs=>by
    have k1:=hs.eval y
    rw[he2 y (by simp[ho,Op.operands,Call.operands]),he] at k1
    refine⟨.int .i64 s.size,?_,.lit⟩
    simp[execOp,ho,resolve,invoke,builtin,k1.val,Builtin.len_,run_underlying ht,goInt]) hd
theorem aG.makeFunc {fn:Fn}{first cap:Array Operand}(ho:o.op=.makeFunc fn first cap)(hd:∀d,o.dst=some d→d<N):aG P N o σ [] (.clo fn (first.toList.map σ.eval) (cap.toList.map σ.eval)) []:=
  .val (fun σ2 he2 hrd w0 W0 L μ a w hs=>by
    refine⟨.func fn (first.toList.map a.eval).toArray (cap.toList.map a.eval).toArray,by simp[execOp,ho,Instr.makeFunc];exact⟨by rw[←Array.toList_map],by rw[←Array.toList_map]⟩,.clo (by simp) (by simp) (fun j c v h1 h2=>?_) (fun j c v h1 h2=>?_)⟩
    · simp only[fI,Option.map_eq_some_iff] at h1 h2
      obtain⟨p,h3,rfl⟩:=h1
      obtain⟨q,h4,rfl⟩:=h2
      rw[h3] at h4;cases h4
      rw[←he2 p (by simp[ho,Op.operands];exact .inl (by simpa using bV h3))]
      exact hs.eval p
    · simp only[fI,Option.map_eq_some_iff] at h1 h2
      obtain⟨p,h3,rfl⟩:=h1
      obtain⟨q,h4,rfl⟩:=h2
      rw[h3] at h4;cases h4
      rw[←he2 p (by simp[ho,Op.operands];exact .inr (by simpa using bV h3))]
      exact hs.eval p) hd
theorem lS {P:Program}{lo hi:Option Value}{l h len cap:Nat}(hl:lo=none∧l=0∨∃k,lo=some (.int k l))(hh:hi=none∧h=len∨∃k,hi=some (.int k h))(h1:l≤h)(h2:h≤cap)(w:World):
    (Instr.sliceBounds true len cap lo hi none).run P w=.ok (l,h,cap) w:=by
  have hb:∀ (k:IntKind) (i y:Nat) (c:BoundsCode),i≤y→(Instr.sliceBound (.int k i) y c).run P w=.ok i w:=fun k i y c hi=>by
    rw[run_sliceBound w k i y c (by omega) (by omega)];simp
  rcases hl with⟨rfl,rfl⟩|⟨kl,rfl⟩<;>rcases hh with⟨rfl,rfl⟩|⟨kh,rfl⟩<;>simp[Instr.sliceBounds,hb,h1,h2]
theorem aG.wG {y:Operand}{lo hi:Option Operand}{t e:TypeId}{tk off len l h wd:Nat}(ho:o.op=.slice t y lo hi none)(he:σ.eval y=.own tk off len)
    (hl:lo=none∧l=0∨∃z k,lo=some z∧σ.eval z=.lit (.int k l)) (hh:hi=none∧h=len∨∃z k,hi=some z∧σ.eval z=.lit (.int k h)) (h1:l≤h) (h2:h≤len)
    (ht:lW P t e) (hsz:eW P e wd) (hwd:∃rows ro,σ.mem tk=.live wd rows ro) (hd:∀d,o.dst=some d→d<N):aG P N o σ [tk] (.own tk (off+l) (h-l)) []:=
  .val (fun σ2 he2 hrd w0 W0 L μ a w hs=>by
    have k1:=hs.eval y
    rw[he2 y (by simp[ho,Op.operands]),he] at k1
    obtain⟨rows,ro,hm⟩:=hwd
    have hm2:σ2.mem tk=.live wd rows ro:=by rw[hrd tk (by simp)];exact hm
    obtain⟨B,hB,hobj⟩:=hs.objs tk wd rows ro hm2
    have hl':lo.map a.eval=none∧l=0∨∃k,lo.map a.eval=some (.int k l):=by
      rcases hl with⟨rfl,rfl⟩|⟨z,k,rfl,hz⟩
      ·exact .inl ⟨rfl,rfl⟩
      · have:=hs.eval z
        rw[he2 z (by simp[ho,Op.operands]),hz] at this
        exact .inr ⟨k,by simp[this.val]⟩
    have hh':hi.map a.eval=none∧h=len∨∃k,hi.map a.eval=some (.int k h):=by
      rcases hh with⟨rfl,rfl⟩|⟨z,k,rfl,hz⟩
      ·exact .inl ⟨rfl,rfl⟩
      · have:=hs.eval z
        rw[he2 z (by simp[ho,Op.operands]),hz] at this
        exact .inr ⟨k,by simp[this.val]⟩
    have hnone:(none:Option Operand).map a.eval=none:=rfl
    generalize hv:a.eval y=v at k1
    cases k1 with
    | @own _ _ _ cap e' n B' a1 av ap a2 a3 a4=>
      rw[hB] at a1;cases a1
      have hbr:=lS (P:=P) hl' hh' h1 (Nat.le_trans h2 a2) w
      refine⟨.slice (if cap=l then some ⟨B.b,B.o+off*B.wd,none⟩ else some ⟨B.b,B.o+off*B.wd+l*wd,none⟩) (h-l) (cap-l),?_,?_⟩
      ·simp only[execOp,ho,hv,Instr.sliceAt,Instr.slice,Sem.run_bind,run_underlying ht,Result.andThen_ok,hnone,hbr,hsz w,Sem.run_pure,Option.map_some,Addr.add_lit]
      · by_cases hc:cap=l
        · subst hc
          have:h-cap=0:=by omega
          rw[this,if_pos rfl,Nat.sub_self]
          exact .ownNil hB
        · rw[if_neg hc]
          have:=cD.own (W:=Wr W0 μ σ2.mem) (off:=off+l) (len:=h-l) (cap:=cap-l) hB av ap (by omega) a3 (by rw[show off+l+ (cap-l)=off+cap from by omega];exact a4)
          rw[Nat.add_mul,←Nat.add_assoc,hobj.width] at this
          rw[hobj.width];exact this
    | @ownNil _ _ a' _ a1=>
      have hbr:=lS (P:=P) hl' hh' h1 h2 w
      have hl0:l=0:=by omega
      have hh0:h=0:=by omega
      subst hl0;subst hh0
      exact⟨.slice a' 0 0,by simp only[execOp,ho,hv,Instr.sliceAt,Instr.slice,Sem.run_bind,run_underlying ht,Result.andThen_ok,hnone,hbr,hsz w,Sem.run_pure,if_true,Nat.sub_self],.ownNil hB⟩) hd
theorem aG.DG {op:BinOp}{y z:Operand}{t yt e:TypeId}{x:AV}{n:Nat}(ho:o.op=.binOp op t y z yt)(hop:op=.eql∨op=.neq)(he:σ.eval y=x)(hz:σ.eval z=.lit (.slice none 0 0))(ht:lW P t e)
    (hx:(∃tk off,x=.own tk off n)∨(∃wd rows,x=.sl wd rows∧n=rows.length)) (hd:∀d,o.dst=some d→d<N):
    aG P N o σ [] (if op=.eql then .guess (n=0) True else .guess True (n=0)) []:=
  .val (fun σ2 he2 hrd w0 W0 L μ a w hs=>by
    have k1:=hs.eval y
    have k2:=hs.eval z
    rw[he2 y (by simp[ho,Op.operands]),he] at k1
    rw[he2 z (by simp[ho,Op.operands]),hz] at k2
    have hv:∃ad c,a.eval y=.slice ad n c∧(ad=none→n=0):=by
      generalize a.eval y=v at k1
      rcases hx with⟨tk,off,rfl⟩|⟨wd,rows,rfl,rfl⟩
      · cases k1 with
        |own=>exact⟨_,_,rfl,fun h=>by cases h⟩
        |ownNil=>exact⟨_,_,rfl,fun _=>rfl⟩
      · cases k1 with
        |slNil=>exact⟨_,_,rfl,fun _=>rfl⟩
        |sl a1 a2 a3 a4 a5 a6 a7=>subst a3;exact⟨_,_,rfl,fun h=>by cases h⟩
    obtain⟨ad,c,hv,hn⟩:=hv
    have heq:(Op.equal t (.slice ad n c) (.slice none 0 0)).run P w=.ok ad.isNone w:=by
      show(Op.equalIn (9999+1) t (.slice ad n c) (.slice none 0 0)).run P w=_
      rw[Op.equalIn]
      cases ad<;>simp[run_underlying ht]
    rcases hop with rfl|rfl
    · refine⟨.bool ad.isNone,?_,?_⟩
      ·simp[execOp,ho,hv,k2.val,eqGuard,Go.binOp,heq]
      · simp only[if_true]
        exact .guess (fun h=>hn (by simpa using h)) (fun _=>trivial)
    · refine⟨.bool (!ad.isNone),?_,?_⟩
      ·simp[execOp,ho,hv,k2.val,eqGuard,Go.binOp,heq]
      · simp only[reduceCtorEq,if_false]
        exact .guess (fun _=>trivial) (fun h=>hn (by simpa using h))) hd
end
def fV (cs:List AV)(k:Nat)(xs:List AV):List AV:=cs.take k++xs++cs.drop (k+xs.length)
theorem uc {cs xs:List AV}{k:Nat}(h:k+xs.length≤cs.length):(fV cs k xs).length=cs.length:=by
  simp[fV,gE,List.length_drop];omega
theorem Bd {cs xs:List AV}{k j:Nat}(h:k+xs.length≤cs.length):(fV cs k xs)[j]? =if k≤j∧j<k+xs.length then xs[j-k]? else cs[j]? :=by
  unfold fV
  rw[List.append_assoc,List.getElem?_append,gE,Nat.min_eq_left (by omega)]
  split
  ·rename_i h1;rw[if_neg (by omega),List.getElem?_take,if_pos h1]
  · rename_i h1
    rw[List.getElem?_append]
    split
    ·rename_i h2;rw[if_pos (by omega)]
    ·rename_i h2;rw[if_neg (by omega),List.getElem?_drop];congr 1;omega
inductive rZ (P:Program) (t:TypeId) (r:AV) (k:Nat) (x:AV):AV→Prop
  |full {n:Nat}:eW P t n→(cells x).length=n→(cells r).length=n→k=0→rZ P t r k x x
  |part {n:Nat}:eW P t n→(cells x).length=n→k+n≤ (cells r).length→rZ P t r k x (.agg (fV (cells r) k (cells x)))
theorem rZ.cells {P:Program}{t:TypeId}{r x r':AV}{k:Nat}(h:rZ P t r k x r'):eW P t (Am.cells x).length∧k+ (Am.cells x).length≤ (Am.cells r).length∧Am.cells r'=fV (Am.cells r) k (Am.cells x):=by
  cases h with
  | full h1 h2 h3 h4=>
    subst h4
    refine⟨by rw[h2];exact h1,by omega,?_⟩
    simp only[fV,List.take_zero,List.nil_append,Nat.zero_add]
    rw[List.drop_eq_nil_of_le (by omega),List.append_nil]
  |part h1 h2 h3=>exact⟨by rw[h2];exact h1,by omega,rfl⟩
def jP (cs:List AV):Bool:=cs.all AV.one
theorem cN.one {W:Nat→Prop}{μ:Mu}{w:World}{cs:List AV}{vs:List Value}(h:cN W μ w cs vs)(ho:jP cs=true):∀v∈vs,v.oneCell'=true:=by
  intro v hv
  obtain⟨j,hj⟩:=List.getElem?_of_mem hv
  have hlt:=(bj hj).1
  have hjc:j<cs.length:=by rw[←h.1];exact hlt
  have hc:cs[j]? =some cs[j]:=bA hjc
  exact(h.2 j _ v hc hj).one (List.all_eq_true.1 ho _ (bV hc))
theorem bJ.set {wd:Nat}{rows:List AV}(h:bJ wd rows){i:Nat}{r:AV}(hr:(cells r).length=wd):bJ wd (rows.set i r):=by
  intro j s hs
  rw[List.getElem?_set] at hs
  split at hs
  · split at hs
    ·cases hs;exact hr
    ·cases hs
  ·exact h j s hs
section
variable {P : Program} {N : Nat} {σ : aA} {o : Oper}
theorem cz.tV {w0:World}{W0:Nat→Prop}{L μ:Mu}{a:Act}{w:World}{ups:List (Nat×MS)}(h:cz P N w0 W0 L μ ⟨σ.slots,br σ.mem ups⟩ a w){dst:Option Tmp}{x:AV}{v:Value}
    (hx:cD (Wr W0 μ (br σ.mem ups)) μ w x v) (hd:∀d,dst=some d→d<N):cz P N w0 W0 L μ (σ.yI dst x ups) (a.put dst v) w:=h.put hx hd
theorem aG.store {y z:Operand}{t:TypeId}{tk i k wd:Nat}{rows:List AV}{r r' x:AV}(ho:o.op=.store t y z)(he:σ.eval y=.ptr tk i k)(hz:σ.eval z=x)(hm:σ.mem tk=.live wd rows false)
    (hr:rows[i]? =some r) (hx:rZ P t r k x r') (hone:jP (cells x)=true) (hsol:x.lF=true) (hd:o.dst=none):aG P N o σ [tk] .any [(tk,.live wd (rows.set i r') false)]:=by
  intro σ2 he2 hrd w0 W0 L μ a w K Q hs hK
  have h1:=hs.eval y
  have h2:=hs.eval z
  rw[he2 y (by simp[ho,Op.operands]),he] at h1
  rw[he2 z (by simp[ho,Op.operands]),hz] at h2
  have hm2:σ2.mem tk=.live wd rows false:=by rw[hrd tk (by simp)];exact hm
  obtain⟨B,hB,hobj⟩:=hs.objs tk wd rows false hm2
  have hvirt:=hobj.real hr
  have ap:B.mp=false:=by
    generalize hv:a.eval y=v at h1
    cases h1 with
    |ptr a1 ap=>rw[hB] at a1;cases a1;exact ap
  obtain⟨C,e,fz,c1,c2,c3⟩:=hobj.blk hvirt ap
  rw[c2 rfl] at c1
  obtain⟨s1,s2,s3⟩:=hx.cells
  have hrow:=hobj.wide i r hr
  have hilt:=(bj hr).1
  have hcx:=h2.cells hsol
  have hrun :∃C',(execOp a.eval o).run P w=.ok .skip (w.setRow B.b C')∧C'.size=C.size∧
      ∀q,C'[q]? =if B.o+ (i*wd+k)≤q∧q<B.o+ (i*wd+k)+ (cells x).length then(a.eval z).cells.toList[q- (B.o+ (i*wd+k))]? else C[q]? :=by
    generalize hv:a.eval y=v at h1
    cases h1 with
    | ptr a1 _=>
      rw[hB] at a1;cases a1
      have hle:B.o+ (i*wd+k)+0+ (a.eval z).cells.toList.length≤C.size:=by
        rw[hcx.1]
        have:(i+1)*wd≤rows.length*wd:=Nat.mul_le_mul_right _ hilt
        rw[Nat.add_mul] at this
        omega
      have hst:=run_storeCells_at (P:=P) B.b (B.o+ (i*wd+k)) e (a.eval z).cells.toList 0 C w c1 hle (hcx.one hone)
      have hsz:(a.eval z).cells.size=(cells x).length:=by rw[←hcx.1];simp
      simp only[Nat.add_zero] at hst
      refine⟨(C.toList.take (B.o+ (i*wd+k))++ (a.eval z).cells.toList++C.toList.drop (B.o+ (i*wd+k)+ (a.eval z).cells.toList.length)).toArray,?_,?_,?_⟩
      · simp only[execOp,ho,hv,Instr.storeAt,Instr.sureAddr,storeVar,Sem.run_bind,Sem.run_pure,Result.andThen_ok,s1 w,hobj.width,hsz,ne_eq,not_true,if_false]
        rw[hst];rfl
      · simp only[Nat.add_zero] at hle
        simp only[List.size_toArray,jz,gE,List.length_drop,Array.length_toList]
        simp only[Array.length_toList] at hle
        omega
      · intro q
        simp only[Nat.add_zero] at hle
        have hl2:(a.eval z).cells.toList.length=(cells x).length:=hcx.1
        simp only[List.getElem?_toArray]
        rw[List.append_assoc,List.getElem?_append,gE,Nat.min_eq_left (by simp only[Array.length_toList] at hle ⊢;omega)]
        split
        ·rename_i hq;rw[if_neg (by omega),List.getElem?_take,if_pos hq];simp
        · rename_i hq
          rw[List.getElem?_append]
          split
          ·rename_i hq2;rw[if_pos (by omega)]
          · rename_i hq2;rw[if_neg (by omega),List.getElem?_drop]
            simp only[Array.getElem?_toList]
            congr 1;omega
  obtain⟨C',k1,k2,k3⟩:=hrun
  have hr'w:(cells r').length=wd:=by rw[s3,uc s2];exact hrow
  have hs' :=hs.setObj (rows':=rows.set i r') hm2 hB hvirt ap c1 k2 (by simp) (hobj.wide.set hr'w) (fun q c hq=>by
    obtain⟨i',j,s,q1,q2,q3,q4⟩:=qK (hobj.wide.set hr'w) hq
    subst q1
    rw[List.getElem?_set] at q2
    by_cases hii:i=i'
    · subst hii
      rw[if_pos rfl,if_pos hilt] at q2;cases q2
      rw[s3,Bd s2] at q3
      split at q3
      · rename_i hj
        have hv:(a.eval z).cells.toList[j-k]? =some ((a.eval z).cells.toList[j-k]'(by rw[hcx.1];omega)):=bA _
        refine⟨_,?_,hcx.2 _ _ _ q3 hv⟩
        rw[k3,if_pos (by omega),←hv];congr 1;omega
      · rename_i hj
        obtain⟨v,v1,v2⟩:=hobj.cell ap _ c (eN hobj.wide hr q3)
        refine⟨v,?_,v2⟩
        rw[k3,if_neg (by omega)]
        simpa[World.cell?,c1] using v1
    · rw [if_neg hii] at q2
      obtain⟨v,v1,v2⟩:=hobj.cell ap _ c (eN hobj.wide q2 q3)
      refine⟨v,?_,v2⟩
      have hne:¬ (B.o+ (i*wd+k)≤B.o+ (i'*wd+j)∧B.o+ (i'*wd+j)<B.o+ (i*wd+k)+ (cells x).length):=by
        rintro⟨n1,n2⟩
        rcases Nat.lt_or_gt_of_ne hii with h|h
        · have:(i+1)*wd≤i'*wd:=Nat.mul_le_mul_right _ h
          rw[Nat.add_mul] at this
          omega
        · have:(i'+1)*wd≤i*wd:=Nat.mul_le_mul_right _ h
          rw[Nat.add_mul] at this
          omega
      rw[k3,if_neg hne]
      simpa[World.cell?,c1] using v1)
  unfold Oper.wp
  rw[k1]
  refine hK μ _ _ ?_
  rw[hd]
  exact hs'
theorem aG.new {tk wd:Nat}{rows:List AV}{x:AV}(hf:σ.mem tk=.free)(hw:bJ wd rows)
    (h : ∀ (σ2:aA),(∀y∈o.op.operands,σ2.eval y=σ.eval y)→∀ (w0:World) (W0:Nat→Prop) (L μ:Mu) (a:Act) (w:World),cz P N w0 W0 L μ σ2 a w→
      ∃ (C:Array Value) (e:TypeId) (v:Value) (n:Nat),(execOp a.eval o).run P w=.ok (.value v) ({w with drawn:=n}.alloc (.cells C e))∧rows.length*wd≤C.size∧
        (∀ (q:Nat) (c:AV),(flat rows)[q]? =some c→∃v,C[q]? =some v∧cD (Wr W0 μ σ2.mem) μ w c v)∧
        (x=.ptr tk 0 0∧v=.pointer (some ⟨w.heap.size,0,none⟩)∨∃cap,x=.own tk 0 rows.length∧v=.slice (some ⟨w.heap.size,0,none⟩) rows.length cap∧rows.length≤cap∧cap*wd≤C.size))
    (hd:∀d,o.dst=some d→d<N):aG P N o σ [tk] x [(tk,.live wd rows false)]:=by
  intro σ2 he2 hrd w0 W0 L μ a w K Q hs hK
  obtain⟨C,e,v,n,h1,h2,h3,h4⟩:=h σ2 he2 w0 W0 L μ a w hs
  have hs1:=hs.drawn n
  have hf2:σ2.mem tk=.free:=by rw[hrd tk (by simp)];exact hf
  have g:Grow (Wr W0 μ σ2.mem) μ w (Wr W0 μ σ2.mem) μ {w with drawn:=n}:=⟨Nat.le_refl _,fun _ _ _=>rfl,fun _ _ _ h=>h,fun _ _ h=>h,fun _ _ h=>h⟩
  have hs2:=hs1.alloc (e:=e) hf2 hw h2 (fun q c hq=>let⟨v,a1,a2⟩:=h3 q c hq;⟨v,a1,a2.grow g⟩)
  unfold Oper.wp
  rw[h1]
  refine hK _ _ _ (cz.tV hs2 ?_ hd)
  rcases h4 with⟨rfl,rfl⟩|⟨cap,rfl,rfl,h5,h6⟩
  · have:=cD.ptr (W:=Wr W0 (bz μ tk ⟨w.heap.size,0,wd,false,false⟩) (br σ2.mem [(tk,MS.live wd rows false)])) (μ:=bz μ tk ⟨w.heap.size,0,wd,false,false⟩) (w:=World.alloc {w with drawn:=n} (.cells C e)) (t:=tk) (i:=0) (k:=0) (B:=⟨w.heap.size,0,wd,false,false⟩) (by simp[bz]) rfl
    simpa using this
  · have:=cD.own (W:=Wr W0 (bz μ tk ⟨w.heap.size,0,wd,false,false⟩) (br σ2.mem [(tk,MS.live wd rows false)])) (μ:=bz μ tk ⟨w.heap.size,0,wd,false,false⟩) (w:=World.alloc {w with drawn:=n} (.cells C e)) (t:=tk) (off:=0) (len:=rows.length) (cap:=cap) (e:=e) (n:=C.size) (B:=⟨w.heap.size,0,wd,false,false⟩)
      (by simp[bz]) rfl rfl h5 (by simp only[World.shape?];rw[show w.heap.size=({w with drawn:=n}:World).heap.size from rfl,heap_alloc_new]) (by simpa using h6)
    simpa using this
theorem aG.box {y:Operand}{t:TypeId}{tk:Nat}{x:AV}(ho:o.op=.box t y)(he:σ.eval y=x)(hsol:x.lF=true)(hf:σ.mem tk=.free)(hd:∀d,o.dst=some d→d<N):
    aG P N o σ [tk] (.ptr tk 0 0) [(tk,.live (cells x).length [x] false)]:=
  .new hf (.cons rfl (.nil _)) (fun σ2 he2 w0 W0 L μ a w hs=>by
    have h1:=hs.eval y
    rw[he2 y (by simp[ho,Op.operands]),he] at h1
    have hc:=h1.cells hsol
    refine⟨(a.eval y).cells,t,.pointer (some ⟨w.heap.size,0,none⟩),w.drawn,?_,?_,fun q c hq=>?_,.inl ⟨rfl,rfl⟩⟩
    ·simp[execOp,ho,Instr.box,newVar,newRow]
    ·have:=hc.1;simp at this;simp[this]
    · simp[flat] at hq
      have hq':=(bj hq).1
      have hv:(a.eval y).cells.toList[q]? =some ((a.eval y).cells.toList[q]'(by rw[hc.1];exact hq')):=bA _
      exact⟨_,by rw[←Array.getElem?_toList];exact hv,hc.2 q c _ hq hv⟩) hd
def mY:Value→AV
  |.agg xs=>.agg (xs.toList.map .lit)
  |x=>.lit x
theorem sD {W:Nat→Prop}{μ:Mu}{w:World}(x:Value):cD W μ w (mY x) x:=by
  cases x with
  | agg xs=>
    have:=cN.lits (W:=W) (μ:=μ) (w:=w) xs.toList
    have h:cD W μ w (.agg (xs.toList.map .lit)) (.agg xs.toList.toArray):=.agg this.1 this.2
    simpa[mY] using h
  |_=>exact .lit
theorem Bm (x:Value):(mY x).lF=true:=by cases x<;>rfl
def jo (P:Program)(t:TypeId)(z:Value):Prop:=∀w,(zeroValue t).run P w=.ok z w
theorem aG.alloc {t:TypeId}{tk:Nat}{z:Value}(ho:o.op=.alloc t)(hz:jo P t z)(hf:σ.mem tk=.free)(hd:∀d,o.dst=some d→d<N):
    aG P N o σ [tk] (.ptr tk 0 0) [(tk,.live (cells (mY z)).length [mY z] false)]:=
  .new hf (.cons rfl (.nil _)) (fun σ2 he2 w0 W0 L μ a w hs=>by
    have hc:=(sD (W:=Wr W0 μ σ2.mem) (μ:=μ) (w:=w) z).cells (Bm z)
    refine⟨z.cells,t,.pointer (some ⟨w.heap.size,0,none⟩),w.drawn,?_,?_,fun q c hq=>?_,.inl ⟨rfl,rfl⟩⟩
    ·simp[execOp,ho,Instr.alloc,hz w,newVar,newRow]
    ·have:=hc.1;simp at this;simp[this]
    · simp[flat] at hq
      have hq':=(bj hq).1
      have hv:z.cells.toList[q]? =some (z.cells.toList[q]'(by rw[hc.1];exact hq')):=bA _
      exact⟨_,by rw[←Array.getElem?_toList];exact hv,hc.2 q c _ hq hv⟩) hd
end
section
variable {P : Program} {N : Nat} {σ : aA} {o : Oper}
structure AH (P:Program) (t e:TypeId) (wd bytes:Nat) (i:TypeInfo) (z:Value):Prop where
  ty:P.underlying t=some (.slice e)
  info:P.info? e=some i
  size:i.size=wd
  bytes:i.bytes=bytes
  zero:i.zero=some z
  zsize:z.cells.size=wd
def ot (base:Option Addr)(k:Nat)(news:List Value):Sem Unit:=
  match base with
  |some a=>storeCells (a.add k) news
  |none=>pure ()
theorem CK {t t2 e e2 ty:TypeId}{wd bytes:Nat}{i:TypeInfo}{z:Value}(ht:AH P t e wd bytes i z)(ht2:P.underlying t2=some (.slice e2)){w:World}{base ax:Option Addr}{sLen sCap n c:Nat}{olds news:List Value}
    (hold:∀d,(Builtin.firstCells wd sLen (.slice base sLen sCap)).run P {w with drawn:=d}=.ok olds.toArray {w with drawn:=d})
    (hnew:∀d,(Builtin.firstCells wd n (.slice ax n c)).run P {w with drawn:=d}=.ok news.toArray {w with drawn:=d})
    (h63:sLen+n≤maxLen) (hb:(sLen+n)*bytes≤140737488355328):
    (sLen+n≤sCap→(Builtin.append_ #[t,t2] ty #[.slice base sLen sCap,.slice ax n c]).run P w=((ot base (sLen*wd) news).run P w).andThen fun _ w'=>.ok (.slice base (sLen+n) sCap) w')∧
    (sCap<sLen+n→∃cap,sLen+n≤cap∧(Builtin.append_ #[t,t2] ty #[.slice base sLen sCap,.slice ax n c]).run P w=
      .ok (.slice (some ⟨w.heap.size,0,none⟩) (sLen+n) cap) (w.drew.alloc (.cells (olds.toArray++news.toArray++Builtin.zeroCells z.cells (cap- (sLen+n))) e))):=by
  obtain⟨h1,h2,h3,h4,h5,h6⟩:=ht
  subst h3;subst h4
  have hnew0:=hnew w.drawn
  constructor
  · intro hroom
    cases base with
    |none=>simp[Builtin.append_,run_underlying h1,run_underlying ht2,sizeOf,typeInfo,h2,Builtin.lenOf,hroom,hnew0,ot]
    |some a=>simp[Builtin.append_,run_underlying h1,run_underlying ht2,sizeOf,typeInfo,h2,Builtin.lenOf,hroom,hnew0,ot]
  · intro hg
    have hn:¬ (sLen+n≤sCap):=by omega
    have hsmall:sLen+n≤9223372036854775807:=by simp only[maxLen] at h63;omega
    have h63':¬ (9223372036854775807< ((sLen:Int)+ (n:Int))):=by omega
    have hfit:=growslice_fits hg hb
    have h48':¬ (281474976710656<Builtin.nextslicecap (sLen+n) sCap*i.bytes):=by omega
    refine⟨grownCap w (sLen+n) sCap e,grownCap_ge w _ _ e,?_⟩
    have ho:(Builtin.firstCells i.size sLen (.slice base sLen sCap)).run P w.drew=.ok olds.toArray w.drew:=hold (w.drawn+1)
    have hnw:(Builtin.firstCells i.size n (.slice ax n c)).run P w.drew=.ok news.toArray w.drew:=hnew (w.drawn+1)
    simp[Builtin.append_,run_underlying h1,run_underlying ht2,sizeOf,typeInfo,zeroValue,h2,h5,Builtin.lenOf,hn,h63',h48',Question.forced,ho,hnw,newRow,grownCap]
    congr 2
    apply Array.ext'
    simp[List.append_assoc]
inductive Src (σ:aA) (wd:Nat):AV→List AV→List Nat→Prop
  |own {t off len:Nat} {rows:List AV} {ro:Bool}:σ.mem t=.live wd rows ro→off+len≤rows.length→Src σ wd (.own t off len) ((rows.drop off).take len) [t]
  |full {t len:Nat} {rows:List AV} {ro:Bool}:σ.mem t=.live wd rows ro→len=rows.length→Src σ wd (.own t 0 len) rows [t]
  |sl {rows:List AV}:Src σ wd (.sl wd rows) rows []
  |emp:Src σ wd .emp [] []
  |nil:Src σ wd (.lit (.slice none 0 0)) [] []
theorem tf {wd c:Nat}{ax:Option Addr}{w:World}:(Builtin.firstCells wd 0 (.slice ax 0 c)).run P w=.ok #[] w:=by
  cases ax with
  |none=>simp[Builtin.firstCells]
  |some a=>simp[Builtin.firstCells,loadCells,loadCellsFrom]
theorem Src.run {σ2:aA}{wd:Nat}{x:AV}{rows:List AV}{rd:List Nat}(h:Src σ wd x rows rd)(hrd:∀t∈rd,σ2.mem t=σ.mem t){w0:World}{W0:Nat→Prop}{L μ:Mu}{a:Act}{w:World}
    (hs:cz P N w0 W0 L μ σ2 a w) {v:Value} (hv:cD (Wr W0 μ σ2.mem) μ w x v):
    ∃ ax c vs,v=.slice ax rows.length c∧cN (Wr W0 μ σ2.mem) μ w (flat rows) vs∧bJ wd rows∧
      ∀d,(Builtin.firstCells wd rows.length (.slice ax rows.length c)).run P {w with drawn:=d}=.ok vs.toArray {w with drawn:=d}:=by
  have key:∀ (b q0:Nat) (rows:List AV) (c:Nat),bJ wd rows→(∀ (q:Nat) (x:AV),(flat rows)[q]? =some x→∃v,w.cell? ⟨b,q0+q,none⟩=some v∧cD (Wr W0 μ σ2.mem) μ w x v)→
      ∃vs,cN (Wr W0 μ σ2.mem) μ w (flat rows) vs∧∀d,(Builtin.firstCells wd rows.length (.slice (some ⟨b,q0,none⟩) rows.length c)).run P {w with drawn:=d}=.ok vs.toArray {w with drawn:=d}:=by
    intro b q0 rows c hw hc
    have key':∀q,∃v,∀x,(flat rows)[q]? =some x→w.cell? ⟨b,q0+q,none⟩=some v∧cD (Wr W0 μ σ2.mem) μ w x v:=fun q=>by
      cases hq:(flat rows)[q]? with
      |none=>exact⟨undef,by simp⟩
      |some x=>obtain⟨v,hv⟩:=hc q x hq;exact⟨v,fun x' h'=>by cases h';exact hv⟩
    obtain⟨f,hf⟩:=Classical.skolem.1 key'
    have hlen:=cQ hw
    refine⟨(List.range (rows.length*wd)).map f,⟨by simp[hlen],fun j x v h1 h2=>?_⟩,fun d=>?_⟩
    · have hj:=(bj h1).1
      rw[hlen] at hj
      simp[hj] at h2
      rw[←h2];exact(hf j x h1).2
    · refine run_firstCells_some (P:=P) _ wd rows.length _ rows.length c _ (by simp) (fun j v hj=>?_)
      have hjl:=(bj hj).1
      simp at hjl
      simp[hjl] at hj
      rw[←hj,Addr.add_lit]
      exact(hf j _ (bA (by rw[hlen];exact hjl))).1
  have nilc:∀ (ax:Option Addr) (c:Nat),∃ax' c' vs,Value.slice ax 0 c=.slice ax' ([]:List AV).length c'∧cN (Wr W0 μ σ2.mem) μ w (flat []) vs∧bJ wd []∧
      ∀d,(Builtin.firstCells wd ([]:List AV).length (.slice ax' ([]:List AV).length c')).run P {w with drawn:=d}=.ok vs.toArray {w with drawn:=d}:=
    fun ax c=>⟨ax,c,[],rfl,.nil,.nil _,fun d=>tf⟩
  cases h with
  | @own t off len rows ro hm hl=>
    have hm2:σ2.mem t=.live wd rows ro:=by rw[hrd t (by simp)];exact hm
    obtain⟨B,hB,hobj⟩:=hs.objs t wd rows ro hm2
    have hll:((rows.drop off).take len).length=len:=by rw[gE,List.length_drop];omega
    have hwide:bJ wd ((rows.drop off).take len):=hobj.wide.sub fun r hr=>List.mem_of_mem_drop (List.mem_of_mem_take hr)
    cases hv with
    | @own _ _ _ cap e n B' a1 av ap a2 a3 a4=>
      rw[hB] at a1;cases a1
      obtain⟨vs,k1,k2⟩:=key B.b (B.o+off*B.wd) _ cap hwide (fun q x hq=>by
        obtain⟨v,v1,v2⟩:=hobj.cell ap _ x (lM hobj.wide hq)
        exact⟨v,by rw[hobj.width,Nat.add_assoc];exact v1,v2⟩)
      rw[hll] at k2 ⊢
      exact⟨_,cap,vs,rfl,k1,hwide,k2⟩
    | ownNil a1=>
      have:(rows.drop off).take 0=[]:=by simp
      rw[this];exact nilc _ _
  | @full t len rows ro hm hl=>
    have hm2:σ2.mem t=.live wd rows ro:=by rw[hrd t (by simp)];exact hm
    obtain⟨B,hB,hobj⟩:=hs.objs t wd rows ro hm2
    subst hl
    generalize hn:rows.length=n at hv
    cases hv with
    | @own _ _ _ cap e n B' a1 av ap a2 a3 a4=>
      rw[hB] at a1;cases a1
      obtain⟨vs,k1,k2⟩:=key B.b (B.o+0*B.wd) rows cap hobj.wide (fun q x hq=>by
        obtain⟨v,v1,v2⟩:=hobj.cell ap _ x hq
        exact⟨v,by simpa using v1,v2⟩)
      subst hn
      exact⟨_,cap,vs,rfl,k1,hobj.wide,k2⟩
    | ownNil a1=>
      have:=List.eq_nil_of_length_eq_zero hn
      subst this
      exact nilc _ _
  | sl =>
    cases hv with
    |slNil=>exact nilc _ _
    | @sl _ _ b q0 cap n f a1 a2 a3 a4 a5 a6 a7=>
      obtain⟨vs,k1,k2⟩:=key b q0 rows cap a5 (fun q x hq=>⟨f q,a6 q x hq,a7 q x hq⟩)
      subst a3
      exact⟨_,cap,vs,rfl,k1,a5,k2⟩
  |emp=>cases hv;exact nilc _ _
  |nil=>cases hv;exact nilc _ _
inductive sG (σ:aA) (wd:Nat):AV→List AV→List Nat→Prop
  |own {t off len:Nat} {rows:List AV}:σ.mem t=.live wd rows false→off+len≤rows.length→sG σ wd (.own t off len) ((rows.drop off).take len) [t]
  |full {t len:Nat} {rows:List AV}:σ.mem t=.live wd rows false→len=rows.length→sG σ wd (.own t 0 len) rows [t]
  |emp:sG σ wd .emp [] []
  |nil:sG σ wd (.lit (.slice none 0 0)) [] []
theorem sG.src {wd:Nat}{x:AV}{rows:List AV}{k:List Nat}(h:sG σ wd x rows k):Src σ wd x rows k:=by
  cases h with
  |own a b=>exact .own a b
  |full a b=>exact .full a b
  |emp=>exact .emp
  |nil=>exact .nil
theorem sG.live {wd:Nat}{x:AV}{rows:List AV}{k:List Nat}(h:sG σ wd x rows k):∀t∈k,∃rows,σ.mem t=.live wd rows false:=by
  cases h with
  |own a b=>intro t ht;simp at ht;subst ht;exact⟨_,a⟩
  |full a b=>intro t ht;simp at ht;subst ht;exact⟨_,a⟩
  |emp=>simp
  |nil=>simp
theorem kF {m:Nat→MS}{a b:List (Nat×MS)}:br m (a++b)=br (br m b) a:=by
  induction a with
  |nil=>rfl
  |cons x r ih=>obtain⟨t,s⟩:=x;funext u;simp[br,ih]
theorem lA {m:Nat→MS}{k:List Nat}{t:Nat}:br m (k.map fun t=>(t,MS.dead)) t=if t∈k then .dead else m t:=by
  induction k with
  |nil=>simp[br]
  |cons x r ih=>simp only[List.map_cons,br,ih,dP];by_cases h:t=x<;>simp[h]
theorem cz.ou {w0:World}{W0:Nat→Prop}{L μ:Mu}{a:Act}{w:World}(h:cz P N w0 W0 L μ σ a w){t wd:Nat}(ht:σ.mem t=.free):
    cz P N w0 W0 L (bz μ t ⟨0,0,wd,true,false⟩) ⟨σ.slots,br σ.mem [(t,.live wd [] false)]⟩ a w:=by
  have hmt:μ t=none:=(h.free t).1 ht
  have mu:∀u B,μ u=some B→bz μ t ⟨0,0,wd,true,false⟩ u=some B:=fun u B hu=>by
    have:u≠t:=fun e=>by rw[e,hmt] at hu;cases hu
    simp[bz,this,hu]
  have old:∀u wd' rows' ro B,br σ.mem [(t,.live wd [] false)] u=.live wd' rows' ro→bz μ t ⟨0,0,wd,true,false⟩ u=some B→B.virt=false→w.heap.size≤B.b∨
      ∃t1 wd1 rows1 ro1 B1,σ.mem t1=.live wd1 rows1 ro1∧μ t1=some B1∧B1.b=B.b∧B1.virt=false∧(ro=false→ro1=false):=by
    intro u wd' rows' ro B h1 h2 hv
    by_cases hu:u=t
    ·subst hu;simp[bz] at h2;subst h2;cases hv
    · simp[br,hu] at h1;simp[bz,hu] at h2
      exact .inr ⟨u,wd',rows',ro,B,h1,h2,rfl,hv,id⟩
  have g:=h.grow (w':=w) (Nat.le_refl _) (fun _ _ _=>rfl) (fun _ _ _ h=>h) mu (fD old)
  refine h.step (Nat.le_refl _) rfl rfl rfl (fun _ _ _=>rfl) (fun _ _ _ h=>h) mu old (fun u=>?_) (fun u wd' rows' ro hu=>?_) ?_
  · by_cases hu:u=t
    ·subst hu;simp[br,bz]
    ·simp[br,bz,hu,h.free u]
  · by_cases hut:u=t
    · subst hut
      simp[br] at hu
      obtain⟨rfl,rfl,rfl⟩:=hu
      exact⟨⟨0,0,wd,true,false⟩,by simp[bz],rfl,.nil _,(fun h=>nomatch h),fun _=>rfl,fun _ q c hq=>by simp[flat] at hq,(fun h=>nomatch h),(fun h=>nomatch h)⟩
    · simp[br,hut] at hu
      obtain⟨B,h1,h2⟩:=h.objs u wd' rows' ro hu
      exact⟨B,mu u B h1,h2.grow g fun _=>rfl⟩
  · intro u u' wd1 r1 wd2 r2 ro2 B B' hne h1 h2 h3 h4 v1 v2
    by_cases hu:u=t
    ·subst hu;simp[bz] at h3;subst h3;cases v1
    · by_cases hu':u'=t
      ·subst hu';simp[bz] at h4;subst h4;cases v2
      · simp[br,hu] at h1;simp[bz,hu] at h3
        simp[br,hu'] at h2;simp[bz,hu'] at h4
        exact h.inj u u' wd1 r1 wd2 r2 ro2 B B' hne h1 h2 h3 h4 v1 v2
theorem cz.reuse {w0:World}{W0:Nat→Prop}{L μ:Mu}{a:Act}{w:World}(h:cz P N w0 W0 L μ σ a w){t tn wd off:Nat}{rows rows':List AV}{B:zN}{C C':Array Value}{e:TypeId}(ht:σ.mem t=.live wd rows false)
    (hB:μ t=some B) (hv:B.virt=false) (htn:σ.mem tn=.free) (hC:w.heap[B.b]? =some (.cells C e (0,0))) (hsz:C'.size=C.size) (hw:bJ wd rows') (hfit:B.o+off*wd+rows'.length*wd≤C.size)
    (hc:∀ (q:Nat) (c:AV),(flat rows')[q]? =some c→∃v,C'[B.o+off*wd+q]? =some v∧cD (Wr W0 μ σ.mem) μ w c v):
    cz P N w0 W0 L (bz μ tn ⟨B.b,B.o+off*wd,wd,false,false⟩) ⟨σ.slots,br σ.mem [(tn,.live wd rows' false),(t,.dead)]⟩ a (w.setRow B.b C'):=by
  have hne0:tn≠t:=fun e=>by rw[e,ht] at htn;cases htn
  have hmt:μ tn=none:=(h.free tn).1 htn
  have hheap:(w.setRow B.b C').heap[B.b]? =some (.cells C' e (0,0)):=setRow_heap w B.b C C' e (0,0) hC
  have size:w.heap.size≤ (w.setRow B.b C').heap.size:=by simp
  have j6:∀b,b<w.heap.size→¬iZ μ σ.mem b→(w.setRow B.b C').heap[b]? =w.heap[b]? :=fun b _ hm=>by
    refine setRow_other w B.b b C' fun e=>hm ⟨t,B,wd,rows,ht,hB,e.symm,hv⟩
  have shape:∀b e n,w.shape? b=some (e,n)→(w.setRow B.b C').shape? b=some (e,n):=fun b e' n hs=>by
    by_cases hb:b=B.b
    ·subst hb;simp[World.shape?,hC] at hs;simp[World.shape?,hheap,hsz,hs]
    ·simpa[World.shape?,setRow_other w B.b b C' hb] using hs
  have mu:∀u B',μ u=some B'→bz μ tn ⟨B.b,B.o+off*wd,wd,false,false⟩ u=some B':=fun u B' hu=>by
    have:u≠tn:=fun e=>by rw[e,hmt] at hu;cases hu
    simp[bz,this,hu]
  have m':∀u,u≠tn→u≠t→br σ.mem [(tn,MS.live wd rows' false),(t,.dead)] u=σ.mem u:=fun u h1 h2=>by simp[br,h1,h2]
  have mt:br σ.mem [(tn,MS.live wd rows' false),(t,.dead)] t=.dead:=by simp[br,Ne.symm hne0]
  have old:∀u wd' rows'' ro B',br σ.mem [(tn,MS.live wd rows' false),(t,.dead)] u=.live wd' rows'' ro→bz μ tn ⟨B.b,B.o+off*wd,wd,false,false⟩ u=some B'→B'.virt=false→w.heap.size≤B'.b∨
      ∃t1 wd1 rows1 ro1 B1,σ.mem t1=.live wd1 rows1 ro1∧μ t1=some B1∧B1.b=B'.b∧B1.virt=false∧(ro=false→ro1=false):=by
    intro u wd' rows'' ro B' h1 h2 hv'
    by_cases hu:u=tn
    ·subst hu;simp[bz] at h2;subst h2;exact .inr ⟨t,wd,rows,false,B,ht,hB,rfl,hv,fun _=>rfl⟩
    · by_cases hut:u=t
      ·subst hut;rw[mt] at h1;cases h1
      · rw[m' u hu hut] at h1;simp[bz,hu] at h2
        exact .inr ⟨u,wd',rows'',ro,B',h1,h2,rfl,hv',id⟩
  have g:=h.grow size j6 shape mu (fD old)
  refine h.step size rfl rfl rfl j6 shape mu old (fun u=>?_) (fun u wd' rows'' ro hu=>?_) ?_
  · by_cases hu:u=tn
    ·subst hu;simp[br,bz]
    · by_cases hut:u=t
      ·subst hut;rw[mt];simp[bz,hu,hB]
      ·rw[m' u hu hut];simp[bz,hu,h.free u]
  · by_cases hut:u=tn
    · subst hut
      simp[br] at hu
      obtain⟨rfl,rfl,rfl⟩:=hu
      refine⟨⟨B.b,B.o+off*wd,wd,false,false⟩,by simp[bz],rfl,hw,fun _ _=>⟨C',e,(0,0),hheap,fun _=>rfl,by rw[hsz];exact hfit⟩,(fun h=>nomatch h),fun _ q c hq=>?_,(fun h=>nomatch h),(fun h=>nomatch h)⟩
      obtain⟨v,h1,h2⟩:=hc q c hq
      exact⟨v,by simp[World.cell?,hheap,h1],h2.grow g⟩
    · by_cases hut2:u=t
      ·subst hut2;rw[mt] at hu;cases hu
      · rw[m' u hut hut2] at hu
        obtain⟨B',h1,h2⟩:=h.objs u wd' rows'' ro hu
        exact⟨B',mu u B' h1,h2.grow g fun hv'=>(setRow_other w B.b B'.b C' (fun e=>h.inj t u wd rows wd' rows'' ro B B' (fun e=>hut2 e.symm) ht hu hB h1 hv hv' e.symm))⟩
  · intro u u' wd1 r1 wd2 r2 ro2 B1 B2 hne h1 h2 h3 h4 v1 v2
    have cs:∀u wd1 r1 ro B1,br σ.mem [(tn,MS.live wd rows' false),(t,.dead)] u=.live wd1 r1 ro→bz μ tn ⟨B.b,B.o+off*wd,wd,false,false⟩ u=some B1→
        (u=tn∧ro=false∧B1.b=B.b)∨(u≠tn∧u≠t∧σ.mem u=.live wd1 r1 ro∧μ u=some B1):=by
      intro u wd1 r1 ro B1 h1 h3
      by_cases hu:u=tn
      ·subst hu;simp[bz] at h3;subst h3;simp[br] at h1;exact .inl ⟨rfl,by simp[h1],rfl⟩
      · by_cases hut:u=t
        ·subst hut;rw[mt] at h1;cases h1
        ·rw[m' u hu hut] at h1;simp[bz,hu] at h3;exact .inr ⟨hu,hut,h1,h3⟩
    rcases cs _ _ _ _ _ h1 h3 with⟨rfl,_,e1⟩|⟨a1,a2,a3,a4⟩
    · rcases cs _ _ _ _ _ h2 h4 with⟨rfl,_,_⟩|⟨b1,b2,b3,b4⟩
      ·exact absurd rfl hne
      ·rw[e1];exact h.inj t u' _ _ _ _ _ B B2 (Ne.symm b2) ht b3 hB b4 hv v2
    · rcases cs _ _ _ _ _ h2 h4 with⟨rfl,_,e2⟩|⟨b1,b2,b3,b4⟩
      ·rw[e2];exact fun e=>h.inj u t _ _ _ _ _ B1 B a2 a3 ht a4 hB v1 hv e
      ·exact h.inj u u' _ _ _ _ _ B1 B2 hne a3 b3 a4 b4 v1 v2
end
section
variable {P : Program} {N : Nat} {σ : aA} {o : Oper}
theorem Grow.drawn {W:Nat→Prop}{μ:Mu}{w:World}(n:Nat):Grow W μ w W μ {w with drawn:=n}:=⟨Nat.le_refl _,fun _ _ _=>rfl,fun _ _ _ h=>h,fun _ _ h=>h,fun _ _ h=>h⟩
theorem aG.append {y z:Operand}{t t2 e e2:TypeId}{wd bytes:Nat}{i:TypeInfo}{zv:Value}{rows0 news:List AV}{k rd:List Nat}{tn:Nat}
    (ho:o.op=.call {callee:=.builtin .append,args:= #[y,z],argTypes:= #[t,t2]}) (ht:AH P t e wd bytes i zv) (ht2:P.underlying t2=some (.slice e2))
    (hb:sG σ wd (σ.eval y) rows0 k) (hx:Src σ wd (σ.eval z) news rd) (hone:jP (flat news)=true) (hbytes:(rows0.length+news.length)*bytes≤140737488355328) (h63:rows0.length+news.length≤maxLen)
    (htn:σ.mem tn=.free) (hd:∀d,o.dst=some d→d<N):
    aG P N o σ (tn::(k++rd)) (.own tn 0 (rows0++news).length) ((tn,.live wd (rows0++news) false)::k.map fun t=>(t,.dead)):=by
  intro σ2 he2 hrd w0 W0 L μ a w K Q hs hK
  have hy:=hs.eval y
  have hz:=hs.eval z
  rw[he2 y (by simp[ho,Op.operands,Call.operands])] at hy
  rw[he2 z (by simp[ho,Op.operands,Call.operands])] at hz
  have htn2:σ2.mem tn=.free:=by rw[hrd tn (by simp)];exact htn
  have hk2:∀t∈k,σ2.mem t=σ.mem t:=fun t h=>hrd t (by simp[h])
  obtain⟨bx,sCap,olds,ey,ry,wy,fy⟩:=hb.src.run (P:=P) hk2 hs hy
  obtain⟨ax,c,vnews,ez,rz,wz,fz⟩:=hx.run (P:=P) (fun t h=>hrd t (by simp[h])) hs hz
  have hwide:bJ wd (rows0++news):=wy.append wz
  have hlen:(rows0++news).length=rows0.length+news.length:=jz
  have hvl:vnews.length=news.length*wd:=by rw[rz.1,cQ wz]
  obtain⟨run1,run2⟩:=CK (ty:=o.type) ht ht2 (w:=w) (base:=bx) (ax:=ax) (sLen:=rows0.length) (sCap:=sCap) (n:=news.length) (c:=c) fy fz h63 hbytes
  have hexec:∀v w',(Builtin.append_ #[t,t2] o.type #[.slice bx rows0.length sCap,.slice ax news.length c]).run P w=.ok v w'→(execOp a.eval o).run P w=.ok (.value v) w':=by
    intro v w' h
    simp[execOp,ho,resolve,invoke,builtin,ey,ez,h]
  unfold Oper.wp
  by_cases hg:sCap<rows0.length+news.length
  · obtain⟨cap,hcap,hrun⟩:=run2 hg
    rw[hexec _ _ hrun]
    have hdead:=hs.drop (m':=br σ2.mem (k.map fun t=>(t,.dead))) (fun t=>by
      rw[lA]
      split
      · rename_i hm
        obtain⟨rows,hr⟩:=hb.live t hm
        exact .inr (.inl ⟨rfl,by rw[hk2 t hm,hr];intro h;cases h⟩)
      ·exact .inl rfl)
    have htnk:tn∉k:=fun h=>by
      obtain⟨rows,hr⟩:=hb.live tn h
      rw[htn] at hr;cases hr
    have hgr:Grow (Wr W0 μ σ2.mem) μ w (Wr W0 μ (br σ2.mem (k.map fun t=>(t,.dead)))) μ w:=by
      refine⟨Nat.le_refl _,fun _ _ _=>rfl,fun _ _ _ h=>h,?_,fun _ _ h=>h⟩
      rintro b hb' (h|⟨t,B,wd',rows,h1,h2,h3,h4⟩)
      ·exact .inl h
      · rw[lA] at h1
        split at h1
        ·cases h1
        ·exact .inr ⟨t,B,wd',rows,h1,h2,h3,h4⟩
    have hdr:=hdead.drawn (w.drawn+1)
    have hal:=hdr.alloc (t:=tn) (wd:=wd) (rows:=rows0++news) (C:=olds.toArray++vnews.toArray++Builtin.zeroCells zv.cells (cap- (rows0.length+news.length))) (e:=e)
      (by show br σ2.mem _ tn=.free;rw[lA,if_neg htnk];exact htn2) hwide
      (by
        have:=ry.1
        rw[cQ wy] at this
        simp only[Array.size_append,List.size_toArray,this,hvl,hlen,Nat.add_mul]
        omega)
      (fun q x hq=>by
        rw[gZ,List.getElem?_append] at hq
        have hcat:=ry.append rz
        have hq':(flat rows0++flat news)[q]? =some x:=by rw[List.getElem?_append];exact hq
        have hlt:=(bj hq').1
        have hv:(olds++vnews)[q]? =some ((olds++vnews)[q]'(by rw[hcat.1];exact hlt)):=bA _
        refine⟨(olds++vnews)[q]'(by rw[hcat.1];exact hlt),?_,((hcat.2 q x _ hq' hv).grow hgr).grow (Grow.drawn _)⟩
        rw[Array.getElem?_append_left (by simp only[Array.size_append,List.size_toArray];rw[←jz,hcat.1];exact hlt)]
        simp)
    refine hK _ _ _ (hal.put ?_ hd)
    have :=cD.own (W:=Wr W0 (bz μ tn ⟨w.heap.size,0,wd,false,false⟩) (br (br σ2.mem (k.map fun t=>(t,MS.dead))) [(tn,MS.live wd (rows0++news) false)])) (μ:=bz μ tn ⟨w.heap.size,0,wd,false,false⟩)
      (w:=w.drew.alloc (.cells (olds.toArray++vnews.toArray++Builtin.zeroCells zv.cells (cap- (rows0.length+news.length))) e)) (t:=tn) (off:=0) (len:=(rows0++news).length) (cap:=cap) (e:=e)
      (n:=(olds.toArray++vnews.toArray++Builtin.zeroCells zv.cells (cap- (rows0.length+news.length))).size) (B:=⟨w.heap.size,0,wd,false,false⟩)
      (by simp[bz]) rfl rfl (by rw[hlen];exact hcap) (by simp only[World.shape?];rw[show w.heap.size=w.drew.heap.size from rfl,heap_alloc_new])
      (by
        have h0:=ry.1
        rw[cQ wy] at h0
        simp only[Array.size_append,List.size_toArray,h0,hvl,size_zeroCells,ht.zsize,←Nat.add_mul,Nat.zero_add]
        exact Nat.mul_le_mul_right _ (by omega))
    rw[hlen] at this ⊢
    simpa using this
  · have hroom :rows0.length+news.length≤sCap:=by omega
    have hrun:=run1 hroom
    -- the base is an own slice with a block, or nothing is there at all
    have hcases:(∃tk off rows B,k=[tk]∧σ2.mem tk=.live wd rows false∧μ tk=some B∧B.virt=false∧B.mp=false∧bx=some ⟨B.b,B.o+off*wd,none⟩∧(∃n e',w.shape? B.b=some (e',n)∧B.o+ (off+sCap)*wd≤n)∧
          (∀ (q:Nat) (x:AV),(flat rows0)[q]? =some x→(flat rows)[off*wd+q]? =some x)∧fM (Wr W0 μ σ2.mem) μ w B wd rows false)∨(rows0=[]∧news=[]∧sCap=0):=by
      rw[ey] at hy
      have own:∀tk off len rows,σ.mem tk=.live wd rows false→k=[tk]→cD (Wr W0 μ σ2.mem) μ w (.own tk off len) (.slice bx rows0.length sCap)→(∀ (q:Nat) (x:AV),(flat rows0)[q]? =some x→(flat rows)[off*wd+q]? =some x)→
          rows0.length=len→(∃tk off rows B,k=[tk]∧σ2.mem tk=.live wd rows false∧μ tk=some B∧B.virt=false∧B.mp=false∧bx=some ⟨B.b,B.o+off*wd,none⟩∧(∃n e',w.shape? B.b=some (e',n)∧B.o+ (off+sCap)*wd≤n)∧
          (∀ (q:Nat) (x:AV),(flat rows0)[q]? =some x→(flat rows)[off*wd+q]? =some x)∧fM (Wr W0 μ σ2.mem) μ w B wd rows false)∨(rows0=[]∧news=[]∧sCap=0):=by
        intro tk off len rows hm hk hr hfl hl
        have hm2:σ2.mem tk=.live wd rows false:=by rw[hk2 tk (by simp[hk])];exact hm
        obtain⟨B,hB,hobj⟩:=hs.objs tk wd rows false hm2
        generalize hbx:bx=bx' at hr
        generalize hn0:rows0.length=n0 at hr hl
        cases hr with
        | own a1 av ap a2 a3 a4=>
          rw[hB] at a1;cases a1
          exact .inl ⟨tk,off,rows,B,hk,hm2,hB,av,ap,by rw[hobj.width],⟨_,_,a3,by rw[←hobj.width];exact a4⟩,hfl,hobj⟩
        | ownNil a1=>
          refine .inr ⟨List.eq_nil_of_length_eq_zero hn0,List.eq_nil_of_length_eq_zero ?_,rfl⟩
          omega
      generalize hxv:σ.eval y=xv at hb hy
      cases hb with
      | @own tk off len rows hm hl=>
        have hm2:σ2.mem tk=.live wd rows false:=by rw[hk2 tk (by simp)];exact hm
        obtain⟨B,hB,hobj⟩:=hs.objs tk wd rows false hm2
        exact own tk off len rows hm rfl hy (fun q x hq=>lM hobj.wide hq) (by rw[gE,List.length_drop];omega)
      | @full tk len rows hm hl=>
        exact own tk 0 len rows0 hm rfl hy (fun q x hq=>by simpa using hq) hl.symm
      | emp=>
        cases hy
        refine .inr ⟨rfl,by simpa using hroom,rfl⟩
      | nil=>
        cases hy
        refine .inr ⟨rfl,by simpa using hroom,rfl⟩
    rcases hcases with⟨tk,off,rows,B,hk,hm2,hB,hv,hmp,hbx,⟨n,e',hsh,hfit⟩,hfl,hobj⟩|⟨h1,h2,h3⟩
    · obtain ⟨C,e1,fz1,c1,c2,c3⟩:=hobj.blk hv hmp
      rw[c2 rfl] at c1
      have hn:C.size=n:=by simp[World.shape?,c1] at hsh;exact hsh.2
      have hmul:rows0.length*wd+news.length*wd≤sCap*wd:=by rw[←Nat.add_mul];exact Nat.mul_le_mul_right _ hroom
      rw[Nat.add_mul] at hfit
      have hst:=run_storeCells_at (P:=P) B.b (B.o+off*wd+rows0.length*wd) e1 vnews 0 C w c1 (by omega) (rz.one hone)
      rw[hbx] at hrun
      simp only[ot,Addr.add_lit,Nat.add_zero] at hrun hst
      rw[hst] at hrun
      simp only[Result.andThen_ok] at hrun
      rw[hexec _ _ (by rw[hbx];exact hrun)]
      have hrows0:∀ (q:Nat) (x:AV),(flat rows0)[q]? =some x→∃v,C[B.o+off*wd+q]? =some v∧cD (Wr W0 μ σ2.mem) μ w x v:=fun q x hq=>by
        obtain⟨v,v1,v2⟩:=hobj.cell hmp _ x (hfl q x hq)
        exact⟨v,by rw[Nat.add_assoc];simpa[World.cell?,c1] using v1,v2⟩
      have hl0:=cQ wy
      have hCl:C.toList.length=C.size:=Array.length_toList
      have hre :=hs.reuse (tn:=tn) (off:=off) (rows':=rows0++news) (C':=(C.toList.take (B.o+off*wd+rows0.length*wd)++vnews++C.toList.drop (B.o+off*wd+rows0.length*wd+vnews.length)).toArray) hm2 hB hv htn2 c1
        (by simp only[List.size_toArray,jz,gE,List.length_drop,hCl];omega) hwide (by rw[hlen,Nat.add_mul];omega)
        (fun q x hq=>by
          rw[gZ,List.getElem?_append] at hq
          split at hq
          · rename_i hql
            obtain⟨v,v1,v2⟩:=hrows0 q x hq
            refine⟨v,?_,v2⟩
            simp only[List.getElem?_toArray]
            rw[List.append_assoc,rW (by rw[gE,hCl];omega),List.getElem?_take,if_pos (by omega)]
            simpa using v1
          · rename_i hql
            have hlt:=(bj hq).1
            have hv':vnews[q- (flat rows0).length]? =some (vnews[q- (flat rows0).length]'(by rw[rz.1];exact hlt)):=bA _
            refine⟨_,?_,rz.2 _ x _ hq hv'⟩
            simp only[List.getElem?_toArray]
            rw [List.append_assoc,List.getElem?_append_right (by rw[gE,hCl];omega),gE,hCl,Nat.min_eq_left (by omega),rW (by
              rw[rz.1];omega),←hv']
            congr 1;omega)
      subst hk
      refine hK _ _ _ (hre.put ?_ hd)
      have :=cD.own (W:=Wr W0 (bz μ tn ⟨B.b,B.o+off*wd,wd,false,false⟩) (br σ2.mem [(tn,MS.live wd (rows0++news) false),(tk,.dead)])) (μ:=bz μ tn ⟨B.b,B.o+off*wd,wd,false,false⟩)
        (w:=w.setRow B.b (C.toList.take (B.o+off*wd+rows0.length*wd)++vnews++C.toList.drop (B.o+off*wd+rows0.length*wd+vnews.length)).toArray) (t:=tn) (off:=0) (len:=(rows0++news).length) (cap:=sCap) (e:=e1)
        (n:=C.size) (B:=⟨B.b,B.o+off*wd,wd,false,false⟩) (by simp[bz]) rfl rfl (by rw[hlen];exact hroom)
        (by
          simp only[World.shape?,setRow_heap w B.b C _ e1 (0,0) c1,Option.some.injEq,Prod.mk.injEq,true_and]
          simp only[List.size_toArray,jz,gE,List.length_drop,hCl];omega) (by simp only[Nat.zero_add];omega)
      rw[hlen] at this ⊢
      simpa using this
    · subst h1;subst h2;subst h3
      have hv0:vnews=[]:=List.eq_nil_of_length_eq_zero (by simpa using hvl)
      subst hv0
      have hrun':(Builtin.append_ #[t,t2] o.type #[.slice bx 0 0,.slice ax 0 c]).run P w=.ok (.slice bx 0 0) w:=by
        cases bx with
        |none=>simpa[ot] using hrun
        |some ad=>simpa[ot,storeCells] using hrun
      rw[hexec _ _ hrun']
      have hdead:=hs.drop (m':=br σ2.mem (k.map fun t=>(t,.dead))) (fun t=>by
        rw[lA]
        split
        · rename_i hm
          obtain⟨rows,hr⟩:=hb.live t hm
          exact .inr (.inl ⟨rfl,by rw[hk2 t hm,hr];intro h;cases h⟩)
        ·exact .inl rfl)
      have htnk:tn∉k:=fun h=>by
        obtain⟨rows,hr⟩:=hb.live tn h
        rw[htn] at hr;cases hr
      have hal:=hdead.ou (t:=tn) (wd:=wd) (by show br σ2.mem _ tn=.free;rw[lA,if_neg htnk];exact htn2)
      refine hK _ _ _ (hal.put (.ownNil (B:=⟨0,0,wd,true,false⟩) (by simp[bz])) hd)
def mZ (place:Nat→Option (Nat×Nat))(cs:List AV):List (Nat×AV)→Option (List AV)
  |[]=>some cs
  | (i,x)::rest=>
    match place i with
    |none=>none
    |some (off,size)=>if(cells x).length=size∧off+ (cells x).length≤cs.length∧x.lF=true then mZ place (fV cs off (cells x)) rest else none
theorem Ai {off:Nat}:∀ (l:List Value) (n:Nat) (C:Array Value),off+n+l.length≤C.size→
    ((l.zipIdx n).foldl (fun cs (p:Value×Nat)=>cs.setIfInBounds (off+p.2) p.1) C).toList=C.toList.take (off+n)++l++C.toList.drop (off+n+l.length)
  |[],n,C,h=>by simp
  | v ::l,n,C,h=>by
    simp only[List.zipIdx_cons,List.foldl_cons]
    simp only[List.length_cons] at h
    rw[Ai l (n+1) _ (by simp;omega)]
    have hlt:off+n<C.toList.length:=by simp;omega
    apply List.ext_getElem?
    intro j
    simp only[Array.toList_setIfInBounds,List.length_cons,List.getElem?_append,jz,gE,List.length_set,List.getElem?_take,List.getElem?_drop,List.getElem?_set,List.getElem?_cons]
    rcases Nat.lt_trichotomy j (off+n) with hj|hj|hj
    · repeat' split
      all_goals first|rfl|omega|(congr 1;omega)
    · subst hj
      repeat' split
      all_goals first|rfl|omega|(congr 1;omega)|skip
    · repeat' split
      all_goals first|rfl|omega|(congr 1;omega)|skip
theorem sy {W:Nat→Prop}{μ:Mu}{w:World}{place:Nat→Option (Nat×Nat)}:∀ {ps:List (Nat×AV)} {vs:List (Nat×Value)} {cs cs':List AV} {C:Array Value},mZ place cs ps=some cs'→cN W μ w cs C.toList→
    vs.length=ps.length→(∀ (j:Nat) (i:Nat) (x:AV),ps[j]? =some (i,x)→∃v,vs[j]? =some (i,v)∧cD W μ w x v)→∃C',Instr.fill place C vs=some C'∧cN W μ w cs' C'.toList
  |[],[],cs,cs',C,h,hc,_,_=>by simp[mZ] at h;subst h;exact⟨C,rfl,hc⟩
  |[],v::vs,_,_,_,_,_,hl,_=>by simp at hl
  |p::ps,[],_,_,_,_,_,hl,_=>by simp at hl
  | (i, x) ::ps,(i',v)::vs,cs,cs',C,h,hc,hl,hv=>by
    obtain⟨v0,h1,h2⟩:=hv 0 i x rfl
    simp at h1
    obtain⟨rfl,rfl⟩:=h1
    simp only[mZ] at h
    simp only[Instr.fill]
    cases hp:place i' with
    |none=>rw[hp] at h;cases h
    | some os=>
      obtain⟨off,size⟩:=os
      rw[hp] at h
      simp only at h ⊢
      split at h
      · rename_i hcond
        obtain⟨c1,c2,c3⟩:=hcond
        have hx:=h2.cells c3
        have hsz:v.cells.size=(cells x).length:=by rw[←hx.1];simp
        have hC:C.size=cs.length:=by rw[←hc.1];simp
        have hnot:(decide (v.cells.size≠size)||decide (off+v.cells.size>C.size))=false:=by
          simp;constructor<;>omega
        rw[show(v.cells.size≠size||off+v.cells.size>C.size)=false from hnot]
        simp only[Bool.false_eq_true,if_false]
        refine sy h ?_ (by simpa using hl) (fun j k y hj=>by have:=hv (j+1) k y (by simpa using hj);simpa using this)
        have hfold:(v.cells.zipIdx.foldl (fun cs (p:Value×Nat)=>cs.setIfInBounds (off+p.2) p.1) C).toList=C.toList.take off++v.cells.toList++C.toList.drop (off+v.cells.toList.length):=by
          rw[←Array.foldl_toList,Array.toList_zipIdx]
          exact Ai (off:=off) v.cells.toList 0 C (by simp;omega)
        show cN W μ w (fV cs off (cells x)) (v.cells.zipIdx.foldl (fun cs (p:Value×Nat)=>cs.setIfInBounds (off+p.2) p.1) C).toList
        rw[hfold]
        unfold fV
        have htake:cN W μ w (cs.take off) (C.toList.take off):=⟨by simp[hC],fun j c u a b=>by
          rw[List.getElem?_take] at a b
          split at a
          ·rename_i hj;rw[if_pos hj] at b;exact hc.2 j c u a b
          ·cases a⟩
        have hdrop:cN W μ w (cs.drop (off+ (cells x).length)) (C.toList.drop (off+v.cells.toList.length)):=⟨by simp[hC,hsz],fun j c u a b=>by
          rw[List.getElem?_drop] at a b
          rw[hx.1] at b
          exact hc.2 _ c u a b⟩
        exact(htake.append hx).append hdrop
      ·cases h
theorem cN.Pf {W:Nat→Prop}{μ:Mu}{w:World}{vs:List Value}{n:Nat}(h:vs.length=n):cN W μ w (List.replicate n .any) vs:=
  ⟨by simp[h],fun j c v a _=>by
    rw[List.getElem?_replicate] at a
    split at a
    ·cases a;exact .any
    ·cases a⟩
theorem yh {W:Nat→Prop}{μ:Mu}{w:World}{σ2:aA}{a:Act}{parts:Array (Nat×Operand)}(hev:∀x∈parts.toList.map (·.2),cD W μ w (σ2.eval x) (a.eval x)):
    ∀ (j:Nat) (i:Nat) (x:AV),(parts.toList.map fun p=>(p.1,σ2.eval p.2))[j]? =some (i,x)→∃v,(parts.toList.map fun p=>(p.1,a.eval p.2))[j]? =some (i,v)∧cD W μ w x v:=by
  intro j i x h
  rw[fI,Option.map_eq_some_iff] at h
  obtain⟨p,h1,h2⟩:=h
  simp at h2
  obtain⟨rfl,rfl⟩:=h2
  exact⟨a.eval p.2,by rw[fI,h1];rfl,hev _ (List.mem_map.2 ⟨p,bV h1,rfl⟩)⟩
theorem aG.buildSlice {t e:TypeId}{len wd bytes:Nat}{i:TypeInfo}{zv:Value}{parts:Array (Nat×Operand)}{rows:List AV}{tk:Nat}(ho:o.op=.buildSlice t len parts)(ht:AH P t e wd bytes i zv)
    (hsm:len*wd≤2 ^24) (hr:rows.length=len) (hw:bJ wd rows) (hf:mZ (fun i=>some (i*wd,wd)) (List.replicate (len*wd) .any) (parts.toList.map fun p=>(p.1,σ.eval p.2))=some (flat rows))
    (hfree:σ.mem tk=.free) (hd:∀d,o.dst=some d→d<N):aG P N o σ [tk] (.own tk 0 rows.length) [(tk,.live wd rows false)]:=
  .new hfree hw (fun σ2 he2 w0 W0 L μ a w hs=>by
    obtain⟨h1,h2,h3,h4,h5,h6⟩:=ht
    have hops:o.op.operands=(parts.toList.map (·.2)).toArray:=by rw[ho];rfl
    have hmap:(parts.toList.map fun p=>(p.1,σ.eval p.2))=parts.toList.map fun p=>(p.1,σ2.eval p.2):=List.map_congr_left fun p hp=>by
      rw[he2 p.2 (by rw[hops];simp;exact⟨p.1,by simpa using hp⟩)]
    rw[hmap] at hf
    let Z:Array Value:=if len*wd=0 then #[] else zv.cells
    obtain⟨C',f1,f2⟩:=sy (W:=Wr W0 μ σ2.mem) (μ:=μ) (w:=w) (C:=(Array.range (len*wd)).map (Z[· %Z.size]!)) (vs:=parts.toList.map fun p=>(p.1,a.eval p.2)) hf (.Pf (by simp)) (by simp) (yh fun x _=>hs.eval x)
    have hC':C'.size=rows.length*wd:=by have:=f2.1;rw[cQ hw] at this;simpa using this
    refine⟨C',e,.slice (some ⟨w.heap.size,0,none⟩) rows.length len,w.drawn,?_,by omega,fun q c hq=>?_,.inr ⟨len,rfl,rfl,by omega,by rw[hC',hr];exact Nat.le_refl _⟩⟩
    · have hsize:(sizeOf e).run P w=.ok wd w:=by simp[sizeOf,typeInfo,h2,h3]
      have hpm:(parts.map fun(i,x)=>(i,a.eval x)).toList=parts.toList.map fun p=>(p.1,a.eval p.2):=by simp
      simp only[execOp,ho,Instr.buildSlice,Sem.run_bind,run_underlying h1,Result.andThen_ok,hsize]
      rw[if_neg (by omega)]
      by_cases hz0:len*wd=0
      · have hZ:Z= #[]:=if_pos hz0
        rw[hZ] at f1
        simp only[hz0,Array.range_zero',Array.map_empty] at f1
        simp only[hz0,if_true,Array.range_zero',Array.map_empty,pure_bind,hpm,f1]
        simp[newRow,hr]
      · have hZ:Z=zv.cells:=if_neg hz0
        rw[hZ] at f1
        simp only[hz0,if_false,Sem.run_bind,zeroValue,typeInfo,run_program,Result.andThen_ok,h2,h5,Sem.run_pure,hpm,f1]
        simp[newRow,hr]
    · have hlt:=(bj hq).1
      have hv:C'.toList[q]? =some (C'.toList[q]'(by rw[f2.1];exact hlt)):=bA _
      exact⟨_,by rw[←Array.getElem?_toList];exact hv,f2.2 q c _ hq hv⟩) hd
def uT (P:Program)(t:TypeId)(zero:Array Value)(place:Nat→Option (Nat×Nat)):Prop:=
  ∀ parts w,(Instr.build t parts).run P w=match Instr.fill place zero parts.toList with
    |some cells=>.ok (.agg cells) w
    |none=>(Instr.build t parts).run P w
theorem aG.build {t:TypeId}{zero:Array Value}{place:Nat→Option (Nat×Nat)}{parts:Array (Nat×Operand)}{cs:List AV}(ho:o.op=.build t parts)(ht:uT P t zero place)
    (hf:mZ place (zero.toList.map .lit) (parts.toList.map fun p=>(p.1,σ.eval p.2))=some cs) (hd:∀d,o.dst=some d→d<N):aG P N o σ [] (.agg cs) []:=
  .val (fun σ2 he2 hrd w0 W0 L μ a w hs=>by
    have hops:o.op.operands=(parts.toList.map (·.2)).toArray:=by rw[ho];rfl
    have hmap:(parts.toList.map fun p=>(p.1,σ.eval p.2))=parts.toList.map fun p=>(p.1,σ2.eval p.2):=List.map_congr_left fun p hp=>by
      rw[he2 p.2 (by rw[hops];simp;exact⟨p.1,by simpa using hp⟩)]
    rw[hmap] at hf
    obtain⟨C',f1,f2⟩:=sy (W:=Wr W0 μ σ2.mem) (μ:=μ) (w:=w) (C:=zero) (vs:=parts.toList.map fun p=>(p.1,a.eval p.2)) hf (.lits _) (by simp) (yh fun x _=>hs.eval x)
    have hpm:(parts.map fun(i,x)=>(i,a.eval x)).toList=parts.toList.map fun p=>(p.1,a.eval p.2):=by simp
    have:=ht (parts.map fun(i,x)=>(i,a.eval x)) w
    rw[hpm,f1] at this
    refine⟨.agg C',by simp only[execOp,ho,Sem.run_bind,this,Result.andThen_ok,Sem.run_pure],?_⟩
    have:=cD.agg (W:=Wr W0 μ σ2.mem) (μ:=μ) (w:=w) f2.1 f2.2
    simpa using this) hd
end
def AA:Obj→Bool
  |.deferred _=>true
  |.loop _=>true
  |_=>false
structure eE (D:Nat) (w w':World):Prop where
  os:w'.os=w.os
  tape:w'.tape=w.tape
  output:w'.output=w.output
  size:w'.heap.size=w.heap.size
  blk:∀b,b≠D→w'.heap[b]? =w.heap[b]?
  book:∃o,w.heap[D]? =some o∧AA o=true
theorem eE.put {w:World}{D:Nat}{o o':Obj}(h:w.heap[D]? =some o)(hb:AA o=true):eE D w (w.putObj D o'):=
  ⟨rfl,rfl,rfl,World.putObj_size,fun _ hb=>World.putObj_heap_other hb,o,h,hb⟩
section
variable {D : Nat} {w w' : World}
theorem eE.cell (h:eE D w w'){b q:Nat}{v:Value}(hc:w.cell? ⟨b,q,none⟩=some v):w'.cell? ⟨b,q,none⟩=some v:=by
  by_cases e:b=D
  · obtain⟨o,h1,h2⟩:=h.book
    subst e
    unfold World.cell? at hc
    rw[h1] at hc
    cases o<;>simp[AA] at h2 hc
  ·rw[←hc];exact World.cell?_of_block (h.blk b e)
theorem eE.shape (h:eE D w w'){b:Nat}{e:TypeId}{n:Nat}(hc:w.shape? b=some (e,n)):w'.shape? b=some (e,n):=by
  by_cases he:b=D
  · obtain⟨o,h1,h2⟩:=h.book
    subst he
    unfold World.shape? at hc
    rw[h1] at hc
    cases o<;>simp[AA] at h2 hc
  ·rw[←hc];unfold World.shape?;rw[h.blk b he]
theorem eE.cells (h:eE D w w'){b:Nat}{c:Array Value}{e:TypeId}{fz:Nat×Nat}(hc:w.heap[b]? =some (.cells c e fz)):w'.heap[b]? =some (.cells c e fz):=by
  rw[h.blk b ?_];exact hc
  rintro rfl
  obtain⟨o,h1,h2⟩:=h.book
  rw[hc] at h1;cases h1;cases h2
theorem eE.map (h:eE D w w'){b:Nat}{es:Array MapEntry}{c:Nat}(hc:w.heap[b]? =some (.map es c)):w'.heap[b]? =some (.map es c):=by
  rw[h.blk b ?_];exact hc
  rintro rfl
  obtain⟨o,h1,h2⟩:=h.book
  rw[hc] at h1;cases h1;cases h2
theorem cD.tq (t:eE D w w'){W:Nat→Prop}{μ:Mu}{x:AV}{v:Value}(h:cD W μ w x v):cD W μ w' x v:=by
  induction h with
  |any=>exact .any
  |lit=>exact .lit
  |guess h1 h2=>exact .guess h1 h2
  |emp=>exact .emp
  |slNil=>exact .slNil
  |sl hW hb hn hc hwd hcell _ hnr ih=>exact .sl hW (by rw[t.size];exact hb) hn hc hwd (fun q c hq=>t.cell (hcell q c hq)) (fun q c hq=>ih q c hq) hnr
  |own hm hv hp hl hs ho=>exact .own hm hv hp hl (t.shape hs) ho
  |ownNil hm=>exact .ownNil hm
  |ptr hm hp=>exact .ptr hm hp
  |mapr hm hp=>exact .mapr hm hp
  |fmap hW hb h1 h2 h3 h4 h5 _ hn ih=>exact .fmap hW (by rw[t.size];exact hb) (t.map h1) h2 h3 h4 h5 (fun i key x hi=>ih i key x hi) hn
  |fptr hW hb hcell _ hnr ih=>exact .fptr hW (by rw[t.size];exact hb) (fun q c hq=>t.cell (hcell q c hq)) (fun q c hq=>ih q c hq) hnr
  |agg hl _ ih=>exact .agg hl (fun j c v h1 h2=>ih j c v h1 h2)
  |tup hl _ ih=>exact .tup hl (fun j c v h1 h2=>ih j c v h1 h2)
  |clo h1 h2 _ _ ih1 ih2=>exact .clo h1 h2 (fun j c v a b=>ih1 j c v a b) (fun j c v a b=>ih2 j c v a b)
theorem fM.tq (t:eE D w w'){W:Nat→Prop}{μ:Mu}{B:zN}{wd:Nat}{rows:List AV}{ro:Bool}(h:fM W μ w B wd rows ro):fM W μ w' B wd rows ro where
  width:=h.width
  wide:=h.wide
  blk hv hm:=let⟨C,e,fz,h1,h2⟩:=h.blk hv hm;⟨C,e,fz,t.cells h1,h2⟩
  virt:=h.virt
  cell hm q c hq:=let⟨v,h1,h2⟩:=h.cell hm q c hq;⟨v,t.cell h1,h2.tq t⟩
  vm:=h.vm
  map hm:=by
    obtain⟨es,clock,h1,h2,h3,h4,hb0,h5⟩:=h.map hm
    refine⟨es,clock,t.map h1,h2,h3,h4,hb0,fun i r hr=>?_⟩
    obtain⟨key,x,e,k1,k2,k3,k4⟩:=h5 i r hr
    exact⟨key,x,e,k1,k2,k3,fun y hy=>(k4 y hy).tq t⟩
end
section
variable {P : Program} {N : Nat} {w0 : World} {W0 : Nat → Prop} {L μ : Mu} {σ : aA} {a : Act} {w w' : World} {D : Nat}
theorem cz.tq (h:cz P N w0 W0 L μ σ a w)(t:eE D w w')(hD:w0.heap.size≤D){ds:List Deferred}(hds:Marks w0 ds w'):cz P N w0 W0 L μ σ {a with defers:=ds} w' where
  tabs:=h.tabs
  tsize:=h.tsize
  defers:=hds
  os:=t.os.trans h.os
  tape:=t.tape.trans h.tape
  output:=t.output.trans h.output
  hsize:=by rw[t.size];exact h.hsize
  shp b e n hb:=t.shape (h.shp b e n hb)
  keep b hb hl:=by rw[t.blk b (by omega)];exact h.keep b hb hl
  w0lt:=h.w0lt
  lentμ:=h.lentμ
  free:=h.free
  slots i:=(h.slots i).tq t
  objs s wd rows ro hs:=let⟨B,h1,h2⟩:=h.objs s wd rows ro hs;⟨B,h1,h2.tq t⟩
  inj:=h.inj
  out:=h.out
structure kX (w w':World):Prop where
  os:w'.os=w.os
  tape:w'.tape=w.tape
  output:w'.output=w.output
  size:w.heap.size≤w'.heap.size
  blk:∀b,b<w.heap.size→w'.heap[b]? =w.heap[b]?
theorem kX.shape (h:kX w w'){b:Nat}{e:TypeId}{n:Nat}(hc:w.shape? b=some (e,n)):w'.shape? b=some (e,n):=by
  rw[←hc];unfold World.shape?;rw[h.blk b ?_]
  unfold World.shape? at hc
  split at hc
  ·rename_i hh;exact(Array.getElem?_eq_some_iff.1 hh).1
  ·cases hc
theorem kX.refl:kX w w:=⟨rfl,rfl,rfl,Nat.le_refl _,fun _ _=>rfl⟩
theorem kX.trans {w'':World}(h:kX w w')(k:kX w' w''):kX w w'':=
  ⟨k.os.trans h.os,k.tape.trans h.tape,k.output.trans h.output,Nat.le_trans h.size k.size,fun b hb=>(k.blk b (jS hb h.size)).trans (h.blk b hb)⟩
theorem kX.alloc (o:Obj):kX w (w.alloc o):=
  ⟨rfl,rfl,rfl,by simp,fun b hb=>by
    show(w.heap.push o)[b]? =w.heap[b]?
    rw[Array.getElem?_push];simp[Nat.ne_of_lt hb]⟩
theorem kX.grow (h:kX w w')(W:Nat→Prop)(μ:Mu):Grow W μ w W μ w':=⟨h.size,fun b _ hb=>h.blk b hb,fun _ _ _ hs=>h.shape hs,fun _ _ hw=>hw,fun _ _ hm=>hm⟩
theorem cz.more (h:cz P N w0 W0 L μ σ a w)(m:kX w w'):cz P N w0 W0 L μ σ a w' where
  tabs:=h.tabs
  tsize:=h.tsize
  defers:=h.defers.keep fun D _ h2=>by rw[m.blk D (Array.getElem?_eq_some_iff.1 h2).1];exact h2
  os:=m.os.trans h.os
  tape:=m.tape.trans h.tape
  output:=m.output.trans h.output
  hsize:=Nat.le_trans h.hsize m.size
  shp b e n hb:=m.shape (h.shp b e n hb)
  keep b hb hl:=by rw[m.blk b (jS hb h.hsize)];exact h.keep b hb hl
  w0lt:=h.w0lt
  lentμ:=h.lentμ
  free:=h.free
  slots i:=(h.slots i).grow (m.grow _ _)
  objs s wd rows ro hs:=let⟨B,h1,h2⟩:=h.objs s wd rows ro hs;⟨B,h1,h2.grow (m.grow _ _) fun hv=>m.blk _ (h2.lt hv)⟩
  inj:=h.inj
  out:=h.out
theorem cz.leaves {fn:Func}{R:Ending→World→Prop}(hend:∀a' w',a'.tmps=a.tmps→a'.defers=[]→cz P N w0 W0 L μ σ a' w'→∃v,(results fn a.tmps).run P w'=.ok v w'∧R (.returned v) w'):
    ∀ (Ds:List Nat) (ds:List Deferred) (w:World),ds=Ds.map su→Ds.Nodup→(∀D∈Ds,w0.heap.size≤D∧w.heap[D]? =some (.deferred (some [])))→cz P N w0 W0 L μ σ {a with defers:=ds} w→LeavesInM Fence.wide 0 P fn a.tmps R ds .returning w
  | [],ds,w,e,_,_,hs=>by
    subst e
    exact hend {a with defers:=[]} w rfl rfl hs
  | D ::Ds,ds,w,e,hd,hall,hs=>by
    subst e
    obtain⟨hge,hob⟩:=hall D (by simp)
    have hn:=List.nodup_cons.1 hd
    have t:eE D w (w.putObj D (.deferred none)):=eE.put hob rfl
    have hall':∀E∈Ds,w0.heap.size≤E∧(w.putObj D (.deferred none)).heap[E]? =some (.deferred (some [])):=fun E hE=>
      ⟨(hall E (by simp[hE])).1,by rw[t.blk E (fun e=>hn.1 (e▸hE))];exact(hall E (by simp[hE])).2⟩
    refine⟨by simp,.inl ⟨D,_,rfl,run_takeDeferred hob,?_⟩⟩
    exact cz.leaves hend Ds _ _ rfl hn.2 hall' (hs.tq (ds:=Ds.map su) t hge ⟨fun h0=>absurd (hs.defers.1 h0) (by simp),Ds,rfl,hn.2,hall'⟩)
theorem cz.base {w0':World}(h:cz P N w0 W0 L μ σ a w)(hh:w0'.heap=w0.heap)(ho:w0'.os=w0.os)(ht:w0'.tape=w0.tape)(hu:w0'.output=w0.output)(hm:Marks w0' a.defers w):cz P N w0' W0 L μ σ a w where
  tabs:=⟨fun g hg=>let⟨h1,h2,h3⟩:=h.tabs.1 g hg;⟨h1,by rw[hh];exact h2,fun c hc=>by rw[←h3 c hc];simp only[World.cell?,hh]⟩,fun g hg=>let⟨h1,h2,v,h3,h4⟩:=h.tabs.2 g hg;⟨h1,by rw[hh];exact h2,v,h3,by rw[←h4];simp only[World.cell?,hh]⟩⟩
  tsize:=h.tsize
  defers:=hm
  os:=h.os.trans ho.symm
  tape:=h.tape.trans ht.symm
  output:=h.output.trans hu.symm
  hsize:=by rw[hh];exact h.hsize
  shp b e n hb:=h.shp b e n (by simp only[World.shape?,hh] at hb ⊢;exact hb)
  keep b hb hl:=by rw[hh] at hb ⊢;exact h.keep b hb hl
  w0lt b hb:=by rw[hh];exact h.w0lt b hb
  lentμ:=h.lentμ
  free:=h.free
  slots:=h.slots
  objs:=h.objs
  inj:=h.inj
  out t wd rows ro B h1 h2 h3:=let k:=h.out t wd rows ro B h1 h2 h3;⟨k.1,by rw[hh];exact k.2⟩
theorem mO {f:FuncId}{fn:Func}{c:Code}{vs:List Value}{R:Ending→World→Prop}{nL:Nat}{Q:Exit→aA→Prop}(hf:P.funcs[f]? =some fn)(hb:fn.body=some c)
    (h:fj P fn.ntmps nL c Q σ) (hL:∀t,nL≤t→L t=none) (hs:cz P fn.ntmps w W0 L μ σ {tmps:=vs.toArray++Array.replicate (fn.ntmps-vs.toArray.size) undef,defers:=[]} w)
    (he:∀e σ',Q e σ'→e=.normal∨e=.ret)
    (hend:∀e σ' μ' a' w',Q e σ'→cz P fn.ntmps w W0 L μ' σ' a' w'→a'.defers=[]→∃v,(results fn a'.tmps).run P w'=.ok v w'∧R (.returned v) w'):Calls P f vs.toArray w R:=by
  refine(callsIn_wide (n:=0)).1 (callsIn_of_wp_marks hf hb trivial ?_ rfl)
  have hs0:cz P fn.ntmps {w with drawn:=0} W0 L μ σ {tmps:=vs.toArray++Array.replicate (fn.ntmps-vs.toArray.size) undef,defers:=[]} w:=hs.base rfl rfl rfl rfl .nil
  refine wpIn_mono (h none (.inl rfl) _ W0 L μ _ w ⟨fun t ht _=>hL t ht,fun _=>rfl⟩ hs0) ?_
  rintro e a' w' ⟨μ',σ',hq,hs'⟩
  have key:LeavesInM Fence.wide 0 P fn a'.tmps R a'.defers .returning w':=by
    obtain⟨_,Ds,h1,h2,h3⟩:=hs'.defers
    exact cz.leaves (a:=a') (fun a2 w2 ht hd hs2=>by rw[←ht];exact hend e σ' μ' a2 w2 hq (hs2.base rfl rfl rfl rfl (by rw[hd];exact .nil)) hd) Ds _ w' h1 h2 h3 hs'
  rcases he e σ' hq with rfl|rfl<;>exact key
end
mutual
/-- Nothing of it lies in memory. -/
def kj:AV→Bool
  |.any=>true
  |.guess _ _=>true
  |.lit _=>true
  |.agg cs=>rK cs
  |.tup cs=>rK cs
  |_=>false
def rK:List AV→Bool
  |[]=>true
  |x::xs=>kj x&&rK xs
end
theorem uy {l:List AV}:rK l=true↔ ∀x∈l,kj x=true:=by
  induction l with
  |nil=>simp[rK]
  |cons x xs ih=>simp[rK,ih]
theorem cD.plain {W W':Nat→Prop}{μ μ':Mu}{w w':World}{x:AV}{v:Value}(h:cD W μ w x v)(hx:kj x=true):cD W' μ' w' x v:=by
  induction h with
  |any=>exact .any
  |guess h1 h2=>exact .guess h1 h2
  |lit=>exact .lit
  |agg a _ ih=>exact .agg a (fun j c v h1 h2=>ih j c v h1 h2 (uy.1 (by simpa[kj] using hx) c (bV h1)))
  |tup a _ ih=>exact .tup a (fun j c v h1 h2=>ih j c v h1 h2 (uy.1 (by simpa[kj] using hx) c (bV h1)))
  |_=>simp[kj] at hx
def ak (P:Program)(f:FuncId):Prop:=∀args w,(callFunc f args).run P w=.ok (.enter f args) w
inductive gj (σ:aA) (o:Oper) (f:FuncId):List AV→Prop
  |func {c:Operand} {args:Array Operand} {ts:Array TypeId}:o.op=.call {callee:=.value c,args:=args,argTypes:=ts}→σ.eval c=.lit (.func (.func f) #[] #[])→gj σ o f (args.toList.map σ.eval)
  |clo {c:Operand} {args:Array Operand} {ts:Array TypeId} {first cap:List AV}:o.op=.call {callee:=.value c,args:=args,argTypes:=ts}→σ.eval c=.clo (.func f) first cap→gj σ o f (first++args.toList.map σ.eval++cap)
section
variable {P : Program} {N : Nat} {σ : aA} {o : Oper}
theorem gj.run {f:FuncId}{ys:List AV}(h:gj σ o f ys)(hc:ak P f){σ2:aA}(he:∀x∈o.op.operands,σ2.eval x=σ.eval x){w0:World}{W0:Nat→Prop}{L μ:Mu}{a:Act}{w:World}
    (hs:cz P N w0 W0 L μ σ2 a w):∃vs:List Value,cN (Wr W0 μ σ2.mem) μ w ys vs∧(execOp a.eval o).run P w=.ok (.enter f vs.toArray) w:=by
  have hargs:∀ (c:Operand) (args:Array Operand) (ts:Array TypeId),o.op=.call {callee:=.value c,args:=args,argTypes:=ts}→cN (Wr W0 μ σ2.mem) μ w (args.toList.map σ.eval) (args.toList.map a.eval):=by
    intro c args ts ho
    refine⟨by simp,fun j x v h1 h2=>?_⟩
    simp only[fI,Option.map_eq_some_iff] at h1 h2
    obtain⟨p,h3,rfl⟩:=h1
    obtain⟨q,h4,rfl⟩:=h2
    rw[h3] at h4;cases h4
    rw[←he p (by simp[ho,Op.operands,Call.operands];exact .inr (by simpa using bV h3))]
    exact hs.eval p
  cases h with
  | @func c args ts ho hcv=>
    refine⟨args.toList.map a.eval,hargs c args ts ho,?_⟩
    have h1:=hs.eval c
    rw[he c (by simp[ho,Op.operands,Call.operands]),hcv] at h1
    have:(args.toList.map a.eval).toArray=args.map a.eval:=by rw[←Array.toList_map]
    rw[this]
    simp[execOp,ho,resolve,h1.val,Deferred.ofValue,invoke,hc _ w]
  | @clo c args ts first cap ho hcv=>
    have h1:=hs.eval c
    rw[he c (by simp[ho,Op.operands,Call.operands]),hcv] at h1
    generalize hv:a.eval c=v at h1
    cases h1 with
    | @clo _ _ _ va vb l1 l2 r1 r2=>
      refine⟨va++args.toList.map a.eval++vb,cN.append (cN.append ⟨l1,r1⟩ (hargs c args ts ho)) ⟨l2,r2⟩,?_⟩
      have:(va++args.toList.map a.eval++vb).toArray=va.toArray++args.map a.eval++vb.toArray:=by
        apply Array.ext';simp
      rw[this]
      simp[execOp,ho,resolve,hv,Deferred.ofValue,invoke,hc _ w]
def uD (μ:Mu)(T:List Nat)(b:Nat):Prop:=∃t∈T,∃B,μ t=some B∧B.b=b∧B.virt=false
theorem mo {w0:World}{W0:Nat→Prop}{L μ:Mu}{a:Act}{w:World}(hs:cz P N w0 W0 L μ σ a w)(T:List Nat):
    cz P 0 w (fun b=>Wr W0 μ σ.mem b∧¬uD μ T b) (fun _=>none) (fun _=>none) (bare []) iA w where
  tabs:=hs.qO (fun b h=>by obtain⟨_,_,h,_⟩:=h;cases h)
  tsize:=rfl
  defers:=.nil
  os:=rfl
  tape:=rfl
  output:=rfl
  hsize:=Nat.le_refl _
  shp _ _ _ h:=h
  keep _ _ _:=rfl
  w0lt b hb:=by
    rcases hb.1 with h|⟨t,B,wd,rows,h1,h2,rfl,h4⟩
    ·exact jS (hs.w0lt b h) hs.hsize
    ·exact hs.dY h1 h2 h4
  lentμ t B _ h:=by cases h
  free t:=by simp[bare,aH]
  slots i:=.any
  objs t wd rows ro h:=by simp[bare,aH] at h
  inj t t' wd rows wd' rows' ro' B B' _ h:=by simp[bare,aH] at h
  out t wd rows ro B h:=by simp[bare,aH] at h
theorem Cv.congr {m m2:Nat→MS}{ρ:Nat→Nat}{D F:Nat→Prop}(hm:∀t,F t→m2 t=m t){x y:AV}(h:Cv m ρ D F x y):Cv m2 ρ D F x y:=by
  induction h with
  |any=>exact .any
  |same h=>exact .same h
  |own h=>exact .own h
  |ptr h=>exact .ptr h
  |mapr h=>exact .mapr h
  |fmap a b c d e f ih=>exact .fmap a (by rw[hm _ a];exact b) c d (fun i key key' x' x h1 h2=>ih i key key' x' x h1 h2) f
  |nil=>exact .nil
  |nilE=>exact .nilE
  |empS=>exact .empS
  |frz a b c d e _ g ih=>exact .frz a (by rw[hm _ a];exact b) c d e (fun q c d h1 h2=>ih q c d h1 h2) g
  |frzp a b c d _ g ih=>exact .frzp a (by rw[hm _ a];exact b) c d (fun q c d h1 h2=>ih q c d h1 h2) g
  |agg a _ ih=>exact .agg a (fun q c d h1 h2=>ih q c d h1 h2)
  |tup a _ ih=>exact .tup a (fun q c d h1 h2=>ih q c d h1 h2)
  |clo a b _ _ ih1 ih2=>exact .clo a b (fun q c d h1 h2=>ih1 q c d h1 h2) (fun q c d h1 h2=>ih2 q c d h1 h2)
theorem kG {w0:World}{W0:Nat→Prop}{L μ:Mu}{a:Act}{w:World}(hs:cz P N w0 W0 L μ σ a w){T:List Nat}{args ys:List AV}{vs:List Value}
    (hargs:ig σ.mem id (fun _=>False) (· ∈T) args ys) (hr:cN (Wr W0 μ σ.mem) μ w ys vs):
    cN (Wr (fun b=>Wr W0 μ σ.mem b∧¬uD μ T b) (fun _=>none) (aH [])) (fun _=>none) w args vs:=by
  refine⟨by rw[hr.1,hargs.1],fun j c v h1 h2=>?_⟩
  have hj:=(bj h1).1
  have hy:ys[j]? =some (ys[j]'(by rw[←hargs.1];exact hj)):=bA _
  refine(hargs.2 j c _ h1 hy).rep hs.objs (fun b _ hb=>?_) (fun t h=>h.elim) (fun s B hF hB hv hb=>?_) (hr.2 j _ v hy h2)
  · rcases hb with h|⟨t,B,wd,rows,h1,_⟩
    ·exact h.1
    ·simp[aH] at h1
  · rcases hb with h|⟨t,B,wd,rows,h1,_⟩
    ·exact h.2 ⟨s,hF,B,hB,rfl,hv⟩
    ·simp[aH] at h1
theorem aG.Dp {f:FuncId}{ys args:List AV}{res:AV}(T:List Nat)(hto:gj σ o f ys)(hc:ak P f)(hargs:ig σ.mem id (fun _=>False) (· ∈T) args ys)(hf:aj P f [] args [] res)
    (hp:kj res=true) (hd:∀d,o.dst=some d→d<N):aG P N o σ T res []:=by
  intro σ2 he2 hrd w0 W0 L μ a w K Q hs hK
  obtain⟨vs,h1,h2⟩:=hto.run hc he2 hs
  have hargs2:ig σ2.mem id (fun _=>False) (· ∈T) args ys:=⟨hargs.1,fun q c d a b=>(hargs.2 q c d a b).congr (fun t ht=>hrd t ht)⟩
  have hcall:=hf w _ (fun _=>none) vs (fun _ _=>rfl) (mo hs T) (kG hs hargs2 h1)
  unfold Oper.wp
  rw[h2]
  simp only[Oper.upon]
  refine Calls.mono hcall ?_
  rintro e w' ⟨v,μ',rfl,hs',hv⟩
  refine hK μ _ _ ?_
  have j6:∀b,b<w.heap.size→w'.heap[b]? =w.heap[b]? :=fun b hb=>hs'.keep b hb (by rintro⟨t,B,h,_⟩;cases h)
  have shape:∀b e n,w.shape? b=some (e,n)→w'.shape? b=some (e,n):=fun b e n h=>by
    have hb:b<w.heap.size:=by
      rcases Nat.lt_or_ge b w.heap.size with h'|h'
      ·exact h'
      ·simp[World.shape?,Array.getElem?_eq_none h'] at h
    simpa[World.shape?,j6 b hb] using h
  have old:∀t wd rows ro B,σ2.mem t=.live wd rows ro→μ t=some B→B.virt=false→w.heap.size≤B.b∨∃t1 wd1 rows1 ro1 B1,σ2.mem t1=.live wd1 rows1 ro1∧μ t1=some B1∧B1.b=B.b∧B1.virt=false∧(ro=false→ro1=false):=
    fun t wd rows ro B h1 h2 h3=>.inr ⟨t,wd,rows,ro,B,h1,h2,rfl,h3,id⟩
  have g:=hs.grow (m':=σ2.mem) (μ':=μ) hs'.hsize (fun b hb _=>j6 b hb) shape (fun _ _ h=>h) (fD old)
  have:=hs.step (m':=σ2.mem) (μ':=μ) hs'.hsize hs'.os hs'.tape hs'.output (fun b hb _=>j6 b hb) shape (fun _ _ h=>h) old hs.free
    (fun t wd rows ro h=>let⟨B,h1,h2⟩:=hs.objs t wd rows ro h;⟨B,h1,h2.grow g fun hv=>j6 _ (hs.dY h h1 hv)⟩) hs.inj
  exact this.put (hv.plain hp) hd
def lU:MS→MS
  |.live wd rows _=>.live wd rows true
  |s=>s
theorem Ef {m m0:Nat→MS}{T:List Nat}{t:Nat}:br m (T.map fun t=>(t,lU (m0 t))) t=if t∈T then lU (m0 t) else m t:=by
  induction T with
  |nil=>simp[br]
  |cons x r ih=>simp only[List.map_cons,br,ih,dP];by_cases h:t=x<;>simp[h]
theorem wX {m:Nat→MS}{base:Nat}:∀ {news:List MS} {t:Nat},br m (news.zipIdx.map fun p=>(base+p.2,p.1)) t=if base≤t then(news[t-base]?).getD (m t) else m t:=by
  have key:∀ (news:List MS) (n:Nat) (t:Nat),br m ((news.zipIdx n).map fun p=>(base+p.2,p.1)) t=if base+n≤t then(news[t- (base+n)]?).getD (m t) else m t:=by
    intro news
    induction news with
    |nil=>intro n t;simp[br]
    | cons s r ih=>
      intro n t
      simp only[List.zipIdx_cons,List.map_cons,br,ih]
      by_cases h1:t=base+n
      ·subst h1;simp
      · rw[if_neg h1]
        by_cases h2:base+ (n+1)≤t
        ·rw[if_pos h2,if_pos (show base+n≤t by omega),show t- (base+n)=(t- (base+ (n+1)))+1 from by omega,List.getElem?_cons_succ]
        ·rw[if_neg h2,if_neg (show ¬base+n≤t by omega)]
  intro news t
  have:=key news 0 t
  simpa using this
theorem aG.G1 {f:FuncId}{ys args:List AV}{outs news:List MS}{res x:AV}{base:Nat}(T:List Nat)(hto:gj σ o f ys)(hc:ak P f)(hargs:ig σ.mem id (fun _=>False) (· ∈T) args ys)
    (hT:∀t∈T,∃wd rows ro,σ.mem t=.live wd rows ro) (hf:aj P f [] args outs res) (hfree:∀k,k<outs.length→σ.mem (base+k)=.free) (hlen:news.length=outs.length)
    (hnews:∀ (k:Nat) (s:MS),news[k]? =some s→∃wd rows rows0,s=.live wd rows false∧outs[k]? =some (.live wd rows0 false)∧bJ wd rows∧ig (aH outs) (· -base) (fun t=>base≤t∧t-base<outs.length) (fun _=>False) rows rows0)
    (hx:Cv (aH outs) (· -base) (fun t=>base≤t∧t-base<outs.length) (fun _=>False) x res) (hd:∀d,o.dst=some d→d<N):
    aG P N o σ (T++ (List.range outs.length).map (base+ ·)) x ((news.zipIdx.map fun p=>(base+p.2,p.1))++T.map fun t=>(t,lU (σ.mem t))):=by
  intro σ2 he2 hrd w0 W0 L μ a w K Q hs hK
  obtain⟨vs,h1,h2⟩:=hto.run hc he2 hs
  have hrdT:∀t∈T,σ2.mem t=σ.mem t:=fun t ht=>hrd t (by simp[ht])
  have hfree2:∀k,k<outs.length→σ2.mem (base+k)=.free:=fun k hk=>by
    rw[hrd (base+k) (by simp[hk])];exact hfree k hk
  have hargs2:ig σ2.mem id (fun _=>False) (· ∈T) args ys:=⟨hargs.1,fun q c d a b=>(hargs.2 q c d a b).congr hrdT⟩
  have hcall:=hf w _ (fun _=>none) vs (fun _ _=>rfl) (mo hs T) (kG hs hargs2 h1)
  unfold Oper.wp
  rw[h2]
  simp only[Oper.upon]
  refine Calls.mono hcall ?_
  rintro e w' ⟨v,μ',rfl,hs',hv⟩
  -- the state behind the call
  have hro:(T.map fun t=>(t,lU (σ.mem t)))=T.map fun t=>(t,lU (σ2.mem t)):=List.map_congr_left fun t ht=>by rw[hrdT t ht]
  rw[hro] at hK
  generalize hm2:br σ2.mem ((news.zipIdx.map fun p=>(base+p.2,p.1))++T.map fun t=>(t,lU (σ2.mem t)))=m2 at*
  have isNew:∀t,(base≤t∧t-base<outs.length)∨¬ (base≤t∧t-base<outs.length):=fun t=>Classical.em _
  have m2new:∀t,base≤t∧t-base<outs.length→∃wd rows rows0,m2 t=.live wd rows false∧aH outs (t-base)=.live wd rows0 false∧bJ wd rows∧ig (aH outs) (· -base) (fun t=>base≤t∧t-base<outs.length) (fun _=>False) rows rows0:=by
    intro t ⟨ht1,ht2⟩
    have hk:news[t-base]? =some (news[t-base]'(by rw[hlen];exact ht2)):=bA _
    obtain⟨wd,rows,rows0,e1,e2,e3,e4⟩:=hnews _ _ hk
    refine⟨wd,rows,rows0,?_,by simp[aH,e2],e3,e4⟩
    rw[←hm2,kF,wX,if_pos ht1,hk,Option.getD_some,e1]
  have m2old:∀t,¬ (base≤t∧t-base<outs.length)→m2 t=if t∈T then lU (σ2.mem t) else σ2.mem t:=by
    intro t ht
    rw[←hm2,kF,wX,Ef]
    by_cases hb:base≤t
    ·rw[if_pos hb,oF (by rw[hlen];exact Nat.le_of_not_lt fun h=>ht ⟨hb,h⟩)];rfl
    ·rw[if_neg hb]
  have freeNew:∀t,base≤t∧t-base<outs.length→σ2.mem t=.free:=fun t ht=>by
    have:=hfree2 (t-base) ht.2
    rwa [show base+ (t-base)=t from by omega] at this
  classical
  let μ2:Mu:=fun t=>if base≤t∧t-base<outs.length then μ' (t-base) else μ t
  have μnew:∀t,base≤t∧t-base<outs.length→μ2 t=μ' (t-base):=fun t h=>if_pos h
  have μold:∀t,¬ (base≤t∧t-base<outs.length)→μ2 t=μ t:=fun t h=>if_neg h
  have noLent:∀b,¬th (fun _=>none) b:=by rintro b ⟨t,B,h,_⟩;cases h
  have j6:∀b,b<w.heap.size→w'.heap[b]? =w.heap[b]? :=fun b hb=>hs'.keep b hb (noLent b)
  have shape:∀b e n,w.shape? b=some (e,n)→w'.shape? b=some (e,n):=fun b e n h=>by
    have hb:b<w.heap.size:=by
      rcases Nat.lt_or_ge b w.heap.size with h'|h'
      ·exact h'
      ·simp[World.shape?,Array.getElem?_eq_none h'] at h
    simpa[World.shape?,j6 b hb] using h
  have mu:∀t B,μ t=some B→μ2 t=some B:=fun t B h=>by
    rcases isNew t with hn|hn
    · have:=(hs.free t).1 (freeNew t hn)
      rw[this] at h;cases h
    ·rw[μold t hn];exact h
  have oldlive:∀t wd rows ro,¬ (base≤t∧t-base<outs.length)→m2 t=.live wd rows ro→∃ro',σ2.mem t=.live wd rows ro'∧(ro=false→ro'=false∧t∉T):=by
    intro t wd rows ro hn h
    rw[m2old t hn] at h
    split at h
    · rename_i hT'
      cases hmt:σ2.mem t with
      | live wd' rows' ro'=>
        rw[hmt] at h;simp only[lU] at h;cases h
        exact⟨ro',rfl,fun h=>by cases h⟩
      |free=>rw[hmt] at h;cases h
      |dead=>rw[hmt] at h;cases h
    ·rename_i hT';exact⟨ro,h,fun h'=>⟨h',hT'⟩⟩
  have newge:∀t B wd rows,aH outs (t-base)=.live wd rows false→μ' (t-base)=some B→B.virt=false→w.heap.size≤B.b:=by
    intro t B wd rows h3 h4 h5
    rcases(hs'.out _ _ _ _ B h3 h4 h5).2 rfl with h|h
    ·exact h
    ·exact absurd h (noLent _)
  have old:∀t wd rows ro B,m2 t=.live wd rows ro→μ2 t=some B→B.virt=false→w.heap.size≤B.b∨∃t1 wd1 rows1 ro1 B1,σ2.mem t1=.live wd1 rows1 ro1∧μ t1=some B1∧B1.b=B.b∧B1.virt=false∧(ro=false→ro1=false):=by
    intro t wd rows ro B h3 h4 h5
    rcases isNew t with hn|hn
    · obtain⟨wd',rows',rows0,e1,e2,_⟩:=m2new t hn
      rw[μnew t hn] at h4
      exact .inl (newge t B _ _ e2 h4 h5)
    · obtain⟨ro',e1,e2⟩:=oldlive t wd rows ro hn h3
      rw[μold t hn] at h4
      exact .inr ⟨t,wd,rows,ro',B,e1,h4,rfl,h5,fun h=>(e2 h).1⟩
  have g:=hs.grow (m':=m2) (μ':=μ2) hs'.hsize (fun b hb _=>j6 b hb) shape mu (fD old)
  -- what the callee says, in this frame's words
  have hW:∀b,b<w'.heap.size→Wr W0 μ2 m2 b→Wr (fun b=>Wr W0 μ σ2.mem b∧¬uD μ T b) μ' (aH outs) b:=by
    rintro b hb (h|⟨t,B,wd,rows,h3,h4,rfl,h5⟩)
    · refine .inl ⟨.inl h,?_⟩
      rintro⟨s,hs1,B,hB,rfl,hv'⟩
      obtain⟨wd,rows,ro,hl⟩:=hT s hs1
      exact(hs.out s wd rows ro B (by rw[hrdT s hs1];exact hl) hB hv').1 h
    · rcases isNew t with hn|hn
      · obtain⟨wd',rows',rows0,e1,e2,_⟩:=m2new t hn
        rw[μnew t hn] at h4
        exact .inr ⟨t-base,B,wd',rows0,e2,h4,rfl,h5⟩
      · obtain⟨ro',e1,e2⟩:=oldlive t wd rows false hn h3
        obtain⟨rfl,hnT⟩:=e2 rfl
        rw[μold t hn] at h4
        refine .inl ⟨.inr ⟨t,B,wd,rows,e1,h4,rfl,h5⟩,?_⟩
        rintro⟨s,hs1,B',hB,hbe,hv'⟩
        obtain⟨wd',rows',ro,hl⟩:=hT s hs1
        exact hs.inj t s wd rows wd' rows' ro B B' (fun e=>hnT (e▸hs1)) e1 (by rw[hrdT s hs1];exact hl) h4 hB h5 hv' hbe.symm
  have hrep:∀x y v,Cv (aH outs) (· -base) (fun t=>base≤t∧t-base<outs.length) (fun _=>False) x y→cD (Wr (fun b=>Wr W0 μ σ2.mem b∧¬uD μ T b) μ' (aH outs)) μ' w' y v→cD (Wr W0 μ2 m2) μ2 w' x v:=
    fun x y v hcv hy=>hcv.rep hs'.objs hW (fun t ht=>μnew t ht) (fun s B h=>h.elim) hy
  have hstep:=hs.step (m':=m2) (μ':=μ2) hs'.hsize hs'.os hs'.tape hs'.output (fun b hb _=>j6 b hb) shape mu old (fun t=>by
      rcases isNew t with hn|hn
      · obtain⟨wd,rows,rows0,e1,e2,_⟩:=m2new t hn
        rw[μnew t hn,e1]
        have:=(hs'.free (t-base))
        simp only[bare,e2] at this
        constructor
        ·intro h;cases h
        ·intro h;exact absurd (this.2 h) (by intro h;cases h)
      · rw[μold t hn,m2old t hn,←hs.free t]
        split
        ·cases hmt:σ2.mem t<;>simp[lU]
        ·rfl)
    (fun t wd rows ro h3=>by
      rcases isNew t with hn|hn
      · obtain⟨wd',rows',rows0,e1,e2,e3,e4⟩:=m2new t hn
        rw[e1] at h3;cases h3
        obtain⟨B,hB,hobj⟩:=hs'.objs (t-base) _ _ _ e2
        exact⟨B,by rw[μnew t hn];exact hB,hobj.cv e4 e3 (fun _=>rfl) hrep⟩
      · obtain⟨ro',e1,e2⟩:=oldlive t wd rows ro hn h3
        obtain⟨B,hB,hobj⟩:=hs.objs t wd rows ro' e1
        refine⟨B,by rw[μold t hn];exact hB,?_⟩
        have:=hobj.grow g fun hv'=>j6 _ (hs.dY e1 hB hv')
        cases ro with
        |true=>exact this.ro
        |false=>rw[(e2 rfl).1] at this;exact this)
    (by
      intro t t' wd rows wd' rows' ro' B B' hne h3 h4 h5 h6 v1 v2
      rcases isNew t with hn|hn<;>rcases isNew t' with hn'|hn'
      · obtain⟨_,_,_,e1,e2,_⟩:=m2new t hn
        obtain⟨_,_,_,f1,f2,_⟩:=m2new t' hn'
        rw[μnew t hn] at h5;rw[μnew t' hn'] at h6
        exact hs'.inj (t-base) (t'-base) _ _ _ _ _ B B' (fun e=>hne (by have:=hn.1;have:=hn'.1;omega)) e2 f2 h5 h6 v1 v2
      · obtain⟨_,_,_,e1,e2,_⟩:=m2new t hn
        obtain⟨_,f1,_⟩:=oldlive t' _ _ _ hn' h4
        rw[μnew t hn] at h5;rw[μold t' hn'] at h6
        have:=newge t B _ _ e2 h5 v1
        have:=hs.dY f1 h6 v2
        omega
      · obtain⟨_,e1,e2⟩:=oldlive t _ _ _ hn h3
        obtain⟨_,_,_,f1,f2,_⟩:=m2new t' hn'
        rw[μold t hn] at h5;rw[μnew t' hn'] at h6
        have:=newge t' B' _ _ f2 h6 v2
        have:=hs.dY e1 h5 v1
        omega
      · obtain⟨_,e1,e2⟩:=oldlive t _ _ _ hn h3
        obtain⟨_,f1,_⟩:=oldlive t' _ _ _ hn' h4
        rw[μold t hn] at h5;rw[μold t' hn'] at h6
        rw[(e2 rfl).1] at e1
        exact hs.inj t t' _ _ _ _ _ B B' hne e1 f1 h5 h6 v1 v2)
  refine hK μ2 _ _ ?_
  have:=hstep.put (hrep x res v hx hv) hd
  unfold aA.yI
  rw[hm2]
  exact this
theorem fj.ghost {nL:Nat}{c:Code}{Q:Exit→aA→Prop}{d t:Nat}(wd:Nat)(hd:σ.slots d=.lit (.slice none 0 0)∨σ.slots d=.emp)(ht:σ.mem t=.free)(h:fj P N nL c Q (σ.yI (some d) (.own t 0 0) [(t,.live wd [] false)])):fj P N nL c Q σ:=by
  intro rd hp w0 W0 L μ a w hL hs
  have h1:=hs.ou (t:=t) (wd:=wd) ht
  have hv:∃ad,a.tmps.getD d undef=.slice ad 0 0:=by
    have:=hs.slots d
    generalize a.tmps.getD d undef=v at this
    rcases hd with hd|hd<;>(rw[hd] at this;cases this;exact⟨_,rfl⟩)
  obtain⟨ad,hv⟩:=hv
  refine h rd hp w0 W0 L _ a w hL {h1 with slots:=fun i=>?_}
  simp only[aA.yI,dA]
  by_cases hi:i=d
  · subst hi
    rw[if_pos rfl,hv]
    exact .ownNil (B:=⟨0,0,wd,true,false⟩) (by simp[bz])
  ·rw[if_neg hi];exact h1.slots i
def qT (P:Program)(σ:aA):ResultVar→AV→Prop
  |.tmp t,x=>σ.slots t=x
  |.cell a t,x=> ∃tk i k wd rows ro r,σ.slots a=.ptr tk i k∧σ.mem tk=.live wd rows ro∧rows[i]? =some r∧oK P t r k x
def s7:List AV→AV
  |[x]=>x
  |xs=>.tup xs
def qP (P:Program)(nL:Nat)(rvs:List ResultVar)(σ:aA)(outs:List MS)(res:AV):Prop:=
  ∃ xs:List AV,xs.length=rvs.length∧(∀ (j:Nat) (rv:ResultVar) (x:AV),rvs[j]? =some rv→xs[j]? =some x→qT P σ rv x)∧
    ∃ρ F,lT nL ρ F (bare outs) σ∧Cv σ.mem ρ (fun t=>(bare outs).mem t≠ .free) F res (s7 xs)
theorem qT.run {w0:World}{W0:Nat→Prop}{L μ:Mu}{a:Act}{w:World}(hs:cz P N w0 W0 L μ σ a w){rv:ResultVar}{x:AV}(h:qT P σ rv x):
    ∃v,(match rv with|.tmp t=>(pure (a.tmps.getD t undef):Sem Value)|.cell c t=>do loadVar t (←asAddr (a.tmps.getD c undef))).run P w=.ok v w∧cD (Wr W0 μ σ.mem) μ w x v:=by
  cases rv with
  |tmp t=>simp only[qT] at h;exact⟨_,rfl,by rw[←h];exact hs.slots t⟩
  | cell c t=>
    obtain⟨tk,i,k,wd,rows,ro,r,h1,h2,h3,h4⟩:=h
    have hc:=hs.slots c
    rw[h1] at hc
    obtain⟨B,hB,hobj⟩:=hs.objs tk wd rows ro h2
    generalize hv:a.tmps.getD c undef=v at hc
    cases hc with
    | ptr a1 ap=>
      rw[hB] at a1;cases a1
      obtain⟨v,k1,k2⟩:=h4.run (b:=B.b) (q0:=B.o+i*B.wd) (w:=w) (fun q c hq=>by
        obtain⟨v,v1,v2⟩:=hobj.cell ap _ c (eN hobj.wide h3 hq)
        exact⟨v,by rw[hobj.width,Nat.add_assoc];exact v1,v2⟩)
      refine⟨v,?_,k2⟩
      rw[Nat.add_assoc] at k1
      simp only[Sem.run_bind,hv,asAddr,Sem.run_pure,Result.andThen_ok,k1]
theorem nr {w0:World}{W0:Nat→Prop}{L μ:Mu}{a:Act}{w:World}(hs:cz P N w0 W0 L μ σ a w){fn:Func}{xs:List AV}(hl:xs.length=fn.results.toList.length)
    (h:∀ (j:Nat) (rv:ResultVar) (x:AV),fn.results.toList[j]? =some rv→xs[j]? =some x→qT P σ rv x):∃v,(results fn a.tmps).run P w=.ok v w∧cD (Wr W0 μ σ.mem) μ w (s7 xs) v:=by
  have key:∀ (rvs:List ResultVar) (xs:List AV),xs.length=rvs.length→(∀ (j:Nat) (rv:ResultVar) (x:AV),rvs[j]? =some rv→xs[j]? =some x→qT P σ rv x)→
      ∃vs,(rvs.mapM (m:=Sem) fun|.tmp t=>pure (a.tmps.getD t undef)|.cell c t=>do loadVar t (←asAddr (a.tmps.getD c undef))).run P w=.ok vs w∧cN (Wr W0 μ σ.mem) μ w xs vs:=by
    intro rvs
    induction rvs with
    | nil=>
      intro xs hl _
      have:xs=[]:=List.eq_nil_of_length_eq_zero hl
      subst this
      exact⟨[],rfl,.nil⟩
    | cons rv rvs ih=>
      intro xs hl h
      cases xs with
      |nil=>simp at hl
      | cons x xs=>
        obtain⟨v,h1,h2⟩:=qT.run hs (h 0 rv x rfl rfl)
        obtain⟨vs,h3,h4⟩:=ih xs (by simpa using hl) (fun j rv x a b=>h (j+1) rv x (by simpa using a) (by simpa using b))
        refine⟨v::vs,?_,.cons h2 h4⟩
        simp only[List.mapM_cons,Sem.run_bind,h1,Result.andThen_ok,h3,Sem.run_pure]
  obtain⟨vs,h1,h2⟩:=key fn.results.toList xs hl h
  have hm:(fn.results.mapM (m:=Sem) fun|.tmp t=>pure (a.tmps.getD t undef)|.cell c t=>do loadVar t (←asAddr (a.tmps.getD c undef))).run P w=.ok vs.toArray w:=by
    have:=Array.mapM_eq_mapM_toList (m:=Sem) (f:=fun|ResultVar.tmp t=>pure (a.tmps.getD t undef)|.cell c t=>do loadVar t (←asAddr (a.tmps.getD c undef))) (xs:=fn.results)
    rw[this]
    simp only[Sem.run_map,h1,Result.andThen_ok]
  have hres:results fn a.tmps=(do
      let vs ←fn.results.mapM (m:=Sem) (fun|.tmp t=>pure (a.tmps.getD t undef)|.cell c t=>(do loadVar t (←asAddr (a.tmps.getD c undef))))
      pure (if h:vs.size=1 then vs[0] else .tuple vs)):=rfl
  rw[hres]
  simp only[Sem.run_bind,hm,Result.andThen_ok,Sem.run_pure]
  refine⟨_,rfl,?_⟩
  cases vs with
  | nil=>
    have:xs=[]:=List.eq_nil_of_length_eq_zero (by rw[←h2.1];rfl)
    subst this
    exact .tup rfl h2.2
  | cons v vs=>
    cases vs with
    | nil=>
      cases xs with
      |nil=>simp[cN] at h2
      | cons x xs=>
        have:xs=[]:=List.eq_nil_of_length_eq_zero (by have:=h2.1;simp only[List.length_cons,List.length_nil] at this;omega)
        subst this
        simpa[s7] using h2.2 0 x v rfl rfl
    | cons v' vs=>
      cases xs with
      |nil=>simp[cN] at h2
      | cons x xs=>
        cases xs with
        |nil=>simp[cN] at h2
        |cons x' xs=>simpa[s7] using cD.tup h2.1 h2.2
end
inductive TI where
  |sc (z:Value)
  |bl
  |st (n:Nat) (fs:List (Nat×TypeId)) (z:Array Value) (szs:List Nat)
  |ar (n len:Nat) (e:TypeId) (wd:Nat) (z:Array Value)
  |sl (e:TypeId) (wd bytes:Nat)
  |str
  deriving Inhabited
def TI.ok (P:Program)(t:TypeId):TI→Prop
  |.sc z=>jB P t∧eW P t 1∧jo P t z
  |.bl=>jB P t∧eW P t 1∧jo P t (.bool false)∧P.underlying t=some .bool
  |.st n fs z szs=>Fy P t∧eW P t n∧jo P t (.agg z)∧(∀ (f off:Nat) (ft:TypeId),fs[f]? =some (off,ft)→qJ P t f off∧tK P t f off ft)∧
      uT P t z (fun i=>match fs[i]?,szs[i]? with|some (off,_),some sz=>some (off,sz)|_,_=>none)
  |.ar n len e wd z=>Fy P t∧eW P t n∧jo P t (.agg z)∧CU P t len e∧eW P e wd
  |.sl e wd bytes=>jB P t∧eW P t 1∧jo P t (.slice none 0 0)∧eW P e wd∧∃i z,AH P t e wd bytes i z
  |.str=>jB P t∧eW P t 1∧jo P t (.string ByteArray.empty)∧P.underlying t=some .string
abbrev ct:=List (Nat×TI)
def dz:ct→Nat→Option TI
  |[],_=>none
  |(d,x)::r,i=>bif i==d then some x else dz r i
def ct.Good (P:Program)(Γ:ct):Prop:=∀p∈Γ,TI.ok P p.1 p.2
theorem EX {Γ:ct}{t:Nat}{x:TI}(h:dz Γ t=some x):(t,x)∈Γ:=by
  induction Γ with
  |nil=>cases h
  | cons p r ih=>
    obtain⟨d,y⟩:=p
    simp only[dz] at h
    cases hb:t==d with
    | true=>
      have:t=d:=by simpa using hb
      subst this
      rw[hb] at h;simp at h;subst h;simp
    |false=>rw[hb] at h;exact dQ _ (ih h)
theorem ct.Good.look {P:Program}{Γ:ct}(h:Γ.Good P){t:Nat}{x:TI}(hx:dz Γ t=some x):TI.ok P t x:=h _ (EX hx)
def cB:List (Nat×AV)→Nat→AV
  |[],_=>.any
  |(d,x)::r,i=>bif i==d then x else cB r i
def aX:List (Nat×MS)→Nat→MS
  |[],_=>.free
  |(d,x)::r,i=>bif i==d then x else aX r i
def St (sl:List (Nat×AV))(m:List (Nat×MS)):aA:=⟨cB sl,aX m⟩
def qI (dst:Option Nat)(x:AV)(sl:List (Nat×AV)):List (Nat×AV):=
  match dst with
  |none=>sl
  |some d=>(d,x)::sl
def jl (sl:List (Nat×AV)):Operand→AV
  |.tmp t=>cB sl t
  |.const v=>.lit v
  |.global g=>.lit (.pointer (some ⟨g,0,none⟩))
  |.func f=>.lit (.func (.func f) #[] #[])
theorem fR (sl:List (Nat×AV))(m:List (Nat×MS))(x:Operand):(St sl m).eval x=jl sl x:=by cases x<;>rfl
theorem uZ (sl:List (Nat×AV))(m ups:List (Nat×MS))(dst:Option Nat)(x:AV):(St sl m).yI dst x ups=St (qI dst x sl) (ups++m):=by
  unfold St aA.yI
  congr 1
  · cases dst with
    |none=>rfl
    | some d=>
      funext i
      simp only[dA,qI,cB]
      by_cases h:i=d
      ·simp[h]
      · have h':(i==d)=false:=by simpa using h
        rw[if_neg h,h'];rfl
  · induction ups with
    |nil=>rfl
    | cons p r ih=>
      obtain⟨t,s⟩:=p
      funext u
      simp only[br,List.cons_append,aX]
      rw[ih]
      by_cases h:u=t
      ·simp[h]
      · have h':(u==t)=false:=by simpa using h
        rw[if_neg h,h'];rfl
abbrev Tk:=List (List Nat×List Nat)
def yB:BinOp→Value→Value→Option Value
  |.add,.int k a,.int k' b=>if k=k' then some (.int k (k.wrap (a+b))) else none
  |.sub,.int k a,.int k' b=>if k=k' then some (.int k (k.wrap (a-b))) else none
  |.lss,.int k a,.int k' b=>if k=k' then some (.bool (decide (a<b))) else none
  |.leq,.int k a,.int k' b=>if k=k' then some (.bool (decide (a≤b))) else none
  |.gtr,.int k a,.int k' b=>if k=k' then some (.bool (decide (b<a))) else none
  |.geq,.int k a,.int k' b=>if k=k' then some (.bool (decide (b≤a))) else none
  |.eql,.int k a,.int k' b=>if k=k' then some (.bool (a==b)) else none
  |.neq,.int k a,.int k' b=>if k=k' then some (.bool (!(a==b))) else none
  |.eql,.string a,.string b=>some (.bool (a.toList==b.toList))
  |.neq,.string a,.string b=>some (.bool (!(a.toList==b.toList)))
  |_,_,_=>none
def G2:BinOp→Value→Value→Option Value
  |.eql,.bool a,.bool b=>some (.bool (a==b))
  |.neq,.bool a,.bool b=>some (.bool (!(a==b)))
  |_,_,_=>none
def sJ (ti:Option TI)(r:AV)(k:Nat):Option AV:=
  match ti with
  |some (.sc _)=>(cells r)[k]?
  |some .bl=>(cells r)[k]?
  |some (.sl ..)=>(cells r)[k]?
  |some .str=>(cells r)[k]?
  |some (.st n ..)=>if k=0∧(cells r).length=n∧k7 r=true then some r else if k+n≤ (cells r).length then some (.agg (((cells r).drop k).take n)) else none
  |some (.ar n ..)=>if k=0∧(cells r).length=n∧k7 r=true then some r else if k+n≤ (cells r).length then some (.agg (((cells r).drop k).take n)) else none
  |none=>none
def By:Option TI→Option Nat
  |some (.sc _)=>some 1
  |some .bl=>some 1
  |some (.sl ..)=>some 1
  |some .str=>some 1
  |some (.st n ..)=>some n
  |some (.ar n ..)=>some n
  |none=>none
def nB:Option TI→Option AV
  |some (.sc z)=>match z with|.agg _=>none|z=>some (.lit z)
  |some .bl=>some (.lit (.bool false))
  |some (.sl ..)=>some (.lit (.slice none 0 0))
  |some .str=>some (.lit (.string ByteArray.empty))
  |some (.st _ _ z _)=>some (.agg (z.toList.map .lit))
  |some (.ar _ _ _ _ z)=>some (.agg (z.toList.map .lit))
  |none=>none
def u7 (ti:Option TI)(r:AV)(k:Nat)(x:AV):Option AV:=
  match By ti with
  |some n=>if(cells x).length=n∧jP (cells x)=true∧x.lF=true then
      (if(cells r).length=n∧k=0 then some x else if k+n≤ (cells r).length then some (.agg (fV (cells r) k (cells x))) else none) else none
  |none=>none
def Jr (Γ:ct)(sl:List (Nat×AV))(c:Call):Option (List Nat×AV×List (Nat×MS)):=
  match c.callee,c.args.toList,c.argTypes.toList with
  | .builtin .len,[y],[t]=>(match dz Γ t with
    | some (.sl ..)=>match jl sl y with
      |.own _ _ n=>some ([],.lit (.int .i64 n),[])
      |.sl _ rows=>some ([],.lit (.int .i64 rows.length),[])
      |.lit (.slice _ n _)=>some ([],.lit (.int .i64 n),[])
      |_=>none
    | some .str=>match jl sl y with
      |.lit (.string s)=>some ([],.lit (.int .i64 s.size),[])
      |_=>none
    |_=>none)
  |_,_,_=>none
def sw (op:BinOp)(ti:Option TI)(n:Nat):Option (List Nat×AV×List (Nat×MS)):=
  match ti,op with
  |some (.sl ..),.eql=>some ([],.guess (n=0) True,[])
  |some (.sl ..),.neq=>some ([],.guess True (n=0),[])
  |_,_=>none
def eF (Γ:ct)(sl:List (Nat×AV))(m:List (Nat×MS))(dst:Option Nat)(op:Op):Option (List Nat×AV×List (Nat×MS)):=
  match op with
  |.move y=>some ([],jl sl y,[])
  |.assign y=>some ([],jl sl y,[])
  | .pick c y z=>match jl sl c with
    |.lit (.bool b)=>some ([],if b then jl sl y else jl sl z,[])
    |_=>none
  | .extract y i=>match jl sl y with
    |.tup vs=>(vs[i]?).map fun x=>([],x,[])
    |_=>none
  | .field t y f=>match jl sl y,dz Γ t with
    | .agg cs,some (.st _ fs _ _)=>match fs[f]? with
      |some (off,ft)=>(sJ (dz Γ ft) (.agg cs) off).map fun x=>([],x,[])
      |none=>none
    |_,_=>none
  | .load t y=>match jl sl y with
    | .ptr tk i k=>match aX m tk with
      | .live _ rows _=>match rows[i]? with
        |some r=>(sJ (dz Γ t) r k).map fun x=>([tk],x,[])
        |none=>none
      |_=>none
    |.fptr r k=>(sJ (dz Γ t) r k).map fun x=>([],x,[])
    |_=>none
  | .fieldAddr t y f=>match dz Γ t with
    | some (.st _ fs _ _)=>match fs[f]? with
      | some (off,_)=>match jl sl y with
        |.ptr tk i k=>some ([],.ptr tk i (k+off),[])
        |.fptr r k=>some ([],.fptr r (k+off),[])
        |_=>none
      |none=>none
    |_=>none
  | .nilCheck y=>match jl sl y with
    |.ptr tk i k=>some ([],.ptr tk i k,[])
    |.fptr r k=>some ([],.fptr r k,[])
    |_=>none
  | .store t y z=>match dst with
    | none =>match jl sl y with
      | .ptr tk i k=>match aX m tk with
        | .live wd rows false=>match rows[i]? with
          | some r=>match u7 (dz Γ t) r k (jl sl z) with
            |some r'=>some ([tk],.any,[(tk,.live wd (rows.set i r') false)])
            |none=>none
          |none=>none
        |_=>none
      |_=>none
    |some _=>none
  | .box _ y=>match dst with
    | some d=>match aX m (10*d) with
      |.free=>if(jl sl y).lF then some ([10*d],.ptr (10*d) 0 0,[(10*d,.live (cells (jl sl y)).length [jl sl y] false)]) else none
      |_=>none
    |none=>none
  | .alloc t=>match dst with
    | some d=>match aX m (10*d) with
      | .free=>match nB (dz Γ t) with
        |some x=>some ([10*d],.ptr (10*d) 0 0,[(10*d,.live (cells x).length [x] false)])
        |none=>none
      |_=>none
    |none=>none
  |.makeFunc fn first cap=>some ([],.clo fn (first.toList.map (jl sl)) (cap.toList.map (jl sl)),[])
  | .binOp op t y z _=>match jl sl y,jl sl z with
    |.own _ _ n,.lit (.slice none 0 0)=>sw op (dz Γ t) n
    |.sl _ rows,.lit (.slice none 0 0)=>sw op (dz Γ t) rows.length
    | .lit a,.lit b=>match dz Γ t with
      |some .bl=>(G2 op a b).map fun r=>([],.lit r,[])
      |_=>(yB op a b).map fun r=>([],.lit r,[])
    |_,_=>none
  | .unOp .not _ y=>match jl sl y with
    |.lit (.bool b)=>some ([],.lit (.bool (!b)),[])
    |_=>none
  | .build t parts=>match dz Γ t with
    |some (.st _ fs z szs)=>(mZ (fun i=>match fs[i]?,szs[i]? with|some (off,_),some sz=>some (off,sz)|_,_=>none) (z.toList.map .lit) (parts.toList.map fun p=>(p.1,jl sl p.2))).map fun cs=>([],.agg cs,[])
    |_=>none
  |.call c=>Jr Γ sl c
  |_=>none
section
variable {P : Program} {N : Nat} {Γ : ct}
theorem lN (hΓ:Γ.Good P){t:TypeId}{r x:AV}{k:Nat}(h:sJ (dz Γ t) r k=some x):oK P t r k x:=by
  cases ht:dz Γ t with
  |none=>rw[ht] at h;cases h
  | some ti=>
    have ok:=hΓ.look ht
    rw[ht] at h
    cases ti with
    |sc z=>exact .scalar ok.1 h
    |bl=>exact .scalar ok.1 h
    |sl e wd b=>exact .scalar ok.1 h
    |str=>exact .scalar ok.1 h
    | st n fs z szs=>
      simp only[sJ] at h
      split at h
      ·rename_i hc;cases h;exact .full ok.1 ok.2.1 hc.1 hc.2.1 hc.2.2
      · split at h
        ·rename_i hc;cases h;exact .part ok.1 ok.2.1 hc
        ·cases h
    | ar n len e wd z=>
      simp only[sJ] at h
      split at h
      ·rename_i hc;cases h;exact .full ok.1 ok.2.1 hc.1 hc.2.1 hc.2.2
      · split at h
        ·rename_i hc;cases h;exact .part ok.1 ok.2.1 hc
        ·cases h
theorem Bw (hΓ:Γ.Good P){t:TypeId}{n:Nat}(h:By (dz Γ t)=some n):eW P t n:=by
  cases ht:dz Γ t with
  |none=>rw[ht] at h;cases h
  | some ti=>
    have ok:=hΓ.look ht
    rw[ht] at h
    cases ti<;>(simp only[By,Option.some.injEq] at h;subst h;exact ok.2.1)
theorem zZ (hΓ:Γ.Good P){t:TypeId}{x:AV}(h:nB (dz Γ t)=some x):∃z,jo P t z∧x=mY z:=by
  cases ht:dz Γ t with
  |none=>rw[ht] at h;cases h
  | some ti=>
    have ok:=hΓ.look ht
    rw[ht] at h
    cases ti with
    | sc z=>
      refine⟨z,ok.2.2,?_⟩
      cases z<;>simp only[nB,Option.some.injEq,reduceCtorEq] at h<;>(subst h;rfl)
    |bl=>simp only[nB,Option.some.injEq] at h;exact⟨_,ok.2.2.1,h▸rfl⟩
    |sl e wd b=>simp only[nB,Option.some.injEq] at h;exact⟨_,ok.2.2.1,h▸rfl⟩
    |str=>simp only[nB,Option.some.injEq] at h;exact⟨_,ok.2.2.1,h▸rfl⟩
    |st n fs z szs=>simp only[nB,Option.some.injEq] at h;exact⟨_,ok.2.2.1,h▸rfl⟩
    |ar n len e wd z=>simp only[nB,Option.some.injEq] at h;exact⟨_,ok.2.2.1,h▸rfl⟩
theorem yq (hΓ:Γ.Good P){t:TypeId}{r x r':AV}{k:Nat}(h:u7 (dz Γ t) r k x=some r'):rZ P t r k x r'∧jP (cells x)=true∧x.lF=true:=by
  unfold u7 at h
  cases hn:By (dz Γ t) with
  |none=>rw[hn] at h;cases h
  | some n=>
    rw[hn] at h
    simp only at h
    split at h
    · rename_i hc
      refine⟨?_,hc.2.1,hc.2.2⟩
      split at h
      ·rename_i h1;cases h;exact .full (Bw hΓ hn) hc.1 h1.1 h1.2
      · split at h
        ·rename_i h2;cases h;exact .part (Bw hΓ hn) hc.1 h2
        ·cases h
    ·cases h
theorem vh {op:BinOp}{a b r:Value}(h:yB op a b=some r)(t:TypeId)(y z:Operand)(w:World):((do eqGuard op t y z a b;binOp op t a b:Sem Value)).run P w=.ok r w:=by
  unfold yB at h
  split at h
  all_goals first
    | (split at h
       · rename_i hk;subst hk;cases h
         simp[eqGuard,binOp,Op.intArith,Op.intCmp,bne]
       ·cases h)
    |(cases h;simp[eqGuard,binOp,Op.stringOp];done)
    |cases h
theorem CW {t:TypeId}(ht:P.underlying t=some .bool)(x y:Bool)(w:World):(Op.equal t (.bool x) (.bool y)).run P w=.ok (x==y) w:=by
  show(Op.equalIn (9999+1) t (.bool x) (.bool y)).run P w=_
  rw[Op.equalIn]
  simp[run_underlying ht]
theorem GS {op:BinOp}{a b r:Value}{t:TypeId}(ht:P.underlying t=some .bool)(h:G2 op a b=some r)(y z:Operand)(w:World):((do eqGuard op t y z a b;binOp op t a b:Sem Value)).run P w=.ok r w:=by
  unfold G2 at h
  split at h
  all_goals first
    |(cases h;simp[eqGuard,binOp,CW ht];done)
    |cases h
end
def yz (sl:List (Nat×AV))(d:Int):Option Operand→Option Int
  |none=>some d
  | some z=>match jl sl z with
    |.lit (.int _ n)=>some n
    |_=>none
def jv (wd:Nat):Nat→List (Nat×AV)→Bool
  |_,[]=>true
  |k,(i,x)::r=>i==k&&(cells x).length==wd&&x.lF&&jv wd (k+1) r
def Pm (m:List (Nat×MS))(wd:Nat):AV→Option (Prop×List AV×List Nat)
  | .own t off len=>match aX m t with
    |.live wd' rows _=>if wd'=wd then(if off=0∧len=rows.length then some (True,rows,[t]) else some (off+len≤rows.length,(rows.drop off).take len,[t])) else none
    |_=>none
  |.sl wd' rows=>if wd'=wd then some (True,rows,[]) else none
  |.emp=>some (True,[],[])
  |.lit (.slice none 0 0)=>some (True,[],[])
  |_=>none
def Oy (m:List (Nat×MS))(wd:Nat):AV→Option (Prop×List AV×List Nat)
  | .own t off len=>match aX m t with
    |.live wd' rows false=>if wd'=wd then(if off=0∧len=rows.length then some (True,rows,[t]) else some (off+len≤rows.length,(rows.drop off).take len,[t])) else none
    |_=>none
  |.emp=>some (True,[],[])
  |.lit (.slice none 0 0)=>some (True,[],[])
  |_=>none
def Pz (Γ :ct)(sl:List (Nat×AV))(m:List (Nat×MS))(dst:Option Nat)(c:Call):Option (Prop×List Nat×AV×List (Nat×MS)):=
  match c.callee,c.args.toList,c.argTypes.toList with
  | .builtin .append,[y,z],[t,t2]=>(match dst,dz Γ t,dz Γ t2 with
    | some d,some (.sl _ wd bytes),some (.sl _ _ _)=>match aX m (10*d) with
      | .free=>match Oy m wd (jl sl y),Pm m wd (jl sl z) with
        |some (c1,rows0,k),some (c2,news,rd)=>some (c1∧c2∧jP (flat news)=true∧(rows0.length+news.length)*bytes≤140737488355328∧rows0.length+news.length≤9223372036854775807,
            10*d::(k++rd),.own (10*d) 0 (rows0++news).length,(10*d,.live wd (rows0++news) false)::k.map fun t=>(t,.dead))
        |_,_=>none
      |_=>none
    |_,_,_=>none)
  |_,_,_=>none
def NG (Γ:ct)(sl:List (Nat×AV))(m:List (Nat×MS))(dst:Option Nat)(op:Op):Option (Prop×List Nat×AV×List (Nat×MS)):=
  match op with
  | .indexAddr t y z=>match jl sl z with
    | .lit (.int _ i)=>match dz Γ t,jl sl y with
      | some (.sl _ wd _),.own tk off len=>match aX m tk with
        |.live wd' _ _=>if wd'=wd then some (0≤i∧i<len,[tk],.ptr tk (off+i.toNat) 0,[]) else none
        |_=>none
      | some (.sl _ wd _),.sl wd' rows=>if wd'=wd then(match rows[i.toNat]? with
        |some r=>some (0≤i,[],.fptr r 0,[])
        |none=>none) else none
      |some (.ar _ len _ wd _),.ptr tk i0 k0=>some (0≤i∧i<len,[],.ptr tk i0 (k0+i.toNat*wd),[])
      |_,_=>none
    |_=>none
  | .slice t y lo hi none=>match dz Γ t with
    | some (.sl _ wd _)=>match jl sl y with
      | .own tk off len=>match yz sl 0 lo,yz sl len hi,aX m tk with
        |some l,some h,.live wd' _ _=>if wd'=wd then some (0≤l∧l≤h∧h≤len,[tk],.own tk (off+l.toNat) (h.toNat-l.toNat),[]) else none
        |_,_,_=>none
      | .sl wd' rows=>match yz sl 0 lo,yz sl rows.length hi with
        |some l,some h=>if wd'=wd then some (0≤l∧l≤h∧h≤rows.length,[],.sl wd ((rows.drop l.toNat).take (h.toNat-l.toNat)),[]) else none
        |_,_=>none
      |_=>none
    |_=>none
  | .slice t y none (some hi) (some mx)=>match dz Γ t,jl sl hi,jl sl mx with
    | some (.sl _ _ _),.lit (.int _ 0),.lit (.int _ 0)=>match jl sl y with
      |.own _ _ _=>some (True,[],.emp,[])
      |.sl _ _=>some (True,[],.emp,[])
      |.emp=>some (True,[],.emp,[])
      |.lit (.slice none 0 0)=>some (True,[],.emp,[])
      |_=>none
    |_,_,_=>none
  | .buildSlice t len parts=>match dst,dz Γ t with
    | some d,some (.sl _ wd _)=>match aX m (10*d) with
      |.free=>if jv wd 0 (parts.toList.map fun p=>(p.1,jl sl p.2))=true∧parts.toList.length=len∧len*wd≤16777216 then
          some (True,[10*d],.own (10*d) 0 len,[(10*d,.live wd (parts.toList.map fun p=>jl sl p.2) false)]) else none
      |_=>none
    |_,_=>none
  |.call c=>Pz Γ sl m dst c
  |_=>none
section
variable {P : Program} {N : Nat} {Γ : ct} {σ : aA} {o : Oper}
theorem aG.Bl {y:Operand}{lo hi:Option Operand}{t e:TypeId}{rows:List AV}{l h wd:Nat}(ho:o.op=.slice t y lo hi none)(he:σ.eval y=.sl wd rows)
    (hl:lo=none∧l=0∨∃z k,lo=some z∧σ.eval z=.lit (.int k l)) (hh:hi=none∧h=rows.length∨∃z k,hi=some z∧σ.eval z=.lit (.int k h)) (h1:l≤h) (h2:h≤rows.length)
    (ht:lW P t e) (hsz:eW P e wd) (hd:∀d,o.dst=some d→d<N):aG P N o σ [] (.sl wd ((rows.drop l).take (h-l))) []:=
  .val (fun σ2 he2 hrd w0 W0 L μ a w hs=>by
    have k1:=hs.eval y
    rw[he2 y (by simp[ho,Op.operands]),he] at k1
    have hl':lo.map a.eval=none∧l=0∨∃k,lo.map a.eval=some (.int k l):=by
      rcases hl with⟨rfl,rfl⟩|⟨z,k,rfl,hz⟩
      ·exact .inl ⟨rfl,rfl⟩
      · have:=hs.eval z
        rw[he2 z (by simp[ho,Op.operands]),hz] at this
        exact .inr ⟨k,by simp[this.val]⟩
    have hh':hi.map a.eval=none∧h=rows.length∨∃k,hi.map a.eval=some (.int k h):=by
      rcases hh with⟨rfl,rfl⟩|⟨z,k,rfl,hz⟩
      ·exact .inl ⟨rfl,rfl⟩
      · have:=hs.eval z
        rw[he2 z (by simp[ho,Op.operands]),hz] at this
        exact .inr ⟨k,by simp[this.val]⟩
    have hnone:(none:Option Operand).map a.eval=none:=rfl
    have hll:((rows.drop l).take (h-l)).length=h-l:=by rw[gE,List.length_drop];omega
    generalize hv:a.eval y=v at k1
    cases k1 with
    | @slNil _ a' cap=>
      have hl0:l=0:=by simp at h2;omega
      have hh0:h=0:=by simpa using h2
      subst hl0;subst hh0
      have hbr:=lS (P:=P) (len:=0) (cap:=cap) hl' hh' h1 (Nat.zero_le _) w
      refine⟨.slice (if cap=0 then a' else a'.map fun x=>x.add (0*wd)) 0 (cap-0),?_,?_⟩
      ·simp only[execOp,ho,hv,Instr.sliceAt,Instr.slice,Sem.run_bind,run_underlying ht,Result.andThen_ok,hnone,hbr,hsz w,Sem.run_pure,Nat.sub_self]
      ·simpa using cD.slNil
    | @sl _ _ b q0 cap n f a1 a2 a3 a4 a5 a6 a7 a8=>
      subst a3
      have hbr:=lS (P:=P) hl' hh' h1 (Nat.le_trans h2 a4) w
      refine⟨.slice (if cap=l then some ⟨b,q0,none⟩ else some ⟨b,q0+l*wd,none⟩) (h-l) (cap-l),?_,?_⟩
      ·simp only[execOp,ho,hv,Instr.sliceAt,Instr.slice,Sem.run_bind,run_underlying ht,Result.andThen_ok,hnone,hbr,hsz w,Sem.run_pure,Option.map_some,Addr.add_lit]
      · by_cases hc:cap=l
        · have h0:h-l=0:=by omega
          have hnil:(rows.drop l).take (h-l)=[]:=List.eq_nil_of_length_eq_zero (by rw[hll,h0])
          rw[hnil,h0]
          exact .slNil
        · rw [if_neg hc]
          exact .sl (f:=fun q=>f (l*wd+q)) a1 a2 hll.symm (by omega) (bJ.sub a5 fun r hr=>List.mem_of_mem_drop (List.mem_of_mem_take hr))
            (fun q c hq=>by rw[Nat.add_assoc];exact a6 _ c (lM a5 hq)) (fun q c hq=>a7 _ c (lM a5 hq)) (fun c hc=>by
              obtain⟨q,hq⟩:=List.getElem?_of_mem hc
              exact a8 c (bV (lM a5 hq)))) hd
theorem aG.slice3 {y hi mx:Operand}{t e:TypeId}{kh km:IntKind}{x:AV}(ho:o.op=.slice t y none (some hi) (some mx))(he:σ.eval y=x)(hx:(∃tk off len,x=.own tk off len)∨(∃wd rows,x=.sl wd rows)∨x=.emp∨x=.lit (.slice none 0 0))
    (hh:σ.eval hi=.lit (.int kh 0)) (hm:σ.eval mx=.lit (.int km 0)) (ht:lW P t e) (hsz:∃wd,eW P e wd) (hd:∀d,o.dst=some d→d<N):aG P N o σ [] .emp []:=
  .val (fun σ2 he2 hrd w0 W0 L μ a w hs=>by
    have k1:=hs.eval y
    have k2:=hs.eval hi
    have k3:=hs.eval mx
    rw[he2 y (by simp[ho,Op.operands]),he] at k1
    rw[he2 hi (by simp[ho,Op.operands]),hh] at k2
    rw[he2 mx (by simp[ho,Op.operands]),hm] at k3
    obtain⟨wd,hsz⟩:=hsz
    have hv:∃ad n c,a.eval y=.slice ad n c:=by
      generalize a.eval y=v at k1
      rcases hx with⟨tk,off,len,rfl⟩|⟨wd,rows,rfl⟩|rfl|rfl
      ·cases k1<;>exact⟨_,_,_,rfl⟩
      ·cases k1<;>exact⟨_,_,_,rfl⟩
      ·cases k1;exact⟨_,_,_,rfl⟩
      ·cases k1;exact⟨_,_,_,rfl⟩
    obtain⟨ad,n,c,hv⟩:=hv
    have hbd:∀ (k:IntKind) (y:Nat) (cd:BoundsCode),(Instr.sliceBound (.int k 0) y cd).run P w=.ok 0 w:=fun k y cd=>by
      rw[run_sliceBound w k 0 y cd (by omega) (by omega)];simp
    refine⟨.slice ad 0 0,?_,.emp⟩
    simp[execOp,ho,hv,k2.val,k3.val,Instr.sliceAt,Instr.slice,run_underlying ht,hsz w,Instr.sliceBounds,hbd]) hd
theorem mh {wd:Nat}:∀ (ps:List (Nat×AV)) (k:Nat) (pre:List AV),jv wd k ps=true→pre.length=k*wd→
    mZ (fun i=>some (i*wd,wd)) (pre++List.replicate (ps.length*wd) .any) ps=some (pre++flat (ps.map (·.2)))
  |[],k,pre,_,_=>by simp[mZ,flat]
  | (i,x)::ps,k,pre,h,hl=>by
    simp only[jv,bO,beq_iff_eq] at h
    obtain⟨⟨⟨rfl,h2⟩,h3⟩,h4⟩:=h
    have hlen:(pre++List.replicate (((i,x)::ps).length*wd) AV.any).length=(i+1+ps.length)*wd:=by
      simp[hl,←Nat.add_mul];congr 1;omega
    simp only[mZ]
    rw[if_pos ⟨h2,by rw[hlen,h2,Nat.add_mul,Nat.add_mul];omega,h3⟩]
    have hsp:fV (pre++List.replicate (((i,x)::ps).length*wd) AV.any) (i*wd) (cells x)=(pre++cells x)++List.replicate (ps.length*wd) AV.any:=by
      unfold fV
      rw[←hl,List.take_left,List.drop_append,List.drop_eq_nil_of_le (by omega),List.nil_append,List.append_assoc,List.append_assoc]
      congr 2
      rw[List.drop_replicate]
      congr 1
      rw[List.length_cons,Nat.add_mul,h2];omega
    rw[hsp,mh ps (i+1) (pre++cells x) h4 (by rw[jz,hl,h2,Nat.add_mul,Nat.one_mul])]
    simp[fF]
theorem l8 {wd:Nat}:∀ (ps:List (Nat×AV)) (k:Nat),jv wd k ps=true→bJ wd (ps.map (·.2))
  |[],_,_=>.nil _
  | (i,x)::ps,k,h=>by
    simp only[jv,bO,beq_iff_eq] at h
    exact .cons h.1.1.2 (l8 ps _ h.2)
end
section
variable {P : Program} {N : Nat} {Γ : ct}
theorem aG.binOp {σ:aA}{o:Oper}{op:BinOp}{t yt:TypeId}{y z:Operand}{a b r:Value}(ho:o.op=.binOp op t y z yt)(he:σ.eval y=.lit a)(he':σ.eval z=.lit b)
    (hr:∀w,((do eqGuard op t y z a b;Go.binOp op t a b:Sem Value)).run P w=.ok r w) (hd:∀d,o.dst=some d→d<N):aG P N o σ [] (.lit r) []:=
  .bin (y:=y) (z:=z) (f:=fun u v=>do eqGuard op t y z u v;Go.binOp op t u v) (fun ρ=>by simp[execOp,ho]) (by simp[ho,Op.operands]) he he' hr hd
theorem aG.not {σ:aA}{o:Oper}{t:TypeId}{y:Operand}{b:Bool}(ho:o.op=.unOp .not t y)(he:σ.eval y=.lit (.bool b))(hd:∀d,o.dst=some d→d<N):aG P N o σ [] (.lit (.bool (!b))) []:=
  .PU (y:=y) (f:=fun a=>Op.unary .not a) (fun ρ=>by simp[execOp,ho]) (by simp[ho,Op.operands]) he (fun w=>by simp[Op.unary]) hd
theorem xe (hΓ:Γ.Good P){sl:List (Nat×AV)}{m:List (Nat×MS)}{o:Oper}{rd:List Nat}{x x0:AV}{ups:List (Nat×MS)}{op:BinOp}{y z:Operand}{t yt:TypeId}{n:Nat}(h:sw op (dz Γ t) n=some (rd,x,ups))
    (ho:o.op=.binOp op t y z yt) (he:jl sl y=x0) (hz:jl sl z=.lit (.slice none 0 0)) (hx:(∃tk off,x0=.own tk off n)∨(∃wd rows,x0=.sl wd rows∧n=rows.length)) (hd:∀d,o.dst=some d→d<N):aG P N o (St sl m) rd x ups:=by
  unfold sw at h
  split at h
  · rename_i ht;cases h
    have ok:=hΓ.look ht
    obtain⟨i,z,te⟩:=ok.2.2.2.2
    exact aG.DG ho (.inl rfl) (by rw[fR];exact he) (by rw[fR];exact hz) te.ty hx hd
  · rename_i ht;cases h
    have ok:=hΓ.look ht
    obtain⟨i,z,te⟩:=ok.2.2.2.2
    exact aG.DG ho (.inr rfl) (by rw[fR];exact he) (by rw[fR];exact hz) te.ty hx hd
  ·cases h
theorem E5 (hΓ:Γ.Good P){sl:List (Nat×AV)}{m:List (Nat×MS)}{o:Oper}{rd:List Nat}{x:AV}{ups:List (Nat×MS)}(h:eF Γ sl m o.dst o.op=some (rd,x,ups))(hd:∀d,o.dst=some d→d<N):
    aG P N o (St sl m) rd x ups:=by
  have ev:∀y,(St sl m).eval y=jl sl y:=fR sl m
  generalize hop:o.op=op at h
  unfold eF at h
  split at h
  ·cases h;rw[←ev];exact .move hop hd
  ·cases h;rw[←ev];exact .assign hop hd
  · split at h
    ·rename_i hc;cases h;exact .pick hop (by rw[ev];exact hc) (by simp only[ev]) hd
    ·cases h
  · split at h
    · rename_i he
      rw[Option.map_eq_some_iff] at h
      obtain⟨y',h1,h2⟩:=h
      cases h2
      exact .extract hop (by rw[ev];exact he) h1 hd
    ·cases h
  · split at h
    · rename_i he ht
      split at h
      · rename_i hf
        rw[Option.map_eq_some_iff] at h
        obtain⟨y',h1,h2⟩:=h
        cases h2
        have ok:=hΓ.look ht
        exact .field hop (by rw[ev];exact he) (ok.2.2.2.1 _ _ _ hf).2 (lN hΓ h1) hd
      ·cases h
    ·cases h
  · split at h
    · rename_i he
      split at h
      · rename_i hm
        split at h
        · rename_i hr
          rw[Option.map_eq_some_iff] at h
          obtain⟨y',h1,h2⟩:=h
          cases h2
          exact .AQ hop (by rw[ev];exact he) hm hr (lN hΓ h1) hd
        ·cases h
      ·cases h
    · rename_i he
      rw[Option.map_eq_some_iff] at h
      obtain⟨y',h1,h2⟩:=h
      cases h2
      exact .EZ hop (by rw[ev];exact he) (lN hΓ h1) hd
    ·cases h
  · split at h
    · rename_i ht
      split at h
      · rename_i hf
        have ok:=hΓ.look ht
        split at h
        ·rename_i he;cases h;exact .wA hop (by rw[ev];exact he) (ok.2.2.2.1 _ _ _ hf).1 hd
        ·rename_i he;cases h;exact .uh hop (by rw[ev];exact he) (ok.2.2.2.1 _ _ _ hf).1 hd
        ·cases h
      ·cases h
    ·cases h
  · split at h
    ·rename_i he;cases h;exact .nilCheck hop (by rw[ev];exact he) (.inl ⟨_,_,_,rfl⟩) hd
    ·rename_i he;cases h;exact .nilCheck hop (by rw[ev];exact he) (.inr ⟨_,_,rfl⟩) hd
    ·cases h
  · split at h
    · rename_i hdst
      split at h
      · rename_i he
        split at h
        · rename_i hm
          split at h
          · rename_i hr
            split at h
            · rename_i hst
              cases h
              obtain⟨s1,s2,s3⟩:=yq hΓ hst
              exact .store hop (by rw[ev];exact he) (ev _) hm hr s1 s2 s3 hdst
            ·cases h
          ·cases h
        ·cases h
      ·cases h
    ·cases h
  · split at h
    · rename_i hdst
      split at h
      · rename_i hm
        split at h
        ·rename_i hs;cases h;exact .box hop (ev _) hs hm hd
        ·cases h
      ·cases h
    ·cases h
  · split at h
    · rename_i hdst
      split at h
      · rename_i hm
        split at h
        · rename_i hz
          cases h
          obtain⟨z,z1,rfl⟩:=zZ hΓ hz
          exact .alloc hop z1 hm hd
        ·cases h
      ·cases h
    ·cases h
  · cases h
    have:jl sl=(St sl m).eval:=by funext y;exact(ev y).symm
    rw[this]
    exact .makeFunc hop hd
  · split at h
    · rename_i he1 he2
      exact xe hΓ h hop he1 he2 (.inl ⟨_,_,rfl⟩) hd
    · rename_i he1 he2
      exact xe hΓ h hop he1 he2 (.inr ⟨_,_,rfl,rfl⟩) hd
    · rename_i he1 he2
      split at h
      · rename_i ht
        rw[Option.map_eq_some_iff] at h
        obtain⟨y',h1,h2⟩:=h
        cases h2
        have ok:=hΓ.look ht
        exact .binOp hop (by rw[ev];exact he1) (by rw[ev];exact he2) (GS ok.2.2.2 h1 _ _) hd
      · rw[Option.map_eq_some_iff] at h
        obtain⟨y',h1,h2⟩:=h
        cases h2
        exact .binOp hop (by rw[ev];exact he1) (by rw[ev];exact he2) (vh h1 _ _ _) hd
    ·cases h
  · split at h
    · rename_i he
      cases h
      exact .not hop (by rw[ev];exact he) hd
    ·cases h
  · split at h
    · rename_i ht
      rw[Option.map_eq_some_iff] at h
      obtain⟨y',h1,h2⟩:=h
      cases h2
      have ok:=hΓ.look ht
      have hev:(fun p:Nat×Operand=>(p.1,jl sl p.2))=fun p=>(p.1,(St sl m).eval p.2):=by funext p;rw[ev]
      rw[hev] at h1
      exact .build hop ok.2.2.2.2 h1 hd
    ·cases h
  · rename_i c
    unfold Jr at h
    split at h
    rotate_left
    ·cases h
    rename_i y t e1 e2 e3
    obtain⟨callee,args,argTypes⟩:=c
    simp only at e1 e2 e3
    obtain rfl:args= #[y]:=Array.ext' e2
    obtain rfl:argTypes= #[t]:=Array.ext' e3
    subst e1
    split at h
    · rename_i ht
      have ok:=hΓ.look ht
      obtain⟨i,z,te⟩:=ok.2.2.2.2
      split at h
      ·rename_i he;cases h;exact .len hop (by rw[ev];exact he) te.ty (.inl ⟨_,_,rfl⟩) hd
      ·rename_i he;cases h;exact .len hop (by rw[ev];exact he) te.ty (.inr (.inl ⟨_,_,rfl,rfl⟩)) hd
      ·rename_i he;cases h;exact .len hop (by rw[ev];exact he) te.ty (.inr (.inr ⟨_,_,rfl⟩)) hd
      ·cases h
    · rename_i ht
      have ok:=hΓ.look ht
      split at h
      ·rename_i he;cases h;exact .Ji hop (by rw[ev];exact he) ok.2.2.2 hd
      ·cases h
    ·cases h
  ·cases h
end
end Go.Am
section
namespace Go.Am
def cZ (N:Nat):Option Nat→Bool
  |none=>true
  |some d=>decide (d<N)
theorem aJ {N:Nat}{dst:Option Nat}(h:cZ N dst=true):∀d,dst=some d→d<N:=by
  rintro d rfl;simpa[cZ] using h
section
variable (P : Program) (N : Nat) (Γ : ct) (ds : List (Option Nat))
def iS (o:Oper)(sl:List (Nat×AV))(m:List (Nat×MS))(R:List Nat→AV→List (Nat×MS)→Prop):Prop:=∃rd x ups,aG P N o (St sl m) rd x ups∧R rd x ups
def OB (o:Oper)(sl:List (Nat×AV))(m:List (Nat×MS))(R:List Nat→AV→List (Nat×MS)→Prop):Option (Prop×List Nat×AV×List (Nat×MS))→Prop
  |some (c,rd,x,ups)=>c∧R rd x ups
  |none=>iS P N o sl m R
def MB (o:Oper)(sl:List (Nat×AV))(m:List (Nat×MS))(R:List Nat→AV→List (Nat×MS)→Prop):Option (List Nat×AV×List (Nat×MS))→Prop
  |some (rd,x,ups)=>R rd x ups
  |none=>OB P N o sl m R (NG Γ sl m o.dst o.op)
def P9 (c:Bool)(yes no:Prop):Prop:=(c=true→yes)∧(c=false→no)
def PT (x:AV)(b:Bool)(yes no:Prop):Prop:=
  match x with
  |.lit (.bool c)=>P9 (c==b) yes no
  |_=>False
def Is:  List Oper→Tk→List (Nat×AV)→List (Nat×MS)→(Tk→aA→Prop)→Prop
  |[],acc,sl,m,K=>K acc (St sl m)
  | o ::rest,acc,sl,m,K=>
    cZ N o.dst=true∧
    match o.guard with
    |none=>MB P N Γ o sl m (fun rd x ups=>Is rest (acc++ [(rd,ups.map (·.1))]) (qI o.dst x sl) (ups++m) K) (eF Γ sl m o.dst o.op)
    | some (j,b)=>match(ds[j]?).bind id with
      |some d=>d<N∧PT (cB sl d) b
          (MB P N Γ o ((d,.lit (.bool b))::sl) m (fun rd x ups=>Is rest (acc++ [(rd,ups.map (·.1))]) (qI o.dst x ((d,.lit (.bool b))::sl)) (ups++m) K) (eF Γ ((d,.lit (.bool b))::sl) m o.dst o.op))
          (Is rest (acc++ [([],[])]) (qI o.dst (.lit undef) ((d,.lit (.bool (!b)))::sl)) m K)
      |none=>False
end
section
variable (P : Program) (N : Nat) (Γ : ct) (ds : List (Option Nat))
def MZ (o:Oper)(rest:List Oper)(acc:Tk)(sl:List (Nat×AV))(m:List (Nat×MS))(K:Tk→aA→Prop)(rd:List Nat)(x:AV)(ups:List (Nat×MS)):Prop:=
  Is P N Γ ds rest (acc++ [(rd,ups.map (·.1))]) (qI o.dst x sl) (ups++m) K
def Lv (d:Nat)(b:Bool)(o:Oper)(rest:List Oper)(acc:Tk)(sl:List (Nat×AV))(m:List (Nat×MS))(K:Tk→aA→Prop):Prop:=
  MB P N Γ o ((d,.lit (.bool b))::sl) m (MZ P N Γ ds o rest acc ((d,.lit (.bool b))::sl) m K) (eF Γ ((d,.lit (.bool b))::sl) m o.dst o.op)
def Oh (d:Nat)(b:Bool)(o:Oper)(rest:List Oper)(acc:Tk)(sl:List (Nat×AV))(m:List (Nat×MS))(K:Tk→aA→Prop):Prop:=
  Is P N Γ ds rest (acc++ [([],[])]) (qI o.dst (.lit undef) ((d,.lit (.bool (!b)))::sl)) m K
def Od (x:AV)(d:Nat)(b:Bool)(o:Oper)(rest:List Oper)(acc:Tk)(sl:List (Nat×AV))(m:List (Nat×MS))(K:Tk→aA→Prop):Prop:=
  PT x b (Lv P N Γ ds d b o rest acc sl m K) (Oh P N Γ ds d b o rest acc sl m K)
end
section
variable {P : Program} {N : Nat} {Γ : ct} {ds : List (Option Nat)}
variable {o : Oper} {rest : List Oper} {acc : Tk} {sl : List (Nat × AV)} {m : List (Nat × MS)} {K : Tk → aA → Prop} {d : Nat}
theorem Od.split {c b:Bool}(hy:c=b→Lv P N Γ ds d b o rest acc sl m K)(hn:c=(!b)→Oh P N Γ ds d b o rest acc sl m K):Od P N Γ ds (.lit (.bool c)) d b o rest acc sl m K:=by
  refine⟨fun h=>hy ?_,fun h=>hn ?_⟩<;>cases c<;>cases b<;>simp_all
end
section
variable {P : Program} {N nL : Nat} {Γ : ct} {ds : List (Option Nat)} {ops : Array Oper}
theorem iS.Dp {o:Oper}{sl:List (Nat×AV)}{m:List (Nat×MS)}{R:List Nat→AV→List (Nat×MS)→Prop}{f:FuncId}{ys args:List AV}{res:AV}(T:List Nat)(hto:gj (St sl m) o f ys)(hc:ak P f)
    (hargs:ig (aX m) id (fun _=>False) (· ∈T) args ys) (hd:cZ N o.dst=true) (hp:kj res=true) (hf:aj P f [] args [] res) (h:R T res []):iS P N o sl m R:=
  ⟨T,res,[],.Dp T hto hc hargs hf hp (aJ hd),h⟩
end
end Go.Am
namespace Go.Am
theorem uT.mk {P:Program}{t:TypeId}{fields:Array Field}{places:Array (Nat×Nat)}{z:Array Value}{place:Nat→Option (Nat×Nat)}(h1:P.underlying t=some (.struct fields))(h2:jo P t (.agg z))
    (h3:∀w,(fields.toList.mapM (m:=Sem) fun f=>do pure (f.offset,←sizeOf f.type)).run P w=.ok places.toList w) (h4:∀i,place i=places[i]?):uT P t z place:=by
  intro parts w
  have hpl:place=(places[·]?):=funext h4
  have hm:(fields.mapM (m:=Sem) fun f=>do pure (f.offset,←sizeOf f.type)).run P w=.ok places w:=by
    rw[Array.mapM_eq_mapM_toList]
    simp only[Sem.run_map,h3 w,Result.andThen_ok]
  have hb:(Instr.build t parts).run P w=match Instr.fill (places[·]?) z parts.toList with
      |some cells=>.ok (.agg cells) w
      |none=>.halt (.stuck "build: no such field, or a part of the wrong size") w:=by
    unfold Instr.build
    simp only[Sem.run_bind,h2 w,Result.andThen_ok,run_underlying h1,hm,Value.cells]
    cases Instr.fill (places[·]?) z parts.toList<;>rfl
  rw[hpl]
  cases hf:Instr.fill (places[·]?) z parts.toList with
  |none=>rfl
  |some cells=>rw[hb,hf]
end Go.Am
namespace Go.Am
def sL:Nat→List AV→List (Nat×AV)
  |_,[]=>[]
  |k,x::r=>(k,x)::sL (k+1) r
def qD:Nat→List MS→List (Nat×MS)
  |_,[]=>[]
  |k,x::r=>(k,x)::qD (k+1) r
theorem pE:∀ (l:List AV) (k i:Nat),cB (sL k l) i=if k≤i then l.getD (i-k) .any else .any
  |[],k,i=>by simp[sL,cB]
  | x ::r,k,i=>by
    simp only[sL,cB]
    rw[pE r (k+1) i]
    by_cases h:i=k
    ·subst h;simp
    · have h':(i==k)=false:=by simpa using h
      rw[h']
      by_cases h2:k≤i
      ·rw[if_pos h2,if_pos (by omega),show i-k=(i- (k+1))+1 from by omega];rfl
      ·rw[if_neg h2,if_neg (by omega)];rfl
theorem vP:∀ (l:List MS) (k i:Nat),aX (qD k l) i=if k≤i then(l[i-k]?).getD .free else .free
  |[],k,i=>by simp[qD,aX]
  | x ::r,k,i=>by
    simp only[qD,aX]
    rw[vP r (k+1) i]
    by_cases h:i=k
    ·subst h;simp
    · have h':(i==k)=false:=by simpa using h
      rw[h']
      by_cases h2:k≤i
      ·rw[if_pos h2,if_pos (by omega),show i-k=(i- (k+1))+1 from by omega];rfl
      ·rw[if_neg h2,if_neg (by omega)];rfl
theorem qP.one {P:Program}{sl:List (Nat×AV)}{m:List (Nat×MS)}{t:Nat}{res:AV}(h:cB sl t=res)(hr:bD res=true):qP P 0 [.tmp t] (St sl m) [] res:=
  ⟨[res],rfl,fun j rv x h1 h2=>by
    cases j with
    |zero=>simp at h1 h2;subst h1;subst h2;exact h
    |succ j=>simp at h1,id,fun _=>False,
    ⟨fun _=>.any,fun t=>.inl (by simp[bare,aH]),fun t t' wd rows wd' rows' ro' h=>by simp[bare,aH] at h,fun s h=>h.elim,fun t h=>absurd h (Nat.not_lt_zero t)⟩,.same hr⟩
end Go.Am
namespace Go.Am
end Go.Am
end
namespace Go.Am
mutual
/-- Objects named anew. -/
def jn (b:Nat):AV→AV
  |.own t o l=>.own (b+t) o l
  |.ptr t i k=>.ptr (b+t) i k
  |.mapr t=>.mapr (b+t)
  |.agg cs=>.agg (yJ b cs)
  |.tup cs=>.tup (yJ b cs)
  |x=>x
def yJ (b:Nat):List AV→List AV
  |[]=>[]
  |x::xs=>jn b x::yJ b xs
end
mutual
def nZ (n:Nat):AV→Bool
  |.own t _ _=>decide (t<n)
  |.ptr t _ _=>decide (t<n)
  |.mapr t=>decide (t<n)
  |.agg cs=>vF n cs
  |.tup cs=>vF n cs
  |x=>bD x
def vF (n:Nat):List AV→Bool
  |[]=>true
  |x::xs=>nZ n x&&vF n xs
end
section
variable {m : Nat → MS} {F : Nat → Prop} {b n : Nat}
mutual
theorem wS:∀ (x:AV),nZ n x=true→Cv m (· -b) (fun t=>b≤t∧t-b<n) F (jn b x) x
  | .own t o l,h=>by
    simp only[nZ,bE] at h
    have:=Cv.own (m:=m) (ρ:=(· -b)) (D:=fun t=>b≤t∧t-b<n) (F:=F) (t:=b+t) (o:=o) (l:=l) ⟨by omega,by omega⟩
    simpa[jn] using this
  | .ptr t i k,h=>by
    simp only[nZ,bE] at h
    have:=Cv.ptr (m:=m) (ρ:=(· -b)) (D:=fun t=>b≤t∧t-b<n) (F:=F) (t:=b+t) (i:=i) (k:=k) ⟨by omega,by omega⟩
    simpa[jn] using this
  | .mapr t,h=>by
    simp only[nZ,bE] at h
    have:=Cv.mapr (m:=m) (ρ:=(· -b)) (D:=fun t=>b≤t∧t-b<n) (F:=F) (t:=b+t) ⟨by omega,by omega⟩
    simpa[jn] using this
  |.fmap _,_=>.same rfl
  |.agg cs,h=>by simp only[nZ] at h;simp only[jn];exact .uM (rQ cs h)
  |.tup cs,h=>by simp only[nZ] at h;simp only[jn];exact .uE (rQ cs h)
  |.any,h=>.any
  |.emp,h=>.same rfl
  |.guess p q,h=>.same rfl
  |.lit x,h=>.same rfl
  |.sl wd rows,h=>by simp only[nZ] at h;simp only[jn];exact .same h
  |.fptr e k,h=>by simp only[nZ] at h;simp only[jn];exact .same h
  |.clo f a c,h=>by simp only[nZ] at h;simp only[jn];exact .same h
theorem rQ:∀ (xs:List AV),vF n xs=true→ig m (· -b) (fun t=>b≤t∧t-b<n) F (yJ b xs) xs
  |[],_=>.nil
  | x::xs,h=>by
    simp only[vF,bO] at h
    exact .cons (wS x h.1) (rQ xs h.2)
end
end
def jX:List MS→Prop
  |[]=>True
  |.live wd rows false::r=>bJ wd rows∧bu rows=true∧jX r
  |_::_=>False
theorem mc:∀ {l:List MS},jX l→∀ {k:Nat} {s:MS},l[k]? =some s→∃wd rows,s=.live wd rows false∧bJ wd rows∧bu rows=true
  |[],_,k,s,h=>by simp at h
  |.live wd rows false::r,ho,0,s,h=>by simp at h;subst h;exact⟨wd,rows,rfl,ho.1,ho.2.1⟩
  |.live wd rows false::r,ho,k+1,s,h=>mc ho.2.2 (by simpa using h)
  |.live wd rows true::r,ho,k,s,h=>ho.elim
  |.free::r,ho,k,s,h=>ho.elim
  |.dead::r,ho,k,s,h=>ho.elim
theorem bJ.map {α:Type}{wd:Nat}(f:α→AV)(h:∀a,(cells (f a)).length=wd)(l:List α):bJ wd (l.map f):=.jk fun r hr=>by
  obtain⟨a,_,rfl⟩:=List.mem_map.1 hr;exact h a
def jI (b:Nat):Nat→List MS→List (Nat×MS)
  |_,[]=>[]
  |k,s::r=>(b+k,s)::jI b (k+1) r
theorem l6 (b:Nat):∀ (l:List MS) (k:Nat),jI b k l=(l.zipIdx k).map fun p=>(b+p.2,p.1)
  |[],_=>rfl
  |s::r,k=>by simp[jI,l6 b r (k+1)]
def tY (m:List (Nat×MS))(b:Nat):Nat→Bool
  |0=>true
  |k+1=>(match aX m (b+k) with|.free=>true|_=>false)&&tY m b k
theorem qw {m:List (Nat×MS)}{b:Nat}:∀ {n:Nat},tY m b n=true→∀k,k<n→aX m (b+k)=.free
  |0,_,k,h=>absurd h (Nat.not_lt_zero k)
  | n +1,h,k,hk=>by
    simp only[tY,bO] at h
    by_cases he:k=n
    · subst he
      have:=h.1
      split at this
      ·assumption
      ·cases this
    ·exact qw h.2 k (by omega)
section
variable {P : Program} {N : Nat} {o : Oper} {sl : List (Nat × AV)} {m : List (Nat × MS)} {R : List Nat → AV → List (Nat × MS) → Prop} {f : FuncId} {ys args : List AV} {outs : List MS} {res : AV}
theorem iS.call (b:Nat)(hf:aj P f [] args outs res)(hto:gj (St sl m) o f ys)(hc:ak P f)(hys:ys=args)(hargs:bu args=true)(hd:cZ N o.dst=true)(hp:nZ outs.length res=true)(ho:jX outs)
    (hfree:tY m b outs.length=true) (h:R ((List.range outs.length).map (b+ ·)) (jn b res) (jI b 0 outs)):iS P N o sl m R:=by
  subst hys
  refine⟨_,_,_,?_,h⟩
  have:=aG.G1 (P:=P) (N:=N) (o:=o) (σ:=St sl m) (news:=outs) (x:=jn b res) (base:=b) [] hto hc (ig.same hargs) (by simp) hf (qw hfree) rfl (fun k s hk=>by
    obtain⟨wd,rows,rfl,h1,h2⟩:=mc ho hk
    exact⟨wd,rows,rows,rfl,hk,h1,.same h2⟩) (wS res hp) (aJ hd)
  simpa[l6] using this
theorem iS.cM (T:List Nat)(hf:aj P f [] args [] res)(hto:gj (St sl m) o f ys)(hc:ak P f)(hargs:ig (aX m) id (fun _=>False) (· ∈T) args ys)(hd:cZ N o.dst=true)(hp:kj res=true)
    (h:R T res []):iS P N o sl m R:=
  ⟨T,res,[],.Dp T hto hc hargs hf hp (aJ hd),h⟩
end
section
variable {P : Program} {σ : aA}
def yK (P:Program)(σ:aA):List ResultVar→List AV→Prop
  |[],[]=>True
  |rv::rvs,x::xs=>qT P σ rv x∧yK P σ rvs xs
  |_,_=>False
theorem yK.get:∀ {rvs:List ResultVar} {xs:List AV},yK P σ rvs xs→xs.length=rvs.length∧∀ (j:Nat) (rv:ResultVar) (x:AV),rvs[j]? =some rv→xs[j]? =some x→qT P σ rv x
  |[],[],_=>⟨rfl,by simp⟩
  | rv::rvs,x::xs,h=>by
    obtain⟨h1,h2⟩:=yK.get h.2
    refine⟨by simp[h1],fun j r y a b=>?_⟩
    cases j with
    |zero=>simp at a b;subst a;subst b;exact h.1
    |succ j=>exact h2 j r y (by simpa using a) (by simpa using b)
  |[],_::_,h=>h.elim
  |_::_,[],h=>h.elim
theorem qP.plain {rvs:List ResultVar}(xs:List AV)(h:yK P σ rvs xs)(hr:bD (s7 xs)=true):qP P 0 rvs σ [] (s7 xs):=
  ⟨xs,h.get.1,h.get.2,id,fun _=>False,
    ⟨fun _=>.any,fun t=>.inl (by simp[bare,aH]),fun t t' wd rows wd' rows' ro' h=>by simp[bare,aH] at h,fun s h=>h.elim,fun t h=>absurd h (Nat.not_lt_zero t)⟩,.same hr⟩
theorem qP.frozen {rvs:List ResultVar}(xs:List AV)(T:List Nat){res:AV}(h:yK P σ rvs xs)(hT:∀s∈T,∃wd rows ro,σ.mem s=.live wd rows ro)(hr:Cv σ.mem id (fun _=>False) (· ∈T) res (s7 xs)):qP P 0 rvs σ [] res:=by
  refine⟨xs,h.get.1,h.get.2,id,(· ∈T),⟨fun _=>.any,fun t=>.inl (by simp[bare,aH]),fun t t' wd rows wd' rows' ro' h=>by simp[bare,aH] at h,fun s hs=>⟨hT s hs,fun t wd rows h=>by simp[bare,aH] at h⟩,fun t h=>absurd h (Nat.not_lt_zero t)⟩,?_⟩
  refine Cv.weakD ?_ hr
  intro t h;exact h.elim
where
  Cv.weakD {m:Nat→MS} {ρ:Nat→Nat} {D D' F:Nat→Prop} (hD:∀t,D t→D' t) {x y:AV} (h:Cv m ρ D F x y):Cv m ρ D' F x y:=by
    induction h with
    |any=>exact .any
    |same h=>exact .same h
    |own h=>exact .own (hD _ h)
    |ptr h=>exact .ptr (hD _ h)
    |mapr h=>exact .mapr (hD _ h)
    |fmap a b c d e f ih=>exact .fmap a b c d (fun i key key' x' x h1 h2=>ih i key key' x' x h1 h2) f
    |nil=>exact .nil
    |nilE=>exact .nilE
    |empS=>exact .empS
    |frz a b c d e _ g ih=>exact .frz a b c d e (fun q c d h1 h2=>ih q c d h1 h2) g
    |frzp a b c d _ g ih=>exact .frzp a b c d (fun q c d h1 h2=>ih q c d h1 h2) g
    |agg a _ ih=>exact .agg a (fun q c d h1 h2=>ih q c d h1 h2)
    |tup a _ ih=>exact .tup a (fun q c d h1 h2=>ih q c d h1 h2)
    |clo a b _ _ ih1 ih2=>exact .clo a b (fun q c d h1 h2=>ih1 q c d h1 h2) (fun q c d h1 h2=>ih2 q c d h1 h2)
theorem qP.fresh {rvs:List ResultVar}(xs:List AV)(ns:List Nat){outs:List MS}{res:AV}(h:yK P σ rvs xs)(hlen:ns.length=outs.length)(hnd:ns.Nodup)(ho:jX outs)
    (hm:∀ (k n:Nat) (s:MS),ns[k]? =some n→outs[k]? =some s→σ.mem n=s)
    (hr:Cv σ.mem (fun t=>ns.getD t 0) (fun t=>t<outs.length) (fun _=>False) res (s7 xs)):qP P 0 rvs σ outs res:=by
  have hlive:∀t,(bare outs).mem t≠ .free→t<outs.length:=fun t ht=>by
    rcases Nat.lt_or_ge t outs.length with h|h
    ·exact h
    ·exact absurd (by simp[bare,aH,oF h]) ht
  have hat:∀t,t<outs.length→∃wd rows,outs[t]? =some (.live wd rows false)∧bJ wd rows∧bu rows=true∧σ.mem (ns.getD t 0)=.live wd rows false:=fun t ht=>by
    have h1:outs[t]? =some outs[t]:=bA ht
    obtain⟨wd,rows,e,h2,h3⟩:=mc ho h1
    have h4:ns[t]? =some (ns[t]'(by omega)):=bA _
    refine⟨wd,rows,by rw[h1,e],h2,h3,?_⟩
    rw[List.getD_eq_getElem?_getD,h4,Option.getD_some,hm t _ _ h4 h1,e]
  refine⟨xs,h.get.1,h.get.2,fun t=>ns.getD t 0,fun _=>False,⟨fun _=>.any,fun t=>?_,fun t t' wd rows wd' rows' ro' g1 g2 h3=>?_,fun s h=>h.elim,fun t h=>absurd h (Nat.not_lt_zero t)⟩,?_⟩
  · rcases Nat.lt_or_ge t outs.length with ht|ht
    · obtain⟨wd,rows,e1,e2,e3,e4⟩:=hat t ht
      exact .inr (.inr ⟨wd,rows,rows,false,false,by simp[bare,aH,e1],e4,fun _=>rfl,e2,.same e3⟩)
    ·exact .inl (by simp[bare,aH,oF ht])
  · have a1:=hlive t (fun e=>by rw[e] at g1;cases g1)
    have a2:=hlive t' (fun e=>by rw[e] at g2;cases g2)
    have b1:ns[t]? =some (ns[t]'(by omega)):=bA _
    have b2:ns[t']? =some (ns[t']'(by omega)):=bA _
    simp only[List.getD_eq_getElem?_getD,b1,b2,Option.getD_some] at h3
    exact(List.getElem?_inj (show t<ns.length by omega) hnd).1 (by rw[b1,b2,h3])
  · refine qP.frozen.Cv.weakD (fun t ht=>?_) hr
    obtain⟨wd,rows,e1,_⟩:=hat t ht
    simp[bare,aH,e1]
end
section
variable {P : Program} {N nL : Nat}
end
end Go.Am
section
namespace Go.Am
def iH (P:Program)(nL:Nat)(σ σ':aA):Prop:=
  ∀ (N:Nat) (w0:World) (W0:Nat→Prop) (L μ:Mu) (a:Act) (w:World),(∀t,nL≤t→t<jD→L t=none)→cz P N w0 W0 L μ σ a w→∃μ',cz P N w0 W0 L μ' σ' a w
theorem iH.refl {P:Program}{nL:Nat}{σ:aA}:iH P nL σ σ:=fun _ _ _ _ μ _ _ _ h=>⟨μ,h⟩
theorem iH.trans {P:Program}{nL:Nat}{σ σ' σ'':aA}(h:iH P nL σ σ')(k:iH P nL σ' σ''):iH P nL σ σ'':=fun N w0 W0 L μ a w hL hs=>let⟨μ',h'⟩:=h N w0 W0 L μ a w hL hs;k N w0 W0 L μ' a w hL h'
theorem lT.fits {P:Program}{nL:Nat}{ρ:Nat→Nat}{F:Nat→Prop}{σ σ':aA}(h:lT nL ρ F σ' σ):iH P nL σ σ':=fun _ _ _ _ _ _ _ hL hs=>let⟨μ',h',_⟩:=h.GF hL hs (.inl ⟨rfl,rfl⟩);⟨μ',h'⟩
theorem fj.fits {P:Program}{N nL:Nat}{c:Code}{Q:Exit→aA→Prop}{σ σ':aA}(h:iH P nL σ σ')(hc:fj P N nL c Q σ'):fj P N nL c Q σ:=fun rd hp w0 W0 L μ a w hL hs=>let⟨μ',h'⟩:=h N w0 W0 L μ a w (fun t h1 h2=>hL.1 t h1 (.inl h2)) hs;hc rd hp w0 W0 L μ' a w hL h'
mutual
/-- Renamed. -/
def qS (ρ:Nat→Nat):AV→AV
  |.own t o l=>.own (ρ t) o l
  |.ptr t i k=>.ptr (ρ t) i k
  |.mapr t=>.mapr (ρ t)
  |.agg cs=>.agg (wh ρ cs)
  |.tup cs=>.tup (wh ρ cs)
  |x=>x
def wh (ρ:Nat→Nat):List AV→List AV
  |[]=>[]
  |x::xs=>qS ρ x::wh ρ xs
end
mutual
/-- It refers to these objects alone. -/
def mV (ts:List Nat):AV→Bool
  |.own t _ _=>ts.contains t
  |.ptr t _ _=>ts.contains t
  |.mapr t=>ts.contains t
  |.agg cs=>rX ts cs
  |.tup cs=>rX ts cs
  |x=>bD x
def rX (ts:List Nat):List AV→Bool
  |[]=>true
  |x::xs=>mV ts x&&rX ts xs
end
section
variable {m : Nat → MS} {F D : Nat → Prop} {ρ : Nat → Nat} {ts : List Nat}
mutual
theorem DS (hD:∀t,t∈ts→D t):∀ (x:AV),mV ts x=true→Cv m ρ D F x (qS ρ x)
  |.own t o l,h=>by simp only[mV,List.contains_iff_mem] at h;simp only[qS];exact .own (hD t h)
  |.ptr t i k,h=>by simp only[mV,List.contains_iff_mem] at h;simp only[qS];exact .ptr (hD t h)
  |.mapr t,h=>by simp only[mV,List.contains_iff_mem] at h;simp only[qS];exact .mapr (hD t h)
  |.fmap _,_=>.same rfl
  |.agg cs,h=>by simp only[mV] at h;simp only[qS];exact .uM (tU hD cs h)
  |.tup cs,h=>by simp only[mV] at h;simp only[qS];exact .uE (tU hD cs h)
  |.any,_=>.any
  |.emp,_=>.same rfl
  |.guess _ _,_=>.same rfl
  |.lit _,_=>.same rfl
  |.sl _ _,h=>by simp only[mV] at h;simp only[qS];exact .same h
  |.fptr _ _,h=>by simp only[mV] at h;simp only[qS];exact .same h
  |.clo _ _ _,h=>by simp only[mV] at h;simp only[qS];exact .same h
theorem tU (hD:∀t,t∈ts→D t):∀ (xs:List AV),rX ts xs=true→ig m ρ D F xs (wh ρ xs)
  |[],_=>.nil
  | x::xs,h=>by
    simp only[rX,bO] at h
    exact .cons (DS hD x h.1) (tU hD xs h.2)
end
end
def D6 (ρ:Nat→Nat):MS→MS
  |.live wd rows ro=>.live wd (wh ρ rows) ro
  |s=>s
def Ii (ts:List Nat):MS→Bool
  |.live _ rows _=>rX ts rows
  |.dead=>true
  |.free=>false
def Cx:MS→Prop
  |.live wd rows _=>bJ wd rows
  |_=>True
def J8 (p:Nat→AV→Prop):List (Nat×AV)→Prop
  |[]=>True
  |(d,x)::r=>p d x∧J8 p r
def allM (p:Nat→MS→Prop):List (Nat×MS)→Prop
  |[]=>True
  |(d,x)::r=>p d x∧allM p r
theorem xA {p:Nat→AV→Prop}:∀ {l:List (Nat×AV)},J8 p l→∀i,cB l i=.any∨p i (cB l i)
  |[],_,i=>.inl rfl
  | (d,x)::r,h,i=>by
    simp only[cB]
    by_cases hi:i=d
    ·subst hi;simp;exact .inr h.1
    · have h':(i==d)=false:=by simpa using hi
      rw[h'];exact xA h.2 i
theorem om {p:Nat→MS→Prop}:∀ {l:List (Nat×MS)},allM p l→∀i,aX l i=.free∨(p i (aX l i)∧i∈l.map (·.1))
  |[],_,i=>.inl rfl
  | (d,x)::r,h,i=>by
    simp only[aX]
    by_cases hi:i=d
    ·subst hi;simp;exact .inr h.1
    · have h':(i==d)=false:=by simpa using hi
      rw[h']
      exact(om h.2 i).imp id fun⟨a,b⟩=>⟨a,by simp only[List.map_cons,dP];exact .inr b⟩
theorem iH.OL {P:Program}{sl sl':List (Nat×AV)}{m m':List (Nat×MS)}(ρ:Nat→Nat)(hs:J8 (fun d x=>mV (m'.map (·.1)) x=true∧cB sl d=qS ρ x) sl')
    (hm:allM (fun t s=>Ii (m'.map (·.1)) s=true∧aX m (ρ t)=D6 ρ s∧Cx s∧aX m' t=s) m') (hnd:((m'.map (·.1)).map ρ).Nodup):iH P 0 (St sl m) (St sl' m'):=by
  have hfree:∀t,t∈m'.map (·.1)→aX m' t≠ .free:=by
    have key:∀ (l:List (Nat×MS)),allM (fun t s=>Ii (m'.map (·.1)) s=true∧aX m (ρ t)=D6 ρ s∧Cx s∧aX m' t=s) l→∀t,t∈l.map (·.1)→aX m' t≠ .free:=by
      intro l
      induction l with
      |nil=>intro _ t h;simp at h
      | cons p r ih=>
        obtain⟨u,s⟩:=p
        intro h t ht
        simp only[List.map_cons,dP] at ht
        rcases ht with rfl|ht
        · rw[h.1.2.2.2]
          intro e
          have:=h.1.1
          rw[e] at this;cases this
        ·exact ih h.2 t ht
    exact key m' hm
  refine lT.fits (ρ:=ρ) (F:=fun _=>False) ⟨fun i=>?_,fun t=>?_,fun t t' wd rows wd' rows' ro' g1 g2 h3=>?_,fun s h=>h.elim,fun t h=>absurd h (Nat.not_lt_zero t)⟩
  · rcases xA hs i with h|⟨h1,h2⟩
    · show Cv _ _ _ _ (cB sl' i) _
      rw[h];exact .any
    · show Cv _ _ _ _ (cB sl' i) (cB sl i)
      rw[h2];exact DS (fun t ht=>hfree t ht) _ h1
  · rcases om hm t with h|⟨⟨h1,h2,h3,_⟩,_⟩
    ·exact .inl h
    · show aX m' t=.free∨_
      cases hs':aX m' t with
      |free=>exact .inl rfl
      |dead=>rw[hs'] at h2;exact .inr (.inl ⟨hs',by show aX m (ρ t)≠ .free;rw[h2];intro h;cases h⟩)
      | live wd rows ro=>
        rw[hs'] at h1 h2 h3
        exact .inr (.inr ⟨wd,rows,wh ρ rows,ro,ro,hs',h2,id,h3,tU (fun t ht=>hfree t ht) rows h1⟩)
  · have h1:aX m' t≠ .free:=fun e=>by have g:aX m' t=.live wd rows false:=g1;rw[e] at g;cases g
    have h2:aX m' t'≠ .free:=fun e=>by have g:aX m' t'=.live wd' rows' ro':=g2;rw[e] at g;cases g
    have a1:t∈m'.map (·.1):=((om hm t).resolve_left h1).2
    have a2:t'∈m'.map (·.1):=((om hm t').resolve_left h2).2
    obtain⟨i,hi⟩:=List.getElem?_of_mem a1
    obtain⟨j,hj⟩:=List.getElem?_of_mem a2
    have hi':((m'.map (·.1)).map ρ)[i]? =some (ρ t):=by rw[fI,hi];rfl
    have hj':((m'.map (·.1)).map ρ)[j]? =some (ρ t'):=by rw[fI,hj];rfl
    have:i=j:=(List.getElem?_inj (bj hi').1 hnd).1 (by rw[hi',hj',h3])
    subst this
    rw[hi] at hj;cases hj;rfl
theorem iH.pick {P:Program}{sl sl':List (Nat×AV)}{m m':List (Nat×MS)}(hs:J8 (fun d x=>mV (m'.map (·.1)) x=true∧cB sl d=x) sl')
    (hm:allM (fun t s=>Ii (m'.map (·.1)) s=true∧aX m t=s∧Cx s∧aX m' t=s) m') (hnd:(m'.map (·.1)).Nodup):iH P 0 (St sl m) (St sl' m'):=by
  have e1:(∀x:AV,qS id x=x):=by
    intro x
    induction x using AV.rec (motive_2:=fun xs=>wh id xs=xs) with
    |agg cs ih=>simp only[qS,ih]
    |tup cs ih=>simp only[qS,ih]
    |nil=>rfl
    |cons x xs ih1 ih2=>simp only[wh,ih1,ih2]
    |_=>intros;rfl
  have e2:∀xs:List AV,wh id xs=xs:=by
    intro xs
    induction xs with
    |nil=>rfl
    |cons x xs ih=>simp only[wh,e1,ih]
  have e3:∀s:MS,D6 id s=s:=by intro s;cases s<;>simp[D6,e2]
  exact iH.OL id (by simpa only[e1] using hs) (by simpa only[e3,id_eq] using hm) (by simpa using hnd)
theorem fj.LL {P:Program}{N nL:Nat}{c:Code}{Q:Exit→aA→Prop}{σ:aA}{ι:Type}(C:ι→aA)(I:ι→Prop)(μ:ι→Nat)(x0:ι)(hI:I x0)(h0:iH P nL σ (C x0))
    (round:∀x,I x→fj P N nL c (Ho (fun σ'=> ∃y,I y∧μ y<μ x∧iH P nL σ' (C y)) Q) (C x)):fj P N nL (.loop c) Q σ:=by
  refine fj.loop (fun n σ=> ∃x,I x∧μ x=n∧iH P nL σ (C x)) ⟨μ x0,x0,hI,rfl,h0⟩ ?_
  rintro n σ ⟨x,hx,rfl,hf⟩
  refine fj.fits hf ((round x hx).mono ?_)
  intro e σ' h
  cases e with
  | normal=>
    obtain⟨y,h1,h2,h3⟩:=h
    exact⟨μ y,h2,y,h1,rfl,h3⟩
  |_=>exact h
end Go.Am
namespace Go.Am
end Go.Am
namespace Go.Am
end Go.Am
end
section
namespace Go.Am
open Go
variable {m : Nat → MS} {ρ : Nat → Nat} {D F : Nat → Prop}
theorem ig.set {a b:List AV}{x y:AV}(h:ig m ρ D F a b)(hx:Cv m ρ D F x y)(n:Nat):ig m ρ D F (a.set n x) (b.set n y):=by
  refine⟨by simp[h.1],fun q c d h1 h2=>?_⟩
  rw[List.getElem?_set] at h1 h2
  by_cases hq:n=q
  · subst hq
    simp only[if_true] at h1 h2
    split at h1
    · split at h2
      ·cases h1;cases h2;exact hx
      ·cases h2
    ·cases h1
  ·rw[if_neg hq] at h1 h2;exact h.2 q c d h1 h2
theorem Cv.P4 {s wd n:Nat}{rows rows':List AV}{ro:Bool}(hF:F s)(hm:m s=.live wd rows ro)(hw':bJ wd rows')(hw:bJ wd rows)(hn:rows'.length=n)(h:ig m ρ D F rows' rows)(hnr:bu rows'=true):Cv m ρ D F (.sl wd rows') (.own s 0 n):=by
  refine .Gz (off:=0) hF hm hw' hw (by have:=h.1;omega) ?_ hnr
  rw[List.drop_zero,sn (by have:=h.1;omega)]
  exact h
theorem Cv.fz {s wd n:Nat}{rows:List AV}{ro:Bool}(hF:F s)(hm:m s=.live wd rows ro)(hw:bJ wd rows)(hn:rows.length=n)(h:bu rows=true):Cv m ρ D F (.sl wd rows) (.own s 0 n):=
  .P4 hF hm hw hw hn (.same h) h
end Go.Am
end
namespace Go.Am
open Go
def mS:List AV→Option (List Value)
  |[]=>some []
  |.lit v::r=>(mS r).map (v:: ·)
  |_::_=>none
theorem pJ {W:Nat→Prop}{μ:Mu}{w:World}:∀ {cs:List AV} {us vs:List Value},mS cs=some us→vs.length=cs.length→(∀ (j:Nat) (c:AV) (v:Value),cs[j]? =some c→vs[j]? =some v→cD W μ w c v)→vs=us
  | [],us,vs,h,hl,_=>by
    simp[mS] at h;subst h;exact List.eq_nil_of_length_eq_zero (by simpa using hl)
  | c :: r,us,vs,h,hl,hr=>by
    cases c with
    | lit x=>
      simp only[mS,Option.map_eq_some_iff] at h
      obtain⟨us',h1,rfl⟩:=h
      cases vs with
      |nil=>simp at hl
      | cons v vs=>
        have:=hr 0 (.lit x) v rfl rfl
        cases this
        have ih:=pJ (W:=W) (μ:=μ) (w:=w) (vs:=vs) h1 (by simpa using hl) (fun j c v a b=>hr (j+1) c v (by simpa using a) (by simpa using b))
        rw[ih]
    |_=>simp[mS] at h
section
variable {P : Program} {N : Nat} {o : Oper} {sl : List (Nat × AV)} {m : List (Nat × MS)} {R : List Nat → AV → List (Nat × MS) → Prop}
theorem iS.He {op:BinOp}{y z:Operand}{t yt:TypeId}{cs ds:List AV}{us vs:List Value}{b:Bool}(ho:o.op=.binOp op t y z yt)(h1:jl sl y=.agg cs)(hc:mS cs=some us)(h2:jl sl z=.agg ds)(hc2:mS ds=some vs)
    (hrun:∀w,((do eqGuard op t y z (.agg us.toArray) (.agg vs.toArray);binOp op t (.agg us.toArray) (.agg vs.toArray):Sem Value)).run P w=.ok (.bool b) w) (hd:cZ N o.dst=true) (h:R [] (.lit (.bool b)) []):iS P N o sl m R:=by
  refine⟨[],.lit (.bool b),[],?_,h⟩
  refine .val (fun σ2 he2 hrd w0 W0 L μ a w hs=>?_) (aJ hd)
  have k1:=hs.eval y
  have k2:=hs.eval z
  rw[he2 y (by simp[ho,Op.operands]),fR,h1] at k1
  rw[he2 z (by simp[ho,Op.operands]),fR,h2] at k2
  have hr:=hrun w
  refine⟨.bool b,?_,.lit⟩
  have e1:a.eval y=.agg us.toArray:=by
    generalize a.eval y=v1 at k1
    cases k1 with
    |agg a1 a2=>rw[pJ hc a1 a2]
  have e2:a.eval z=.agg vs.toArray:=by
    generalize a.eval z=v1 at k2
    cases k2 with
    |agg a1 a2=>rw[pJ hc2 a1 a2]
  simp only[execOp,ho,e1,e2]
  simp only[Sem.run_bind] at hr ⊢
  generalize(eqGuard op t y z (.agg us.toArray) (.agg vs.toArray)).run P w=q at hr ⊢
  cases q<;>simp_all[Result.andThen]
theorem iS.pure {val:Operand→Value}{v:Value}(hv:∀y∈o.op.operands,jl sl y=.lit (val y))(hrun:∀ (e:Operand→Value),(∀y∈o.op.operands,e y=val y)→∀w,(execOp e o).run P w=.ok (.value v) w)(hd:cZ N o.dst=true)(h:R [] (.lit v) []):iS P N o sl m R:=by
  refine⟨[],.lit v,[],?_,h⟩
  refine .val (fun σ2 he2 hrd w0 W0 L μ a w hs=>⟨v,hrun _ (fun y hy=>?_) w,.lit⟩) (aJ hd)
  have k:=hs.eval y
  rw[he2 y hy,fR,hv y hy] at k
  exact k.val
end
end Go.Am
