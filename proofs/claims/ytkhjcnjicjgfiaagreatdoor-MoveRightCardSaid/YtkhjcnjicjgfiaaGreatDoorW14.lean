/- Models, plain laws and contracts of functions of the given program; conditions as stated in each theorem. By an AI agent. -/
import Derived.Test.YtkhjcnjicjgfiaaGreatDoorW13
set_option linter.unusedSimpArgs false
set_option linter.unusedVariables false
namespace Go.Proofs.Heir
open Go Go.Am Go.RowKit Go.Lib
set_option maxRecDepth 100000
set_option maxHeartbeats 8000000
theorem uL (p:UInt8→Bool)(h:(List.range 256).all (fun n=>p (UInt8.ofNat n))=true)(c:UInt8):p c=true:=by
 have:=List.all_eq_true.1 h c.toNat (List.mem_range.2 (UInt8.toNat_lt c))
 simpa using this
theorem EG (c:UInt8):jk (jk c)=jk c:=by
 have:=uL (fun c=>decide (jk (jk c)=jk c)) (by decide+kernel) c
 simpa using this
theorem Du (c:UInt8):ij (jk c)=ij c:=by
 have:=uL (fun c=>decide (ij (jk c)=ij c)) (by decide+kernel) c
 simpa using this
theorem Gk (s:ByteArray):dQ (dQ s)=dQ s:=by
 unfold dQ gA
 simp only[List.map_map]
 congr 2
 apply List.map_congr_left
 intro c _
 exact EG c
theorem Aw (l:List UInt8):lW (gA l)=lW l:=by
 cases l with
 |nil=>rfl
 | cons c r=>
   have:=uL (fun c=>decide (lW [jk c]=lW [c])) (by decide+kernel) c
   exact of_decide_eq_true this
theorem Ad (s:ByteArray):cm (dQ s)=cm s:=by
 unfold cm iz
 have h1:(dQ s).data.toList=gA s.data.toList:=rfl
 rw[h1,Aw]
 have h2:(gA s.data.toList).length=s.data.toList.length:=by unfold gA;simp
 have h3:(gA s.data.toList).all ij=s.data.toList.all ij:=by
  unfold gA
  rw[List.all_map]
  congr 1
  funext c
  exact Du c
 rw[h2,h3]
def bJ (n:Int):AV:=ah n
def EE (n:Int):Value:=.int .i64 n
@[reducible] def bY (l : List Int) : AV := .sl 1 (l.map bJ)
theorem ct {l:List Int}{k:Nat}{x:Int}(h:l[k]? =some x):(l.map bJ)[k]? =some (ah x):=by rw[fZ,h];rfl
structure ai where
 kind:Int
 name:ByteArray
 is:ByteArray
 data:ByteArray
 attrs:List AttrM
 parent:Int
 kids:List Int
 host:Int
 under:Int
 doc:Int
structure ForM where
 nodes:List ai
 most:Int
def EF:ai:=⟨0,⟨#[]⟩,⟨#[]⟩,⟨#[]⟩,[],0,[],0,0,0⟩
def nd (l:List ai)(n:Int):ai:=(l[n.toNat]?).getD EF
def af (l:List ai)(n:Int):Bool:=decide (0≤n)&&decide (n< (l.length:Int))
def gL (l:List ai)(n k:Int):Bool:=af l n&&decide ((nd l n).kind=k)
def dS (k:Int):Bool:=decide (k=0)||decide (k=1)||decide (k=3)||decide (k=4)
def qz (l:List Int)(n:Int):Bool:=decide (n∈l)
def cZ (x:ai):Int:=if x.parent=-1 then x.host else x.parent
def o3 (l:List ai)(n:Int)(x:ai):Bool:=gL l x.doc 0&&(decide (x.kind≠0)||decide (x.doc=n))
def ot (l:List ai)(n:Int)(x:ai):Bool:=decide (x.parent=-1)||((decide (x.kind=1)||decide (x.kind=2))&&af l x.parent&&dS (nd l x.parent).kind&&qz (nd l x.parent).kids n)
def zC (l:List ai)(n:Int)(x:ai)(pre:List Int)(c:Int):Bool:=
 af l c&& !qz pre c&&decide ((nd l c).parent=n)&&decide ((nd l c).doc=x.doc)&&(decide ((nd l c).kind=1)||(decide ((nd l c).kind=2)&&decide (x.kind≠0)))
def kS (l:List ai)(n:Int)(x:ai):List Int→List Int→Bool
 |_,[]=>true
 |pre,c::r=>zC l n x pre c&&kS l n x (pre++ [c]) r
def cA (l:List ai)(cs:List Int):Nat:=cs.countP (fun c=>decide ((nd l c).kind=1))
def kN (l:List ai)(n:Int)(x:ai):Bool:=
 kS l n x [] x.kids&&((dS x.kind||decide (x.kids=[]))&&(decide (x.kind≠0)||decide (cA l x.kids≤1)))
def eL (l:List ai)(n:Int)(x:ai):Bool:=
 (if x.kind=4 then gL l x.host 1&&decide ((nd l x.host).under=n)&&decide ((nd l x.host).doc=x.doc) else decide (x.host=-1))&&
 (decide (x.under=-1)||(decide (x.kind=1)&&gL l x.under 4&&decide ((nd l x.under).host=n)))
def dJ (l:List ai):Nat→Int→Bool
 |0,_=>false
 |m+1,n=>if cZ (nd l n)=-1 then true else dJ l m (cZ (nd l n))
def fV (x:ai):Bool:=
 if x.kind=1 then cm x.name&&decide (dQ x.name=x.name)&&(decide (x.is=⟨#[]⟩)||dA x.is)&&decide (x.data=⟨#[]⟩)&&c6 x.attrs
 else if x.kind=2 then decide (x.data.size≤200)&&decide (x.name=⟨#[]⟩)&&decide (x.is=⟨#[]⟩)&&decide (x.attrs=[])
 else if x.kind=0∨x.kind=3∨x.kind=4 then decide (x.name=⟨#[]⟩)&&decide (x.is=⟨#[]⟩)&&decide (x.data=⟨#[]⟩)&&decide (x.attrs=[])
 else false
def cN (l:List ai)(n:Int)(x:ai):Bool:=fV x&&(o3 l n x&&(ot l n x&&(kN l n x&&eL l n x)))
def jh (f:ForM):Bool:=decide (1≤f.most)&&decide (f.most≤400)&&decide (1≤f.nodes.length)&&decide ((f.nodes.length:Int)≤f.most)&&decide ((nd f.nodes 0).kind=0)
def mj {α:Type}(p:Nat→α→Bool):Nat→List α→Bool
 |_,[]=>true
 |i,x::r=>p i x&&mj p (i+1) r
def bC (f:ForM):Bool:=jh f&&(mj (fun k x=>cN f.nodes k x) 0 f.nodes&&mj (fun k _=>dJ f.nodes f.nodes.length k) 0 f.nodes)
def uD (f:ForM):Bool:=decide (f.nodes.length≤60)&&f.nodes.all (fun x=>decide (x.kids.length≤60)&&decide (x.attrs.length≤60)&&decide (x.name.size≤300))
structure bq (l:List ai):Prop where
 len:l.length≤64
 kids:∀x∈l,x.kids.length≤60
 attrs:∀x∈l,x.attrs.length≤60
 name:∀x∈l,x.name.size≤300
theorem wS {f:ForM}(h:uD f=true):bq f.nodes:=by
 unfold uD at h
 simp only[bg,aP,List.all_eq_true] at h
 obtain⟨h1,h2⟩:=h
 exact⟨by omega,fun x hx=>(h2 x hx).1.1,fun x hx=>(h2 x hx).1.2,fun x hx=>(h2 x hx).2⟩
theorem cI {l:List ai}{k:Nat}{x:ai}(h:l[k]? =some x):nd l (k:Int)=x:=by unfold nd;rw[Int.toNat_natCast,h];rfl
theorem fR {l:List ai}{k:Nat}{x:ai}(h:l[k]? =some x):af l (k:Int)=true:=by
 unfold af
 have:=(aZ h).1
 simp;omega
theorem aI {l:List ai}{n:Int}:af l n=true↔ ∃ (k:Nat) (x:ai),n=(k:Int)∧l[k]? =some x∧nd l n=x:=by
 constructor
 ·intro h
  unfold af at h
  simp only[bg,aP] at h
  have hk:n.toNat<l.length:=by omega
  have hn:n=(n.toNat:Int):=by omega
  refine⟨n.toNat,l[n.toNat],hn,bH hk,?_⟩
  unfold nd;rw[bH hk];rfl
 ·rintro⟨k,x,rfl,h,_⟩
  exact fR h
theorem jE {α:Type}{p:Nat→α→Bool}:∀ {i:Nat} {l:List α},mj p i l=true↔ ∀k x,l[k]? =some x→p (i+k) x=true
 |i,[]=>by simp[mj]
 | i,a::r=>by
   simp only[mj,bg,jE (i:=i+1) (l:=r)]
   constructor
   ·rintro⟨h1,h2⟩ k x hx
    cases k with
    |zero=>simp at hx;subst hx;exact h1
    |succ k=>have:=h2 k x (by simpa using hx);rw[show i+ (k+1)=i+1+k from by omega];exact this
   ·intro h
    refine⟨h 0 a rfl,fun k x hx=>?_⟩
    have:=h (k+1) x (by simpa using hx)
    rw[show i+1+k=i+ (k+1) from by omega];exact this
@[reducible] def aG (x : ai) : AV := .agg [ah x.kind, cn x.name, cn x.is, cn x.data, cO x.attrs, ah x.parent, bY x.kids, ah x.host, ah x.under, ah x.doc]
def bM (x:ai):AV:=aG x
@[reducible] def oU (l : List ai) : AV := .sl 10 (l.map bM)
@[reducible] def aN (f : ForM) : AV := .agg [oU f.nodes, ah f.most]
theorem az {l:List ai}{k:Nat}{x:ai}(h:l[k]? =some x):(l.map bM)[k]? =some (aG x):=by rw[fZ,h];rfl
end Go.Proofs.Heir
section
namespace Go.Proofs.Heir
open Go Go.Am Go.RowKit Go.Lib
set_option maxRecDepth 100000
set_option maxHeartbeats 8000000
def jV (l:List ai):Nat→Int→Bool
 |0,_=>false
 |m+1,n=>if(nd l n).parent=-1 then true else jV l m (nd l n).parent
def uT (l:List ai):Nat→Int→List Int
 |0,_=>[]
 |m+1,n=>n::if(nd l n).parent=-1 then[] else uT l m (nd l n).parent
def bQ (l:List ai):Nat→Int→List Int
 |0,_=>[]
 |m+1,n=>n::(nd l n).kids.flatMap (bQ l m)
def bT (l:List ai)(n:Int):List Int:=uT l l.length n
theorem jf {l:List ai}:∀ {m:Nat} {n:Int},dJ l m n=true→jV l m n=true
 |0,n,h=>by simp[dJ] at h
 | m +1,n,h=>by
   unfold jV
   by_cases hp:(nd l n).parent=-1
   ·rw[if_pos hp]
   ·rw[if_neg hp]
    have hu:cZ (nd l n)=(nd l n).parent:=if_neg hp
    unfold dJ at h
    rw[hu,if_neg hp] at h
    exact jf h
theorem s5 (l:List ai):∀ (m:Nat) (n:Int),(uT l m n).length≤m
 |0,_=>Nat.le_refl _
 | m +1,n=>by
   unfold uT
   split
   ·simp
   ·have:=s5 l m (nd l n).parent
    simp;omega
theorem ql {l:List ai}:∀ {m k:Nat} {n:Int},jV l m n=true→m≤k→uT l k n=uT l m n
 |0,k,n,h,_=>by simp[jV] at h
 | m +1,k,n,h,hk=>by
   obtain⟨k,rfl⟩:∃j,k=j+1:=⟨k-1,by omega⟩
   unfold jV at h
   unfold uT
   by_cases hp:(nd l n).parent=-1
   ·rw[if_pos hp,if_pos hp]
   ·rw[if_neg hp] at h
    rw[if_neg hp,if_neg hp,ql h (by omega)]
structure Tree (l:List ai):Prop where
 par:∀n,af l n=true→(nd l n).parent≠-1→af l (nd l n).parent=true∧n∈ (nd l (nd l n).parent).kids
 kid:∀n,af l n=true→∀k∈ (nd l n).kids,af l k=true∧(nd l k).parent=n
 dup:∀n,af l n=true→(nd l n).kids.Nodup
 fin:∀n,af l n=true→jV l l.length n=true
 Ib:∀n,af l n=true→fV (nd l n)=true
theorem br {l:List ai}{n:Int}(h:af l n=true):0≤n∧n< (l.length:Int):=by
 unfold af at h;simpa using h
variable {l : List ai}
theorem ik (T:Tree l){P:Int→Prop}(h0:∀n,af l n=true→(nd l n).parent=-1→P n)(h1:∀n,af l n=true→(nd l n).parent≠-1→af l (nd l n).parent=true→P (nd l n).parent→P n):∀n,af l n=true→P n:=by
 have H:∀ (m:Nat) (n:Int),af l n=true→jV l m n=true→P n:=by
  intro m
  induction m with
  |zero=>intro n _ h;simp[jV] at h
  | succ m ih=>
    intro n hn h
    unfold jV at h
    by_cases hp:(nd l n).parent=-1
    ·exact h0 n hn hp
    ·rw[if_neg hp] at h
     have hq:=(T.par n hn hp).1
     exact h1 n hn hp hq (ih _ hq h)
 exact fun n hn=>H _ n hn (T.fin n hn)
theorem eR (T:Tree l){n:Int}(hn:af l n=true)(hp:(nd l n).parent=-1):bT l n=[n]:=by
 have:=br hn
 obtain⟨m,hm⟩:∃m,l.length=m+1:=⟨l.length-1,by omega⟩
 unfold bT;rw[hm];unfold uT;rw[if_pos hp]
theorem cB (T:Tree l){n:Int}(hn:af l n=true)(hp:(nd l n).parent≠-1):bT l n=n::bT l (nd l n).parent:=by
 have:=br hn
 obtain⟨m,hm⟩:∃m,l.length=m+1:=⟨l.length-1,by omega⟩
 have hf:=T.fin n hn
 unfold bT;rw[hm] at hf ⊢
 unfold jV at hf
 rw[if_neg hp] at hf
 rw[uT,if_neg hp,ql hf (Nat.le_succ m)]
theorem eA (T:Tree l){n k:Int}(hn:af l n=true)(hk:k∈ (nd l n).kids):bT l k=k::bT l n:=by
 have h:=T.kid n hn k hk
 have h0:=br hn
 have hp:(nd l k).parent≠-1:=by rw[h.2];omega
 rw[cB T h.1 hp,h.2]
theorem dV (T:Tree l){n:Int}(hn:af l n=true):∃r,bT l n=n::r:=by
 by_cases hp:(nd l n).parent=-1
 ·exact⟨[],eR T hn hp⟩
 ·exact⟨_,cB T hn hp⟩
theorem cM (T:Tree l){n:Int}(hn:af l n=true):n∈bT l n:=by
 obtain⟨r,hr⟩:=dV T hn;rw[hr];exact gE
theorem kr (n:Int):(bT l n).length≤l.length:=s5 l _ n
theorem jD (T:Tree l):∀n,af l n=true→∀a∈bT l n,af l a=true:=by
 refine ik T (fun n hn hp a ha=>?_) (fun n hn hp hq ih a ha=>?_)
 ·rw[eR T hn hp] at ha;rw[je.1 ha];exact hn
 ·rw[cB T hn hp] at ha
  rcases eB.1 ha with rfl|h
  ·exact hn
  ·exact ih a h
theorem ia (T:Tree l):∀n,af l n=true→∀a∈bT l n,∃t,bT l n=t++bT l a:=by
 refine ik T (fun n hn hp a ha=>?_) (fun n hn hp hq ih a ha=>?_)
 ·have h:=ha;rw[eR T hn hp] at h;rw[je.1 h];exact⟨[],rfl⟩
 ·have h:=ha
  rw[cB T hn hp] at h
  rcases eB.1 h with rfl|h
  ·exact⟨[],rfl⟩
  ·obtain⟨t,ht⟩:=ih a h
   exact⟨n::t,by rw[cB T hn hp,ht];rfl⟩
theorem nT (T:Tree l){a b c:Int}(hc:af l c=true)(h1:a∈bT l b)(h2:b∈bT l c):a∈bT l c:=by
 obtain⟨t,ht⟩:=ia T c hc b h2
 rw[ht];exact List.mem_append_right _ h1
theorem A4 (T:Tree l){n a b:Int}(hn:af l n=true)(ha:a∈bT l n)(hb:b∈bT l n)(he:(bT l a).length=(bT l b).length):a=b:=by
 obtain⟨t,ht⟩:=ia T n hn a ha
 obtain⟨s,hs⟩:=ia T n hn b hb
 rw[ht] at hs
 have h:=(List.append_inj' hs he).2
 obtain⟨r,hr⟩:=dV T (jD T n hn a ha)
 obtain⟨q,hq⟩:=dV T (jD T n hn b hb)
 rw[hr,hq] at h
 exact(List.cons.inj h).1
theorem dL (T:Tree l):∀ (m:Nat) (n:Int),af l n=true→∀b∈bQ l m n,af l b=true∧n∈bT l b
 |0,n,_,b,hb=>by simp[bQ] at hb
 | m +1,n,hn,b,hb=>by
   unfold bQ at hb
   rcases eB.1 hb with rfl|h
   ·exact⟨hn,cM T hn⟩
   ·obtain⟨k,hk,hbk⟩:=List.mem_flatMap.1 h
    have hkk:=T.kid n hn k hk
    obtain⟨h1,h2⟩:=dL T m k hkk.1 b hbk
    refine⟨h1,nT T h1 ?_ h2⟩
    rw[eA T hn hk]
    exact fJ _ (cM T hn)
theorem qt (T:Tree l):∀ (m:Nat) (n:Int),af l n=true→l.length+1≤m+ (bT l n).length→∀x∈bQ l m n,∀k∈ (nd l x).kids,k∈bQ l m n
 |0,n,_,_,x,hx,_,_=>by simp[bQ] at hx
 | m +1,n,hn,hm,x,hx,k,hk=>by
   unfold bQ at hx ⊢
   refine fJ _ (List.mem_flatMap.2 ?_)
   rcases eB.1 hx with rfl|h
   ·have hkk:=T.kid x hn k hk
    have h1:=kr (l:=l) k
    rw[eA T hn hk] at h1
    have h2:(bT l x).length+1≤l.length:=h1
    obtain⟨j,hj⟩:∃j,m=j+1:=⟨m-1,by omega⟩
    refine⟨k,hk,?_⟩
    rw[hj];unfold bQ;exact gE
   ·obtain⟨c,hc,hxc⟩:=List.mem_flatMap.1 h
    have hcc:=T.kid n hn c hc
    refine⟨c,hc,qt T m c hcc.1 ?_ x hxc k hk⟩
    rw[eA T hn hc];simp;omega
theorem xd (T:Tree l){m:Nat}{n:Int}(hn:af l n=true)(hm:l.length+1≤m+ (bT l n).length):∀b,af l b=true→n∈bT l b→b∈bQ l m n:=by
 have hself:n∈bQ l m n:=by
  have:=kr (l:=l) n
  obtain⟨j,hj⟩:∃j,m=j+1:=⟨m-1,by omega⟩
  rw[hj];unfold bQ;exact gE
 refine ik T (fun b hb hp h=>?_) (fun b hb hp hq ih h=>?_)
 ·rw[eR T hb hp] at h;rw[←je.1 h];exact hself
 ·rw[cB T hb hp] at h
  rcases eB.1 h with rfl|h
  ·exact hself
  ·exact qt T m n hn hm _ (ih h) _ (T.par b hb hp).2
theorem lC (T:Tree l){n:Int}(hn:af l n=true):l.length+1≤l.length+ (bT l n).length:=by
 obtain⟨r,hr⟩:=dV T hn
 rw[hr];simp
theorem kF (T:Tree l){a b:Int}(ha:af l a=true)(hb:af l b=true):b∈bQ l l.length a↔a∈bT l b:=
 ⟨fun h=>(dL T _ a ha b h).2,fun h=>xd T ha (lC T ha) b hb h⟩
theorem lA (T:Tree l):∀ (m:Nat) (n:Int),af l n=true→(bQ l m n).Nodup
 |0,_,_=>List.nodup_nil
 | m +1,n,hn=>by
   unfold bQ
   refine List.nodup_cons.2 ⟨fun h=>?_,?_⟩
   ·obtain⟨k,hk,hnk⟩:=List.mem_flatMap.1 h
    have hkk:=T.kid n hn k hk
    have h1:=(dL T m k hkk.1 n hnk).2
    obtain⟨t,ht⟩:=ia T n hn k h1
    have h2:=congrArg List.length ht
    rw[eA T hn hk] at h2
    simp at h2
    omega
   ·refine List.pairwise_flatMap.2 ⟨fun k hk=>lA T m k (T.kid n hn k hk).1,?_⟩
    refine List.Pairwise.imp_of_mem (fun{a b} ha hb hab x hx y hy e=>?_) (T.dup n hn)
    subst e
    have h1:=dL T m a (T.kid n hn a ha).1 x hx
    have h2:=dL T m b (T.kid n hn b hb).1 x hy
    refine hab (A4 T h1.1 h1.2 h2.2 ?_)
    rw[eA T hn ha,eA T hn hb];rfl
theorem vW:∀ (s t:List Int),t.Nodup→(∀x∈t,x∈s)→t.length≤s.length
 | [],t,_,h=>by
   cases t with
   |nil=>exact Nat.le_refl _
   |cons a r=>exact absurd (h a gE) (by simp)
 | a::s,t,hd,h=>by
   have h1:=vW s (t.erase a) (hd.erase a) (fun x hx=>by
   have h2:=(hd.mem_erase_iff).1 hx
   rcases eB.1 (h x h2.2) with e|e
   ·exact absurd e h2.1
   ·exact e)
   have h3:t.length≤ (t.erase a).length+1:=by rw[List.length_erase];split<;>omega
   simp;omega
theorem nC {t:List Int}{n:Nat}(hd:t.Nodup)(h:∀x∈t,0≤x∧x< (n:Int)):t.length≤n:=by
 have:=vW ((List.range n).map (fun k:Nat=>(k:Int))) t hd (fun x hx=>by
  have:=h x hx
  exact List.mem_map.2 ⟨x.toNat,List.mem_range.2 (by omega),by omega⟩)
 simpa using this
theorem jx (T:Tree l)(m:Nat){n:Int}(hn:af l n=true):(bQ l m n).length≤l.length:=
 nC (lA T m n hn) fun x hx=>br (dL T m n hn x hx).1
def uG (l:List ai)(n:Int)(x:ai)(c:Int):Bool:=
 af l c&&(decide ((nd l c).parent=n)&&(decide ((nd l c).doc=x.doc)&&(decide ((nd l c).kind=1)||(decide ((nd l c).kind=2)&&decide (x.kind≠0)))))
theorem gI {n:Int}{x:ai}:∀ {cs pre:List Int},kS l n x pre cs=true↔ (∀c∈cs,uG l n x c=true)∧cs.Nodup∧(∀c∈cs,c∉pre)
 |[],pre=>by simp[kS]
 | a ::r,pre=>by
   have hk:zC l n x pre a=true↔uG l n x a=true∧a∉pre:=by
    unfold zC uG qz
    simp only[bg,dw,aP,Bool.not_eq_true',cj]
    constructor
    ·rintro⟨⟨⟨⟨h1,h2⟩,h3⟩,h4⟩,h5⟩;exact⟨⟨h1,h3,h4,h5⟩,h2⟩
    ·rintro⟨⟨h1,h3,h4,h5⟩,h2⟩;exact⟨⟨⟨⟨h1,h2⟩,h3⟩,h4⟩,h5⟩
   unfold kS
   rw[bg,hk,gI,List.nodup_cons]
   constructor
   ·rintro⟨⟨h1,h2⟩,h3,h4,h5⟩
    refine⟨fun c hc=>?_,⟨fun h=>?_,h4⟩,fun c hc=>?_⟩
    ·rcases eB.1 hc with rfl|h
     ·exact h1
     ·exact h3 c h
    ·exact h5 a h (by simp)
    ·rcases eB.1 hc with rfl|h
     ·exact h2
     ·exact fun h6=>h5 c h (List.mem_append_left _ h6)
   ·rintro⟨h1,⟨h2,h3⟩,h4⟩
    refine⟨⟨h1 a gE,h4 a gE⟩,fun c hc=>h1 c (fJ _ hc),h3,fun c hc h=>?_⟩
    rcases List.mem_append.1 h with h|h
    ·exact h4 c (fJ _ hc) h
    ·rw[je] at h;subst h;exact h2 hc
theorem rG {f:ForM}(h:bC f=true):∀n,af f.nodes n=true→cN f.nodes n (nd f.nodes n)=true:=by
 intro n hn
 obtain⟨k,x,rfl,hk,hx⟩:=aI.1 hn
 unfold bC at h
 simp only[bg] at h
 have:=jE.1 h.2.1 k x hk
 rw[hx];simpa using this
theorem sZ {f:ForM}(h:bC f=true):∀n,af f.nodes n=true→dJ f.nodes f.nodes.length n=true:=by
 intro n hn
 obtain⟨k,x,rfl,hk,hx⟩:=aI.1 hn
 unfold bC at h
 simp only[bg] at h
 simpa using jE.1 h.2.2 k x hk
theorem jz {f:ForM}(h:bC f=true):Tree f.nodes:=by
 have hN:=rG h
 have hB:∀n,af f.nodes n=true→(∀c∈ (nd f.nodes n).kids,uG f.nodes n (nd f.nodes n) c=true)∧(nd f.nodes n).kids.Nodup:=by
  intro n hn
  have h1:=hN n hn
  unfold cN kN at h1
  simp only[bg] at h1
  have:=gI.1 h1.2.2.2.1.1
  exact⟨this.1,this.2.1⟩
 refine⟨fun n hn hp=>?_,fun n hn k hk=>?_,fun n hn=>(hB n hn).2,fun n hn=>jf (sZ h n hn),fun n hn=>?_⟩
 ·have h1:=hN n hn
  unfold cN ot at h1
  simp only[bg,dw,aP] at h1
  rcases h1.2.2.1 with h2|h2
  ·exact absurd h2 hp
  ·refine⟨h2.1.1.2,?_⟩
   have:=h2.2
   unfold qz at this;simpa using this
 ·have h1:=(hB n hn).1 k hk
  unfold uG at h1
  simp only[bg,aP] at h1
  exact⟨h1.1,h1.2.1⟩
 ·have h1:=hN n hn
  unfold cN at h1
  simp only[bg] at h1
  exact h1.1
end Go.Proofs.Heir
end
section
namespace Go.Proofs.Heir
open Go Go.Am Go.RowKit Go.Lib
set_option maxRecDepth 100000
set_option maxHeartbeats 8000000
variable {l : List ai}
theorem zb (T:Tree l){n:Int}(hn:af l n=true):(nd l n).kind=1∨((nd l n).kind≠1∧(nd l n).name=⟨#[]⟩∧(nd l n).attrs=[]):=by
 have h:=T.Ib n hn
 unfold fV at h
 by_cases e1:(nd l n).kind=1
 ·exact .inl e1
 ·right
  rw[if_neg e1] at h
  refine⟨e1,?_⟩
  split at h
  ·simp only[bg,aP] at h
   exact⟨h.1.1.2,h.2⟩
  ·split at h
   ·simp only[bg,aP] at h
    exact⟨h.1.1.1,h.2⟩
   ·cases h
end Go.Proofs.Heir
end
section
namespace Go.Proofs.Heir
open Go Go.Am Go.RowKit Go.Lib
set_option maxRecDepth 100000
set_option maxHeartbeats 8000000
def gi (g:Int→Int):Nat→Int→Bool
 |0,_=>false
 |m+1,n=>if g n=-1 then true else gi g m (g n)
def rW (g:Int→Int):Nat→Int→List Int
 |0,_=>[]
 |m+1,n=>n::if g n=-1 then[] else rW g m (g n)
theorem vS {g:Int→Int}:∀ {m k:Nat} {n:Int},gi g m n=true→m≤k→rW g k n=rW g m n∧gi g k n=true
 |0,k,n,h,_=>by simp[gi] at h
 | m +1,k,n,h,hk=>by
   obtain⟨k,rfl⟩:∃j,k=j+1:=⟨k-1,by omega⟩
   unfold gi at h ⊢
   unfold rW
   by_cases hp:g n=-1
   ·rw[if_pos hp,if_pos hp,if_pos hp];exact⟨rfl,rfl⟩
   ·rw[if_neg hp] at h
    rw[if_neg hp,if_neg hp,if_neg hp,(vS h (Nat.le_of_succ_le_succ hk)).1]
    exact⟨rfl,(vS h (Nat.le_of_succ_le_succ hk)).2⟩
theorem LD {g:Int→Int}:∀ {m:Nat} {n a:Int},gi g m n=true→a∈rW g m n→gi g m a=true∧∃t,rW g m n=t++rW g m a
 |0,n,a,h,_=>by simp[gi] at h
 | m + 1,n,a,h,ha=>by
   by_cases e:a=n
   ·subst e;exact⟨h,[],rfl⟩
   ·unfold gi at h
    unfold rW at ha
    by_cases hp:g n=-1
    ·rw[if_pos hp] at ha;exact absurd (je.1 ha) e
    ·rw[if_neg hp] at h ha
     rcases eB.1 ha with h1|h1
     ·exact absurd h1 e
     ·obtain⟨h2,t,ht⟩:=LD h h1
      have h3:=vS h2 (Nat.le_succ m)
      refine⟨h3.2,n::t,?_⟩
      rw[show m.succ=m+1 from rfl] at h3
      rw[h3.1,rW,if_neg hp,ht];rfl
theorem Ky {g:Int→Int}:∀ {m:Nat} {n:Int},gi g m n=true→(rW g m n).Nodup
 |0,n,h=>by simp[gi] at h
 | m +1,n,h=>by
   have h0:=h
   unfold gi at h
   unfold rW
   by_cases hp:g n=-1
   ·rw[if_pos hp];simp
   ·rw[if_neg hp] at h ⊢
    refine List.nodup_cons.2 ⟨fun hin=>?_,Ky h⟩
    obtain⟨h2,t,ht⟩:=LD h hin
    have h3:=(vS h2 (Nat.le_succ m)).1
    rw[show m.succ=m+1 from rfl,rW,if_neg hp,ht] at h3
    have:=congrArg List.length h3
    simp at this
    omega
theorem Ks {g:Int→Int}:∀ {m k:Nat} {n:Int},gi g m n=true→(rW g m n).length≤k→gi g k n=true
 |0,k,n,h,_=>by simp[gi] at h
 |m+1,0,n,_,hk=>by unfold rW at hk;simp at hk
 | m +1,k+1,n,h,hk=>by
   unfold gi at h ⊢
   unfold rW at hk
   by_cases hp:g n=-1
   ·rw[if_pos hp]
   ·rw[if_neg hp] at h hk ⊢
    exact Ks h (by simp at hk;omega)
theorem Ml {g:Int→Int}{P:Int→Prop}(hg:∀n,P n→g n≠-1→P (g n)):∀ {m:Nat} {n:Int},P n→∀a∈rW g m n,P a
 |0,n,_,a,ha=>by simp[rW] at ha
 | m +1,n,hn,a,ha=>by
   unfold rW at ha
   rcases eB.1 ha with rfl|h
   ·exact hn
   ·by_cases hp:g n=-1
    ·rw[if_pos hp] at h;simp at h
    ·rw[if_neg hp] at h
     exact Ml hg (hg n hn hp) a h
theorem gY (l:List ai):∀ (m:Nat) (n:Int),dJ l m n=gi (fun n=>cZ (nd l n)) m n
 |0,_=>rfl
 |m+1,n=>by unfold dJ gi;rw[gY l m]
theorem Br {l:List ai}(hup:∀n,af l n=true→cZ (nd l n)=-1∨af l (cZ (nd l n))=true){n:Int}(hn:af l n=true):dJ l (l.length+1) n=dJ l l.length n:=by
 rw[gY,gY,Bool.eq_iff_iff]
 constructor
 ·intro h
  refine Ks h (nC (Ky h) fun a ha=>?_)
  have:=Ml (P:=fun n=>af l n=true) (fun n hn hne=>(hup n hn).resolve_left hne) hn a ha
  exact br this
 ·intro h;exact(vS h (Nat.le_succ _)).2
def u7 (l:List ai)(n:Int)(x:ai):Bool:=(decide (0≤x.kind)&&decide (x.kind≤4))&&(gL l x.doc 0&&(decide (x.kind≠0)||decide (x.doc=n)))
def uZ (l:List ai)(n:Int)(x:ai):Bool:=decide (x.parent=-1)||((decide (x.kind=1)||decide (x.kind=2))&&(af l x.parent&&(decide ((nd l x.parent).kind≠2)&&decide ((nd l x.parent).kids.count n=1))))
def rS (l:List ai)(n:Int)(x:ai)(c:Int):Bool:=af l c&&(decide (x.kids.count c=1)&&((decide ((nd l c).kind=1)||decide ((nd l c).kind=2))&&(decide ((nd l c).parent=n)&&decide ((nd l c).doc=x.doc))))
def kK (l:List ai)(x:ai):Bool:=(decide (x.kind≠2)||decide (x.kids=[]))&&(decide (x.kind≠0)||(decide (cA l x.kids≤1)&&decide (x.kids.length≤cA l x.kids)))
def tD (x:ai):Bool:=
 if x.kind=1 then cm x.name&&decide (dQ x.name=x.name)&&(decide (x.is=⟨#[]⟩)||dA x.is)&&decide (x.data=⟨#[]⟩)&&c6 x.attrs
 else decide (x.name=⟨#[]⟩)&&decide (x.is=⟨#[]⟩)&&decide (x.attrs=[])&&(decide (x.data=⟨#[]⟩)||(decide (x.kind=2)&&decide (x.data.size≤200)))
def fO (l:List ai)(n:Int)(x:ai):Bool:=u7 l n x&&(uZ l n x&&(x.kids.all (rS l n x)&&(kK l x&&(eL l n x&&tD x))))
def xg (f:ForM):Bool:=jh f&&(mj (fun k x=>fO f.nodes k x) 0 f.nodes&&mj (fun k _=>dJ f.nodes (f.nodes.length+1) k) 0 f.nodes)
theorem CF {cs:List Int}(h:cs.Nodup)(c:Int):cs.count c≤1:=by
 induction cs with
 |nil=>simp
 | cons a r ih=>
   rw[List.nodup_cons] at h
   rw[List.count_cons]
   by_cases e:a=c
   ·subst e
    rw[List.count_eq_zero.2 h.1];simp
   ·simp[e];exact ih h.2
theorem count_one {cs:List Int}(h:cs.Nodup){c:Int}(hc:c∈cs):cs.count c=1:=by
 have h1:=CF h c
 have h2:=List.count_pos_iff.2 hc
 omega
theorem sJ {cs:List Int}(h:∀c,cs.count c≤1):cs.Nodup:=by
 induction cs with
 |nil=>exact List.nodup_nil
 | cons a r ih=>
   refine List.nodup_cons.2 ⟨fun hin=>?_,ih fun c=>?_⟩
   ·have h1:=h a
    rw[List.count_cons_self] at h1
    have h2:=List.count_pos_iff.2 hin
    omega
   ·refine Nat.le_trans ?_ (h c)
    rw[List.count_cons];omega
theorem l9 {x:ai}:fV x=true↔ (0≤x.kind∧x.kind≤4)∧tD x=true:=by
 unfold fV tD
 by_cases e1:x.kind=1
 ·rw[if_pos e1,if_pos e1]
  exact⟨fun h=>⟨by omega,h⟩,fun h=>h.2⟩
 ·rw [if_neg e1,if_neg e1]
  by_cases e2:x.kind=2
  ·rw[if_pos e2]
   simp only[bg,dw,aP]
   constructor
   ·rintro⟨⟨⟨h1,h2⟩,h3⟩,h4⟩
    exact⟨by omega,⟨⟨h2,h3⟩,h4⟩,.inr ⟨e2,h1⟩⟩
   ·rintro⟨_,⟨⟨h2,h3⟩,h4⟩,h5⟩
    refine⟨⟨⟨?_,h2⟩,h3⟩,h4⟩
    rcases h5 with h|h
    ·rw[h];exact Nat.zero_le _
    ·exact h.2
  ·rw [if_neg e2]
   by_cases e3:x.kind=0∨x.kind=3∨x.kind=4
   ·rw[if_pos e3]
    simp only[bg,dw,aP]
    constructor
    ·rintro⟨⟨⟨h1,h2⟩,h3⟩,h4⟩
     exact⟨by omega,⟨⟨h1,h2⟩,h4⟩,.inl h3⟩
    ·rintro⟨_,⟨⟨h1,h2⟩,h4⟩,h3|h3⟩
     ·exact⟨⟨⟨h1,h2⟩,h3⟩,h4⟩
     ·exact absurd h3.1 e2
   ·rw[if_neg e3]
    constructor
    ·intro h;cases h
    ·rintro⟨h,_⟩;omega
variable {l : List ai}
theorem vF {cs:List Int}:cs.length≤cA l cs↔ ∀c∈cs,(nd l c).kind=1:=by
 have h1:=List.countP_le_length (p:=fun c=>decide ((nd l c).kind=1)) (l:=cs)
 have h2:=List.countP_eq_length (p:=fun c=>decide ((nd l c).kind=1)) (l:=cs)
 unfold cA
 constructor
 ·intro h c hc
  simpa using h2.1 (by omega) c hc
 ·intro h
  have:=h2.2 (fun c hc=>by simpa using h c hc)
  omega
theorem pJ {k:Int}(h:0≤k∧k≤4):dS k=true↔k≠2:=by
 unfold dS
 simp only[dw,aP]
 omega
theorem J4 (h:∀n,af l n=true→cN l n (nd l n)=true):∀n,af l n=true→fO l n (nd l n)=true:=by
 intro n hn
 have h0:=h n hn
 unfold cN at h0
 simp only[bg] at h0
 obtain⟨hN,hO,hH,hB,hS⟩:=h0
 have hk:=l9.1 hN
 unfold kN at hB
 simp only[bg,dw,aP] at hB
 have hkids:=gI.1 hB.1
 unfold fO
 simp only[bg]
 refine⟨?_,?_,?_,?_,hS,hk.2⟩
 ·unfold u7;unfold o3 at hO
  simp only[bg,aP]
  rw[bg] at hO
  exact⟨hk.1,hO.1,hO.2⟩
 ·unfold uZ;unfold ot at hH
  simp only[bg,dw,aP] at hH ⊢
  rcases hH with hH|⟨⟨⟨h1,h2⟩,h3⟩,h4⟩
  ·exact .inl hH
  ·right
   have hp:=h _ h2
   unfold cN kN at hp
   simp only[bg] at hp
   have hpk:=(l9.1 hp.1).1
   have hpd:=(gI.1 hp.2.2.2.1.1).2.1
   unfold qz at h4
   exact⟨h1,h2,(pJ hpk).1 h3,count_one hpd (by simpa using h4)⟩
 ·rw[List.all_eq_true]
  intro c hc
  have h1:=hkids.1 c hc
  unfold uG at h1;unfold rS
  simp only[bg,dw,aP] at h1 ⊢
  obtain⟨a1,a2,a3,a4⟩:=h1
  refine⟨a1,count_one hkids.2.1 hc,?_,a2,a3⟩
  rcases a4 with a4|a4
  ·exact .inl a4
  ·exact .inr a4.1
 ·unfold kK
  simp only[bg,dw,aP]
  obtain⟨_,hb1,hb2⟩:=hB
  constructor
  ·by_cases e:(nd l n).kind=2
   ·right
    rcases hb1 with h|h
    ·exact absurd e ((pJ hk.1).1 h)
    ·exact h
   ·exact .inl e
  ·by_cases e:(nd l n).kind=0
   ·right
    refine⟨hb2.resolve_left (fun h=>h e),vF.2 fun c hc=>?_⟩
    have h1:=hkids.1 c hc
    unfold uG at h1
    simp only[bg,dw,aP] at h1
    rcases h1.2.2.2 with h|h
    ·exact h
    ·exact absurd e h.2
   ·exact .inl e
theorem Fv (h:∀n,af l n=true→fO l n (nd l n)=true):∀n,af l n=true→cN l n (nd l n)=true:=by
 intro n hn
 have hdup:∀n,af l n=true→(nd l n).kids.Nodup:=by
  intro n hn
  have h0:=h n hn
  unfold fO at h0
  simp only[bg,List.all_eq_true] at h0
  refine sJ fun c=>?_
  by_cases hc:c∈ (nd l n).kids
  ·have h1:=h0.2.2.1 c hc
   unfold rS at h1
   simp only[bg,aP] at h1
   omega
  ·rw[List.count_eq_zero.2 hc];omega
 have h0:=h n hn
 unfold fO at h0
 simp only[bg,List.all_eq_true] at h0
 obtain⟨hD,hP,hK,hE,hS,hN⟩:=h0
 unfold u7 at hD
 simp only[bg,aP] at hD
 unfold cN
 simp only[bg]
 refine⟨l9.2 ⟨hD.1,hN⟩,?_,?_,?_,hS⟩
 ·unfold o3;rw[bg];exact hD.2
 ·unfold ot;unfold uZ at hP
  simp only[bg,dw,aP] at hP ⊢
  rcases hP with hP|⟨h1,h2,h3,h4⟩
  ·exact .inl hP
  ·right
   have hp:=h _ h2
   unfold fO u7 at hp
   simp only[bg,aP] at hp
   refine⟨⟨⟨h1,h2⟩,(pJ hp.1.1).2 h3⟩,?_⟩
   unfold qz
   exact bO (List.count_pos_iff.1 (by omega))
 ·unfold kN;unfold kK at hE
  simp only[bg,dw,aP] at hE ⊢
  refine⟨gI.2 ⟨fun c hc=>?_,hdup n hn,fun _ _=>by simp⟩,?_,?_⟩
  ·have h1:=hK c hc
   unfold rS at h1;unfold uG
   simp only[bg,dw,aP] at h1 ⊢
   obtain⟨a1,a2,a3,a4,a5⟩:=h1
   refine⟨a1,a4,a5,?_⟩
   rcases a3 with a3|a3
   ·exact .inl a3
   ·right
    refine⟨a3,fun e0=>?_⟩
    rcases hE.2 with h|h
    ·exact h e0
    ·have:=vF.1 h.2 c hc
     omega
  ·by_cases e:(nd l n).kind=2
   ·exact .inr (hE.1.resolve_left fun h=>h e)
   ·exact .inl ((pJ hD.1).2 e)
  ·rcases hE.2 with h|h
   ·exact .inl h
   ·exact .inr h.1
theorem sx (h:∀n,af l n=true→cN l n (nd l n)=true):∀n,af l n=true→cZ (nd l n)=-1∨af l (cZ (nd l n))=true:=by
 intro n hn
 have h0:=h n hn
 unfold cN at h0
 simp only[bg] at h0
 obtain⟨_,_,hH,_,hS⟩:=h0
 unfold cZ
 unfold ot at hH
 simp only[bg,dw,aP] at hH
 by_cases e:(nd l n).parent=-1
 ·rw[if_pos e]
  unfold eL at hS
  rw[bg] at hS
  by_cases e4:(nd l n).kind=4
  ·rw[if_pos e4] at hS
   unfold gL at hS
   simp only[bg] at hS
   exact .inr hS.1.1.1.1
  ·rw[if_neg e4] at hS
   exact .inl (by simpa using hS.1)
 ·rw[if_neg e]
  rcases hH with h|h
  ·exact absurd h e
  ·exact .inr h.1.1.2
theorem jI (p:Int→ai→Bool):mj (fun k x=>p k x) 0 l=true↔ ∀n,af l n=true→p n (nd l n)=true:=by
 rw[jE]
 constructor
 ·intro h n hn
  obtain⟨k,x,rfl,hk,hx⟩:=aI.1 hn
  have:=h k x hk
  rw[hx];simpa using this
 ·intro h k x hk
  have:=h k (fR hk)
  rw[cI hk] at this
  simpa using this
theorem right_eq (f:ForM):xg f=bC f:=by
 unfold xg bC
 rw[Bool.eq_iff_iff]
 simp only[bg]
 rw[jI (fun n x=>fO f.nodes n x),jI (fun n x=>cN f.nodes n x),jI (fun n _=>dJ f.nodes (f.nodes.length+1) n),jI (fun n _=>dJ f.nodes f.nodes.length n)]
 constructor
 ·rintro⟨h1,h2,h3⟩
  have h4:=Fv h2
  exact⟨h1,h4,fun n hn=>by rw[←Br (sx h4) hn];exact h3 n hn⟩
 ·rintro⟨h1,h2,h3⟩
  exact⟨h1,J4 h2,fun n hn=>by rw[Br (sx h2) hn];exact h3 n hn⟩
end Go.Proofs.Heir
end
namespace Go.Proofs.Heir
open Go Go.Am Go.RowKit Go.Lib
set_option maxRecDepth 100000
set_option maxHeartbeats 8000000
def zX (x:ai):List Int:=(if x.under=-1 then[] else[x.under])++x.kids
namespace U
def jV (l:List ai):Nat→Int→Bool
 |0,_=>false
 |m+1,n=>if(cZ (nd l n))=-1 then true else jV l m (cZ (nd l n))
def uT (l:List ai):Nat→Int→List Int
 |0,_=>[]
 |m+1,n=>n::if(cZ (nd l n))=-1 then[] else uT l m (cZ (nd l n))
def bQ (l:List ai):Nat→Int→List Int
 |0,_=>[]
 |m+1,n=>n::(zX (nd l n)).flatMap (bQ l m)
def bT (l:List ai)(n:Int):List Int:=uT l l.length n
theorem jf {l:List ai}:∀ {m:Nat} {n:Int},dJ l m n=true→jV l m n=true
 |0,n,h=>by simp[dJ] at h
 | m+1,n,h=>by
   unfold jV;unfold dJ at h
   by_cases hp:cZ (nd l n)=-1
   ·rw[if_pos hp]
   ·rw[if_neg hp] at h ⊢;exact jf h
theorem s5 (l:List ai):∀ (m:Nat) (n:Int),(uT l m n).length≤m
 |0,_=>Nat.le_refl _
 | m +1,n=>by
   unfold uT
   split
   ·simp
   ·have:=s5 l m (cZ (nd l n))
    simp;omega
theorem ql {l:List ai}:∀ {m k:Nat} {n:Int},jV l m n=true→m≤k→uT l k n=uT l m n
 |0,k,n,h,_=>by simp[jV] at h
 | m +1,k,n,h,hk=>by
   obtain⟨k,rfl⟩:∃j,k=j+1:=⟨k-1,by omega⟩
   unfold jV at h
   unfold uT
   by_cases hp:(cZ (nd l n))=-1
   ·rw[if_pos hp,if_pos hp]
   ·rw[if_neg hp] at h
    rw[if_neg hp,if_neg hp,ql h (by omega)]
structure Tree (l:List ai):Prop where
 par:∀n,af l n=true→(cZ (nd l n))≠-1→af l (cZ (nd l n))=true∧n∈ (zX (nd l (cZ (nd l n))))
 kid:∀n,af l n=true→∀k∈ (zX (nd l n)),af l k=true∧(cZ (nd l k))=n
 dup:∀n,af l n=true→(zX (nd l n)).Nodup
 fin:∀n,af l n=true→jV l l.length n=true
variable {l : List ai}
theorem ik (T:Tree l){P:Int→Prop}(h0:∀n,af l n=true→(cZ (nd l n))=-1→P n)(h1:∀n,af l n=true→(cZ (nd l n))≠-1→af l (cZ (nd l n))=true→P (cZ (nd l n))→P n):∀n,af l n=true→P n:=by
 have H:∀ (m:Nat) (n:Int),af l n=true→jV l m n=true→P n:=by
  intro m
  induction m with
  |zero=>intro n _ h;simp[jV] at h
  | succ m ih=>
    intro n hn h
    unfold jV at h
    by_cases hp:(cZ (nd l n))=-1
    ·exact h0 n hn hp
    ·rw[if_neg hp] at h
     have hq:=(T.par n hn hp).1
     exact h1 n hn hp hq (ih _ hq h)
 exact fun n hn=>H _ n hn (T.fin n hn)
theorem eR (T:Tree l){n:Int}(hn:af l n=true)(hp:(cZ (nd l n))=-1):bT l n=[n]:=by
 have:=br hn
 obtain⟨m,hm⟩:∃m,l.length=m+1:=⟨l.length-1,by omega⟩
 unfold bT;rw[hm];unfold uT;rw[if_pos hp]
theorem cB (T:Tree l){n:Int}(hn:af l n=true)(hp:(cZ (nd l n))≠-1):bT l n=n::bT l (cZ (nd l n)):=by
 have:=br hn
 obtain⟨m,hm⟩:∃m,l.length=m+1:=⟨l.length-1,by omega⟩
 have hf:=T.fin n hn
 unfold bT;rw[hm] at hf ⊢
 unfold jV at hf
 rw[if_neg hp] at hf
 rw[uT,if_neg hp,ql hf (Nat.le_succ m)]
theorem eA (T:Tree l){n k:Int}(hn:af l n=true)(hk:k∈ (zX (nd l n))):bT l k=k::bT l n:=by
 have h:=T.kid n hn k hk
 have h0:=br hn
 have hp:(cZ (nd l k))≠-1:=by rw[h.2];omega
 rw[cB T h.1 hp,h.2]
theorem dV (T:Tree l){n:Int}(hn:af l n=true):∃r,bT l n=n::r:=by
 by_cases hp:(cZ (nd l n))=-1
 ·exact⟨[],eR T hn hp⟩
 ·exact⟨_,cB T hn hp⟩
theorem cM (T:Tree l){n:Int}(hn:af l n=true):n∈bT l n:=by
 obtain⟨r,hr⟩:=dV T hn;rw[hr];exact gE
theorem kr (n:Int):(bT l n).length≤l.length:=s5 l _ n
theorem jD (T:Tree l):∀n,af l n=true→∀a∈bT l n,af l a=true:=by
 refine ik T (fun n hn hp a ha=>?_) (fun n hn hp hq ih a ha=>?_)
 ·rw[eR T hn hp] at ha;rw[je.1 ha];exact hn
 ·rw[cB T hn hp] at ha
  rcases eB.1 ha with rfl|h
  ·exact hn
  ·exact ih a h
theorem ia (T:Tree l):∀n,af l n=true→∀a∈bT l n,∃t,bT l n=t++bT l a:=by
 refine ik T (fun n hn hp a ha=>?_) (fun n hn hp hq ih a ha=>?_)
 ·have h:=ha;rw[eR T hn hp] at h;rw[je.1 h];exact⟨[],rfl⟩
 ·have h:=ha
  rw[cB T hn hp] at h
  rcases eB.1 h with rfl|h
  ·exact⟨[],rfl⟩
  ·obtain⟨t,ht⟩:=ih a h
   exact⟨n::t,by rw[cB T hn hp,ht];rfl⟩
theorem nT (T:Tree l){a b c:Int}(hc:af l c=true)(h1:a∈bT l b)(h2:b∈bT l c):a∈bT l c:=by
 obtain⟨t,ht⟩:=ia T c hc b h2
 rw[ht];exact List.mem_append_right _ h1
theorem A4 (T:Tree l){n a b:Int}(hn:af l n=true)(ha:a∈bT l n)(hb:b∈bT l n)(he:(bT l a).length=(bT l b).length):a=b:=by
 obtain⟨t,ht⟩:=ia T n hn a ha
 obtain⟨s,hs⟩:=ia T n hn b hb
 rw[ht] at hs
 have h:=(List.append_inj' hs he).2
 obtain⟨r,hr⟩:=dV T (jD T n hn a ha)
 obtain⟨q,hq⟩:=dV T (jD T n hn b hb)
 rw[hr,hq] at h
 exact(List.cons.inj h).1
theorem dL (T:Tree l):∀ (m:Nat) (n:Int),af l n=true→∀b∈bQ l m n,af l b=true∧n∈bT l b
 |0,n,_,b,hb=>by simp[bQ] at hb
 | m +1,n,hn,b,hb=>by
   unfold bQ at hb
   rcases eB.1 hb with rfl|h
   ·exact⟨hn,cM T hn⟩
   ·obtain⟨k,hk,hbk⟩:=List.mem_flatMap.1 h
    have hkk:=T.kid n hn k hk
    obtain⟨h1,h2⟩:=dL T m k hkk.1 b hbk
    refine⟨h1,nT T h1 ?_ h2⟩
    rw[eA T hn hk]
    exact fJ _ (cM T hn)
theorem qt (T:Tree l):∀ (m:Nat) (n:Int),af l n=true→l.length+1≤m+ (bT l n).length→∀x∈bQ l m n,∀k∈ (zX (nd l x)),k∈bQ l m n
 |0,n,_,_,x,hx,_,_=>by simp[bQ] at hx
 | m +1,n,hn,hm,x,hx,k,hk=>by
   unfold bQ at hx ⊢
   refine fJ _ (List.mem_flatMap.2 ?_)
   rcases eB.1 hx with rfl|h
   ·have hkk:=T.kid x hn k hk
    have h1:=kr (l:=l) k
    rw[eA T hn hk] at h1
    have h2:(bT l x).length+1≤l.length:=h1
    obtain⟨j,hj⟩:∃j,m=j+1:=⟨m-1,by omega⟩
    refine⟨k,hk,?_⟩
    rw[hj];unfold bQ;exact gE
   ·obtain⟨c,hc,hxc⟩:=List.mem_flatMap.1 h
    have hcc:=T.kid n hn c hc
    refine⟨c,hc,qt T m c hcc.1 ?_ x hxc k hk⟩
    rw[eA T hn hc];simp;omega
theorem xd (T:Tree l){m:Nat}{n:Int}(hn:af l n=true)(hm:l.length+1≤m+ (bT l n).length):∀b,af l b=true→n∈bT l b→b∈bQ l m n:=by
 have hself:n∈bQ l m n:=by
  have:=kr (l:=l) n
  obtain⟨j,hj⟩:∃j,m=j+1:=⟨m-1,by omega⟩
  rw[hj];unfold bQ;exact gE
 refine ik T (fun b hb hp h=>?_) (fun b hb hp hq ih h=>?_)
 ·rw[eR T hb hp] at h;rw[←je.1 h];exact hself
 ·rw[cB T hb hp] at h
  rcases eB.1 h with rfl|h
  ·exact hself
  ·exact qt T m n hn hm _ (ih h) _ (T.par b hb hp).2
theorem lC (T:Tree l){n:Int}(hn:af l n=true):l.length+1≤l.length+ (bT l n).length:=by
 obtain⟨r,hr⟩:=dV T hn
 rw[hr];simp
theorem kF (T:Tree l){a b:Int}(ha:af l a=true)(hb:af l b=true):b∈bQ l l.length a↔a∈bT l b:=
 ⟨fun h=>(dL T _ a ha b h).2,fun h=>xd T ha (lC T ha) b hb h⟩
theorem lA (T:Tree l):∀ (m:Nat) (n:Int),af l n=true→(bQ l m n).Nodup
 |0,_,_=>List.nodup_nil
 | m +1,n,hn=>by
   unfold bQ
   refine List.nodup_cons.2 ⟨fun h=>?_,?_⟩
   ·obtain⟨k,hk,hnk⟩:=List.mem_flatMap.1 h
    have hkk:=T.kid n hn k hk
    have h1:=(dL T m k hkk.1 n hnk).2
    obtain⟨t,ht⟩:=ia T n hn k h1
    have h2:=congrArg List.length ht
    rw[eA T hn hk] at h2
    simp at h2
    omega
   ·refine List.pairwise_flatMap.2 ⟨fun k hk=>lA T m k (T.kid n hn k hk).1,?_⟩
    refine List.Pairwise.imp_of_mem (fun{a b} ha hb hab x hx y hy e=>?_) (T.dup n hn)
    subst e
    have h1:=dL T m a (T.kid n hn a ha).1 x hx
    have h2:=dL T m b (T.kid n hn b hb).1 x hy
    refine hab (A4 T h1.1 h1.2 h2.2 ?_)
    rw[eA T hn ha,eA T hn hb];rfl
theorem jx (T:Tree l)(m:Nat){n:Int}(hn:af l n=true):(bQ l m n).length≤l.length:=
 nC (lA T m n hn) fun x hx=>br (dL T m n hn x hx).1
theorem jz {f:ForM}(h:bC f=true):Tree f.nodes:=by
 have hN:=rG h
 have T:=Heir.jz h
 have kidK:∀n,af f.nodes n=true→∀c∈ (nd f.nodes n).kids,(nd f.nodes c).kind=1∨(nd f.nodes c).kind=2:=by
  intro n hn c hc
  have h1:=hN n hn
  unfold cN kN at h1
  simp only[bg] at h1
  have h2:=(gI.1 h1.2.2.2.1.1).1 c hc
  unfold uG at h2
  simp only[bg,dw,aP] at h2
  rcases h2.2.2.2 with h3|h3
  ·exact .inl h3
  ·exact .inr h3.1
 have und:∀n,af f.nodes n=true→(nd f.nodes n).under≠-1→af f.nodes (nd f.nodes n).under=true∧(nd f.nodes (nd f.nodes n).under).kind=4∧(nd f.nodes (nd f.nodes n).under).host=n:=by
  intro n hn hu
  have h1:=hN n hn
  unfold cN eL gL at h1
  simp only[bg,dw,aP] at h1
  rcases h1.2.2.2.2.2 with h2|h2
  ·exact absurd h2 hu
  ·exact⟨h2.1.2.1,h2.1.2.2,h2.2⟩
 have top4:∀n,af f.nodes n=true→(nd f.nodes n).kind=4→(nd f.nodes n).parent=-1:=by
  intro n hn hk
  have h1:=hN n hn
  unfold cN ot at h1
  simp only[bg,dw,aP] at h1
  rcases h1.2.2.1 with h2|h2
  ·exact h2
  ·rcases h2.1.1.1 with h3|h3<;>(rw[hk] at h3;cases h3)
 have mem:∀ (x:ai) (k:Int),k∈zX x↔ (x.under≠-1∧k=x.under)∨k∈x.kids:=by
  intro x k
  unfold zX
  rw[List.mem_append]
  by_cases hu:x.under=-1
  ·simp[hu]
  ·simp[hu]
 refine⟨fun n hn hp=>?_,fun n hn k hk=>?_,fun n hn=>?_,fun n hn=>jf (sZ h n hn)⟩
 ·unfold cZ at hp ⊢
  by_cases hq:(nd f.nodes n).parent=-1
  ·rw[if_pos hq] at hp ⊢
   have h1:=hN n hn
   unfold cN eL at h1
   simp only[bg] at h1
   have h2:=h1.2.2.2.2.1
   by_cases hk:(nd f.nodes n).kind=4
   ·rw[if_pos hk] at h2
    unfold gL at h2
    simp only[bg,aP] at h2
    refine⟨h2.1.1.1,(mem _ _).2 (.inl ⟨?_,h2.1.2.symm⟩)⟩
    rw[h2.1.2]
    have:=br hn
    omega
   ·rw[if_neg hk] at h2
    exact absurd (by simpa using h2) hp
  ·rw[if_neg hq]
   have h1:=T.par n hn hq
   exact⟨h1.1,(mem _ _).2 (.inr h1.2)⟩
 ·have hn0:=br hn
  rcases(mem _ _).1 hk with⟨h1,rfl⟩|h1
  ·obtain⟨h2,h3,h4⟩:=und n hn h1
   exact⟨h2,by unfold cZ;rw[if_pos (top4 _ h2 h3)];exact h4⟩
  ·obtain⟨h2,h3⟩:=T.kid n hn k h1
   exact⟨h2,by unfold cZ;rw[if_neg (by rw[h3];omega)];exact h3⟩
 ·unfold zX
  by_cases hu:(nd f.nodes n).under=-1
  ·rw[if_pos hu];exact T.dup n hn
  ·rw[if_neg hu]
   refine List.nodup_cons.2 ⟨fun hm=>?_,T.dup n hn⟩
   have h1:=(und n hn hu).2.1
   rcases kidK n hn _ hm with h2|h2<;>(rw[h1] at h2;cases h2)
end U
theorem dO.take {rb rs:List AV}{off len off' len' bytes:Nat}{acc:Tk}{sl:SL}{m:ML}{A:List AV→Tk→SL→ML→Prop}(rows0 news:List AV)(h0:off=0∧len≤rb.length∧rows0=rb.take len)(h1:off'=0∧len'=rs.length∧news=rs)(h2:kW (flat news)=true)
  (h3:(rows0.length+news.length)*bytes≤140737488355328) (h4:rows0.length+news.length≤9223372036854775807) (h:A (rows0++news) acc sl m):dO rb off len rs off' len' bytes acc sl m (A:=A):=by
 obtain⟨rfl,hl,rfl⟩:=h0
 obtain⟨rfl,rfl,rfl⟩:=h1
 exact⟨_,_,by omega,by simp,by omega,by simp,h2,h3,h4,h⟩
theorem gp {α β:Type}{f g:α→List β}:∀ {l:List α},(∀a∈l,f a=g a)→l.flatMap f=l.flatMap g
 |[],_=>rfl
 |a::r,h=>by rw[List.flatMap_cons,List.flatMap_cons,h a gE,gp fun b hb=>h b (fJ _ hb)]
namespace U
variable {l : List ai}
theorem mJ (T:Tree l):∀ (m:Nat) (n:Int),af l n=true→l.length+1≤m+ (bT l n).length→bQ l (m+1) n=bQ l m n
 |0,n,_,h=>by have:=kr (l:=l) n;omega
 | m+1,n,hn,h=>by
   rw[bQ,bQ]
   congr 1
   refine gp fun k hk=>?_
   refine mJ T m k (T.kid n hn k hk).1 ?_
   rw[eA T hn hk];simp;omega
theorem ord_eq (T:Tree l){n:Int}(hn:af l n=true):bQ l l.length n=n::(zX (nd l n)).flatMap (bQ l l.length):=by
 have h0:=br hn
 obtain⟨m,hm⟩:∃m,l.length=m+1:=⟨l.length-1,by omega⟩
 have h1:∀k∈zX (nd l n),bQ l l.length k=bQ l m k:=fun k hk=>by
  rw[hm]
  refine mJ T m k (T.kid n hn k hk).1 ?_
  obtain⟨r,hr⟩:=dV T hn
  rw[eA T hn hk,hr];simp;omega
 conv=>lhs;rw[hm,bQ]
 congr 1
 exact gp fun k hk=>(h1 k hk).symm
def rest (l:List ai)(st:List Int):List Int:=st.reverse.flatMap (bQ l l.length)
theorem zz (T:Tree l){st:List Int}{t:Int}(ht:af l t=true):rest l (st++ [t])=t::rest l (st++ (zX (nd l t)).reverse):=by
 unfold rest
 rw[List.reverse_append,List.reverse_append,List.reverse_reverse]
 simp only[List.reverse_cons,List.reverse_nil,List.nil_append,List.cons_append,List.flatMap_cons,List.flatMap_append]
 rw[ord_eq T ht];rfl
theorem yC (T:Tree l):∀ {st:List Int},(∀c∈st,af l c=true)→st.length≤ (rest l st).length:=by
 intro st h
 unfold rest
 have:∀s:List Int,(∀c∈s,af l c=true)→s.length≤ (s.flatMap (bQ l l.length)).length:=by
  intro s
  induction s with
  |nil=>intro _;exact Nat.le_refl _
  | cons a r ih=>
    intro h
    have h1:=ih fun c hc=>h c (fJ _ hc)
    rw[List.flatMap_cons,jN,ord_eq T (h a gE),List.length_cons,List.length_cons]
    omega
 have:=this st.reverse fun c hc=>h c (by simpa using hc)
 simpa using this
end U
theorem GK (s:ByteArray):aj Tryz.prog 152 [] [cn s] [] (bA (dA s)):=by
 cases hr:cm s with
 | true=>
   have hs:s.size≤100000:=by
    have h0:=hr;unfold cm iz at h0;simp only[bg,aP] at h0
    have hsz:s.size=s.data.toList.length:=iq s
    omega
   exact IF s hs
 | false=>
   have e:dA s=false:=by unfold dA;rw[hr];rfl
   rw[e]
   refine aj.aA (rvs:=[.tmp 2]) G ak Tryz.func152 rfl Tryz.ntmps152 rfl rfl ?_;with_reducible refine wD ?_
   refine cL (ye s) LV ?_;with_reducible refine wK ?_
   rw[hr]
   repeat' (first
  |refine gK ?_|refine aE ?_ ?_
  |apply trivial)
theorem yf (f:ForM)(n:Int):aj Tryz.prog 129 [] [aN f,ah n] [] (bA (af f.nodes n)):=by
 obtain⟨l,m⟩:=f
 have hlm:(l.map bM).length=l.length:=bP ..
 refine aj.aA (rvs:=[.tmp 4]) G ak Tryz.func129 rfl Tryz.ntmps129 rfl rfl ?_;with_reducible refine wD ?_
 by_cases h:(0:Int)≤n
 ·(have fct:=h;(repeat' (first
  |refine gF ?_|refine aE ?_ ?_
  |apply trivial));all_goals clear fct)
  all_goals simp[af,h]
 ·(have fct:=(eq_false h);(repeat' (first
  |refine gF ?_|refine aE ?_ ?_
  |apply trivial));all_goals clear fct)
  all_goals simp[af,h]
theorem BD (k:Int):aj Tryz.prog 175 [] [ah k] [] (bA (dS k)):=by
 refine aj.aA (rvs:=[.tmp 2]) G ak Tryz.func175 rfl Tryz.ntmps175 rfl rfl ?_;with_reducible refine wD ?_
 by_cases e0:k=0
 ·(have fct:=e0;(repeat' (first
  |refine gF ?_|refine aE ?_ ?_
  |apply trivial));all_goals clear fct)
  all_goals simp[dS,e0]
 ·by_cases e1:k=1
  ·(have fct:=e1;(repeat' (first
  |refine gF ?_|refine aE ?_ ?_
  | apply trivial));all_goals clear fct)
   all_goals simp[dS,e1]
  ·by_cases e3:k=3
   ·(have fct:=e3;(repeat' (first
  |refine gF ?_|refine aE ?_ ?_
  | apply trivial));all_goals clear fct)
    all_goals simp[dS,e3]
   ·by_cases e4:k=4
    ·(have fct:=e4;(repeat' (first
  |refine gF ?_|refine aE ?_ ?_
  | apply trivial));all_goals clear fct)
     all_goals simp[dS,e4]
    ·(have fct:=And.intro e0 (And.intro e1 (And.intro e3 (e4)));(repeat' (first
  |refine gF ?_|refine aE ?_ ?_
  |apply trivial));all_goals clear fct)
     all_goals simp[dS,e0,e1,e3,e4]
theorem sj (f:ForM)(n k:Int):aj Tryz.prog 136 [] [aN f,ah n,ah k] [] (bA (gL f.nodes n k)):=by
 have h49:=yf f n
 obtain⟨l,m⟩:=f
 refine aj.aA (rvs:=[.tmp 6]) G ak Tryz.func136 rfl Tryz.ntmps136 rfl rfl ?_;with_reducible refine wD ?_
 refine cL h49 yj ?_;with_reducible refine wK ?_
 cases ht:af l n with
 | false=>
   (have fct:=ht;(repeat' (first
  |refine gF ?_|refine aE ?_ ?_
  | apply trivial));all_goals clear fct)
   all_goals simp[gL,ht]
 | true=>
   obtain⟨i,x,rfl,hx,hnd⟩:=aI.1 ht
   obtain⟨a1,a2,a3,a4,a5,a6,a7,a8,a9,a10⟩:=x
   (have fct:=ht;(repeat' (first
  |refine gF ?_|refine aE ?_ ?_
  |((refine aH.mk i (aG _) rfl (az hx) ?_)<;>with_reducible refine wK ?_)
  | apply trivial));all_goals clear fct)
   all_goals simp[gL,ht,hnd]
theorem qU (l:List Int)(hl:l.length≤100000)(n:Int):aj Tryz.prog 73 [] [bY l,ah n] [] (ah (fU (fun x=>decide (x=n)) l)):=by
 have hlm:(l.map bJ).length=l.length:=bP ..
 refine aj.aA (rvs:=[.tmp 4]) G ak Tryz.func73 rfl Tryz.ntmps73 rfl rfl ?_;with_reducible refine wD ?_
 refine bE.use G ak (fun(k:Nat)=>[(0,bY l),(1,ah n),(7,ah l.length),(8,ah k)]) (fun _=>[]) (fun k=>k≤l.length∧∀j x,j<k→l[j]? =some x→decide (x=n)=false) (fun k=>l.length-k) 0 ⟨Nat.zero_le _,fun j x h=>by omega⟩
  ⟨⟨rfl,rfl⟩,⟨rfl,rfl,by show(l.length:Int)=((l.map bJ).length:Int);rw[hlm],rfl,trivial⟩,trivial⟩ ?_
 rintro k ⟨hk,hno⟩
 with_reducible refine wK ?_
 refine aM.mk (fun h1=>?_) (fun h1=>?_)<;>(try simp only[aq] at h1)<;>with_reducible refine wK ?_
 ·have hk':k<l.length:=by simp only[aP] at h1;omega
  obtain⟨a,ha⟩:∃a,l[k]? =some a:=⟨_,bH hk'⟩
  refine aH.mk k (ah a) rfl (ct ha) ?_;with_reducible refine wK ?_
  refine aM.mk (fun h2=>?_) (fun h2=>?_)<;>(try simp only[aq] at h2)<;>with_reducible refine wK ?_
  ·(refine eK ?_ ?_<;>with_reducible repeat' (first|exact trivial|(show _∧_;refine aK ?_ ?_)))
   refine fo (p:=fun x=>decide (x=n)) ha ?_ hno
   simp only[aP] at h2 ⊢;exact h2.symm
  ·refine nK ?_;with_reducible refine wK ?_
   refine aW.mk (k+1) ⟨by omega,fun j x hj hx=>?_⟩ (by omega) ⟨⟨rfl,rfl⟩,⟨rfl,rfl,rfl,by show((k+1:Nat):Int)=(k:Int)+1;omega,trivial⟩,trivial⟩
   rcases Nat.lt_or_ge j k with h3|h3
   ·exact hno j x h3 hx
   ·have:j=k:=by omega
    subst this
    rw[ha] at hx;cases hx
    simp only[cj] at h2 ⊢;exact fun e=>h2 e.symm
 ·(refine eK ?_ ?_<;>with_reducible repeat' (first|exact trivial|(show _∧_;refine aK ?_ ?_)))
  exact gx fun j x hx=>hno j x (by have:=(aZ hx).1;simp only[cj] at h1;omega) hx
theorem F1 {l:List Int}{n:Int}:decide (0≤fU (fun x=>decide (x=n)) l)=qz l n:=by
 rw[Bool.eq_iff_iff,aP]
 unfold qz
 rw[aP]
 unfold fU
 cases h:l.findIdx? (fun x=>decide (x=n)) with
 | none=>
   rw[List.findIdx?_eq_none_iff] at h
   simp only
   refine⟨fun h'=>by omega,fun hs=>?_⟩
   have:=h n hs
   simp at this
 | some k=>
   rw[List.findIdx?_eq_some_iff_getElem] at h
   obtain⟨hk,h2,_⟩:=h
   simp only
   exact⟨fun _=>by rw[←of_decide_eq_true h2];exact List.getElem_mem hk,fun _=>by omega⟩
theorem HW (l:List Int)(hl:l.length≤100000)(n:Int):aj Tryz.prog 176 [] [bY l,ah n] [] (bA (qz l n)):=by
 rw[←F1]
 refine aj.aA (rvs:=[.tmp 4]) G ak Tryz.func176 rfl Tryz.ntmps176 rfl rfl ?_;with_reducible refine wD ?_
 refine cL (qU l hl n) GQ ?_;with_reducible refine wK ?_
 (refine eK ?_ ?_<;>with_reducible repeat' (first|exact trivial|(show _∧_;refine aK ?_ ?_)))
theorem IK (f:ForM)(k:Nat)(x:ai)(hx:f.nodes[k]? =some x):aj Tryz.prog 177 [] [aN f,ah k] [] (ah (cZ x)):=by
 obtain⟨l,m⟩:=f
 obtain⟨a1,a2,a3,a4,a5,a6,a7,a8,a9,a10⟩:=x
 refine aj.aA (rvs:=[.tmp 4]) G ak Tryz.func177 rfl Tryz.ntmps177 rfl rfl ?_;with_reducible refine wD ?_
 refine aH.mk k (aG _) rfl (az hx) ?_;with_reducible refine wK ?_
 unfold cZ
 by_cases e:a6=-1
 ·(have fct:=e;(repeat' (first
  |refine gF ?_|refine aE ?_ ?_
  |((refine aH.mk k (aG _) rfl (az hx) ?_)<;>with_reducible refine wK ?_)
  |apply trivial));all_goals clear fct)
  all_goals simp[e]
 ·(have fct:=(eq_false e);(repeat' (first
  |refine gF ?_|refine aE ?_ ?_
  |((refine aH.mk k (aG _) rfl (az hx) ?_)<;>with_reducible refine wK ?_)
  |apply trivial));all_goals clear fct)
  all_goals simp[e]
theorem HV (f:ForM)(k:Nat)(x:ai)(hx:f.nodes[k]? =some x):aj Tryz.prog 116 [] [aN f,ah k] [] (bA (o3 f.nodes k x)):=by
 have h55:=sj f x.doc 0
 obtain⟨l,m⟩:=f
 obtain⟨a1,a2,a3,a4,a5,a6,a7,a8,a9,a10⟩:=x
 unfold o3
 simp only at h55 hx ⊢
 refine aj.aA (rvs:=[.tmp 4]) G ak Tryz.func116 rfl Tryz.ntmps116 rfl rfl ?_;with_reducible refine wD ?_
 refine aH.mk k (aG _) rfl (az hx) ?_;with_reducible refine wK ?_
 refine cL h55 pN ?_;with_reducible refine wK ?_
 cases hi:gL l a10 0 with
 | false=>
   (have fct:=hi;(repeat' (first
  |refine gF ?_|refine aE ?_ ?_
  | apply trivial));all_goals clear fct)
   all_goals simp[hi]
 | true=>
   by_cases e:a1=0
   ·(have fct:=And.intro hi (e);(repeat' (first
  |refine gF ?_|refine aE ?_ ?_
  | apply trivial));all_goals clear fct)
    all_goals simp[hi,e]
   ·(have fct:=And.intro hi ((eq_false e));(repeat' (first
  |refine gF ?_|refine aE ?_ ?_
  | apply trivial));all_goals clear fct)
    all_goals simp[hi,e]
theorem Hy (f:ForM)(hs:bq f.nodes)(k:Nat)(x:ai)(hx:f.nodes[k]? =some x):aj Tryz.prog 117 [] [aN f,ah k] [] (bA (ot f.nodes k x)):=by
 have h49:=yf f x.parent
 have h56:=BD (nd f.nodes x.parent).kind
 have h57:af f.nodes x.parent=true→aj Tryz.prog 176 [] [bY (nd f.nodes x.parent).kids,ah k] [] (bA (qz (nd f.nodes x.parent).kids k)):=fun ht=>by
  obtain⟨i,y,_,hy,hnd⟩:=aI.1 ht
  rw[hnd]
  exact HW y.kids (by have:=hs.kids y (bV hy);omega) k
 obtain⟨l,m⟩:=f
 obtain⟨a1,a2,a3,a4,a5,a6,a7,a8,a9,a10⟩:=x
 unfold ot
 simp only at h49 h56 h57 hx ⊢
 refine aj.aA (rvs:=[.tmp 4]) G ak Tryz.func117 rfl Tryz.ntmps117 rfl rfl ?_;with_reducible refine wD ?_
 refine aH.mk k (aG _) rfl (az hx) ?_;with_reducible refine wK ?_
 by_cases e6:a6=-1
 ·(have fct:=e6;(repeat' (first
  |refine gF ?_|refine aE ?_ ?_
  |apply trivial));all_goals clear fct)
  all_goals simp[e6]
 ·refine aM.no (by simp[e6]) ?_;with_reducible refine wK ?_
  have rest:∀b:Bool,(decide (a1=1)||decide (a1=2))=b→(b=false∨b=true):=fun b _=>by cases b<;>simp
  cases ht:af l a6 with
  | false=>
    by_cases e1:a1=1
    ·(have fct:=And.intro e1 (And.intro ht ((eq_false e6)));(repeat' (first
  |refine gF ?_|refine aE ?_ ?_
  |(((with_reducible refine kQ 129 ?_);refine cL h49 yj ?_)<;>with_reducible refine wK ?_)
  | apply trivial));all_goals clear fct)
     all_goals simp[e1,ht,e6]
    ·by_cases e2:a1=2
     ·(have fct:=And.intro e2 (And.intro ht ((eq_false e6)));(repeat' (first
  |refine gF ?_|refine aE ?_ ?_
  |(((with_reducible refine kQ 129 ?_);refine cL h49 yj ?_)<;>with_reducible refine wK ?_)
  |apply trivial));all_goals clear fct)
      all_goals simp[e2,ht,e6]
     ·(have fct:=And.intro (eq_false e1) (And.intro (eq_false e2) (And.intro ht ((eq_false e6))));(repeat' (first
  |refine gF ?_|refine aE ?_ ?_
  |apply trivial));all_goals clear fct)
      all_goals simp[e1,e2,ht,e6]
  | true=>
    obtain⟨i,y,rfl,hy,hnd⟩:=aI.1 ht
    have h57':=h57 ht
    rw[hnd] at h56 h57' ⊢
    obtain⟨b1,b2,b3,b4,b5,b6,b7,b8,b9,b10⟩:=y
    simp only at h56 h57'
    cases hh:dS b1 with
    | false=>
      by_cases e1:a1=1
      ·(have fct:=And.intro e1 (And.intro ht (And.intro hh ((eq_false e6))));(repeat' (first
  |refine gF ?_|refine aE ?_ ?_
  | ((first
   |((with_reducible refine kQ 129 ?_);refine cL h49 yj ?_)
   |((with_reducible refine kQ 175 ?_);refine cL h56 FE ?_)
   |(refine aH.mk i (aG _) rfl (az hy) ?_))<;>with_reducible refine wK ?_)
  |apply trivial));all_goals clear fct)
       all_goals simp[e1,ht,e6,hh]
      ·by_cases e2:a1=2
       ·(have fct:=And.intro e2 (And.intro ht (And.intro hh ((eq_false e6))));(repeat' (first
  |refine gF ?_|refine aE ?_ ?_
  | ((first
   |((with_reducible refine kQ 129 ?_);refine cL h49 yj ?_)
   |((with_reducible refine kQ 175 ?_);refine cL h56 FE ?_)
   |(refine aH.mk i (aG _) rfl (az hy) ?_))<;>with_reducible refine wK ?_)
  |apply trivial));all_goals clear fct)
        all_goals simp[e2,ht,e6,hh]
       ·(have fct:=And.intro (eq_false e1) (And.intro (eq_false e2) (And.intro ht (And.intro hh ((eq_false e6)))));(repeat' (first
  |refine gF ?_|refine aE ?_ ?_
  | apply trivial));all_goals clear fct)
        all_goals simp[e1,e2,ht,e6]
    | true=>
      by_cases e1:a1=1
      ·(have fct:=And.intro e1 (And.intro ht (And.intro hh ((eq_false e6))));(repeat' (first
  |refine gF ?_|refine aE ?_ ?_
  | ((first
   |((with_reducible refine kQ 129 ?_);refine cL h49 yj ?_)
   |((with_reducible refine kQ 175 ?_);refine cL h56 FE ?_)
   |((with_reducible refine kQ 176 ?_);refine cL h57' K9 ?_)
   |(refine aH.mk i (aG _) rfl (az hy) ?_))<;>with_reducible refine wK ?_)
  |apply trivial));all_goals clear fct)
       all_goals simp[e1,ht,e6,hh]
      ·by_cases e2:a1=2
       ·(have fct:=And.intro e2 (And.intro ht (And.intro hh ((eq_false e6))));(repeat' (first
  |refine gF ?_|refine aE ?_ ?_
  | ((first
   |((with_reducible refine kQ 129 ?_);refine cL h49 yj ?_)
   |((with_reducible refine kQ 175 ?_);refine cL h56 FE ?_)
   |((with_reducible refine kQ 176 ?_);refine cL h57' K9 ?_)
   |(refine aH.mk i (aG _) rfl (az hy) ?_))<;>with_reducible refine wK ?_)
  |apply trivial));all_goals clear fct)
        all_goals simp[e2,ht,e6,hh]
       ·(have fct:=And.intro (eq_false e1) (And.intro (eq_false e2) (And.intro ht (And.intro hh ((eq_false e6)))));(repeat' (first
  |refine gF ?_|refine aE ?_ ?_
  |apply trivial));all_goals clear fct)
        all_goals simp[e1,e2,ht,e6]
theorem uh (l:List ai)(m:Nat)(n:Int):dJ l (m+1) n=if cZ (nd l n)=-1 then true else dJ l m (cZ (nd l n)):=rfl
theorem Ic (f:ForM)(hl:f.nodes.length≤100000)(hup:∀ (k:Nat) (x:ai),f.nodes[k]? =some x→cZ x=-1∨af f.nodes (cZ x)=true)(k:Nat)(hk:k<f.nodes.length):aj Tryz.prog 120 [] [aN f,ah k] [] (bA (dJ f.nodes f.nodes.length k)):=by
 have h58:=IK f
 obtain⟨l,m⟩:=f
 simp only at h58 hup hk hl ⊢
 have hlm:(l.map bM).length=l.length:=bP ..
 refine aj.aA (rvs:=[.tmp 4]) G ak Tryz.func120 rfl Tryz.ntmps120 rfl rfl ?_;with_reducible refine wD ?_
 refine bE.use G ak (fun(i:Nat×Nat)=>[(1,ah i.2),(2,.ptr 20 0 0),(8,ah l.length),(9,ah i.1)]) (fun _=>[(20,.live 2 [aN ⟨l,m⟩] false)]) (fun i=>i.1≤l.length∧i.2<l.length∧dJ l l.length k=dJ l (l.length-i.1) i.2) (fun i=>l.length-i.1) (0,k) ⟨Nat.zero_le _,hk,rfl⟩
  ⟨⟨rfl,rfl⟩,⟨rfl,⟨rfl,rfl⟩,by show(l.length:Int)=((l.map bM).length:Int);rw[hlm],rfl,trivial⟩,⟨⟨rfl,rfl,trivial⟩,trivial⟩,trivial⟩ ?_
 rintro⟨i,j⟩ ⟨hi,hj,he⟩
 simp only at hi hj he
 with_reducible refine wK ?_
 refine aM.mk (fun h1=>?_) (fun h1=>?_)<;>(try simp only[aq] at h1)<;>with_reducible refine wK ?_
 ·have hi':i<l.length:=by simp only[aP] at h1;omega
  obtain⟨x,hx⟩:∃x,l[j]? =some x:=⟨_,bH hj⟩
  have h58':=h58 j x hx
  refine cL h58' L7 ?_;with_reducible refine wK ?_
  rw[show l.length-i=(l.length- (i+1))+1 from by omega] at he
  rw[uh,cI hx] at he
  by_cases e:cZ x=-1
  ·rw[if_pos e] at he
   (have fct:=e;(repeat' (first
  |refine gF ?_|refine aE ?_ ?_
  | apply trivial));all_goals clear fct)
   all_goals rw[he]
  ·rw[if_neg e] at he
   rcases hup j x hx with h|h
   ·exact absurd h e
   obtain⟨j',y,hj1,hj2,_⟩:=aI.1 h
   rw[hj1] at he
   have hlt:=(aZ hj2).1
   refine aM.no (bB e) ?_;with_reducible refine wK ?_
   refine nK ?_;with_reducible refine wK ?_
   refine aW.mk (i+1,j') ⟨by show i+1≤l.length;omega,hlt,he⟩ (by show l.length- (i+1)<l.length-i;omega) ⟨⟨rfl,rfl⟩,⟨hj1.symm,⟨rfl,rfl⟩,rfl,by show((i+1:Nat):Int)=(i:Int)+1;omega,trivial⟩,⟨⟨rfl,rfl,trivial⟩,trivial⟩,trivial⟩
 ·(refine eK ?_ ?_<;>with_reducible repeat' (first|exact trivial|(show _∧_;refine aK ?_ ?_)))
  have:i=l.length:=by simp only[cj] at h1;omega
  rw[he,this,Nat.sub_self];rfl
end Go.Proofs.Heir
