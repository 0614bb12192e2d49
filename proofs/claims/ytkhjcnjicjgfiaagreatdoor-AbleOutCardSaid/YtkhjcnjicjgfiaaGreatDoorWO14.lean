/- Models, plain laws and contracts of functions of the given program; conditions as stated in each theorem. By an AI agent. -/
import Derived.Test.YtkhjcnjicjgfiaaGreatDoorWO13
set_option linter.unusedSimpArgs false
set_option linter.unusedVariables false
section
namespace Go.Proofs.Heir
open Go Go.Am Go.RowKit Go.Lib
set_option maxRecDepth 100000
set_option maxHeartbeats 8000000
def gh (l:List ai):Nat→Int→Bool
 |0,_=>false
 |m+1,n=>if(nd l n).parent=-1 then true else gh l m (nd l n).parent
def r7 (l:List ai):Nat→Int→List Int
 |0,_=>[]
 |m+1,n=>n::if(nd l n).parent=-1 then[] else r7 l m (nd l n).parent
def bX (l:List ai):Nat→Int→List Int
 |0,_=>[]
 |m+1,n=>n::(nd l n).kids.flatMap (bX l m)
def bA (l:List ai)(n:Int):List Int:=r7 l l.length n
theorem iE {l:List ai}:∀ {m:Nat} {n:Int},fE l m n=true→gh l m n=true
 |0,n,h=>by simp[fE] at h
 | m +1,n,h=>by
   unfold gh
   by_cases hp:(nd l n).parent=-1
   ·rw[if_pos hp]
   ·rw[if_neg hp]
    have hu:c8 (nd l n)=(nd l n).parent:=if_neg hp
    unfold fE at h
    rw[hu,if_neg hp] at h
    exact iE h
theorem sQ (l:List ai):∀ (m:Nat) (n:Int),(r7 l m n).length≤m
 |0,_=>Nat.le_refl _
 | m +1,n=>by
   unfold r7
   split
   ·simp
   ·have:=sQ l m (nd l n).parent
    simp;omega
theorem qc {l:List ai}:∀ {m k:Nat} {n:Int},gh l m n=true→m≤k→r7 l k n=r7 l m n
 |0,k,n,h,_=>by simp[gh] at h
 | m +1,k,n,h,hk=>by
   obtain⟨k,rfl⟩:∃j,k=j+1:=⟨k-1,by omega⟩
   unfold gh at h
   unfold r7
   by_cases hp:(nd l n).parent=-1
   ·rw[if_pos hp,if_pos hp]
   ·rw[if_neg hp] at h
    rw[if_neg hp,if_neg hp,qc h (by omega)]
structure Tree (l:List ai):Prop where
 par:∀n,af l n=true→(nd l n).parent≠-1→af l (nd l n).parent=true∧n∈ (nd l (nd l n).parent).kids
 kid:∀n,af l n=true→∀k∈ (nd l n).kids,af l k=true∧(nd l k).parent=n
 dup:∀n,af l n=true→(nd l n).kids.Nodup
 fin:∀n,af l n=true→gh l l.length n=true
 Hw:∀n,af l n=true→fq (nd l n)=true
theorem aV {l:List ai}{n:Int}(h:af l n=true):0≤n∧n< (l.length:Int):=by
 unfold af at h;simpa using h
variable {l : List ai}
theorem gZ (T:Tree l){P:Int→Prop}(h0:∀n,af l n=true→(nd l n).parent=-1→P n)(h1:∀n,af l n=true→(nd l n).parent≠-1→af l (nd l n).parent=true→P (nd l n).parent→P n):∀n,af l n=true→P n:=by
 have H:∀ (m:Nat) (n:Int),af l n=true→gh l m n=true→P n:=by
  intro m
  induction m with
  |zero=>intro n _ h;simp[gh] at h
  | succ m ih=>
    intro n hn h
    unfold gh at h
    by_cases hp:(nd l n).parent=-1
    ·exact h0 n hn hp
    ·rw[if_neg hp] at h
     have hq:=(T.par n hn hp).1
     exact h1 n hn hp hq (ih _ hq h)
 exact fun n hn=>H _ n hn (T.fin n hn)
theorem dR (T:Tree l){n:Int}(hn:af l n=true)(hp:(nd l n).parent=-1):bA l n=[n]:=by
 have:=aV hn
 obtain⟨m,hm⟩:∃m,l.length=m+1:=⟨l.length-1,by omega⟩
 unfold bA;rw[hm];unfold r7;rw[if_pos hp]
theorem bW (T:Tree l){n:Int}(hn:af l n=true)(hp:(nd l n).parent≠-1):bA l n=n::bA l (nd l n).parent:=by
 have:=aV hn
 obtain⟨m,hm⟩:∃m,l.length=m+1:=⟨l.length-1,by omega⟩
 have hf:=T.fin n hn
 unfold bA;rw[hm] at hf ⊢
 unfold gh at hf
 rw[if_neg hp] at hf
 rw[r7,if_neg hp,qc hf (Nat.le_succ m)]
theorem ej (T:Tree l){n k:Int}(hn:af l n=true)(hk:k∈ (nd l n).kids):bA l k=k::bA l n:=by
 have h:=T.kid n hn k hk
 have h0:=aV hn
 have hp:(nd l k).parent≠-1:=by rw[h.2];omega
 rw[bW T h.1 hp,h.2]
theorem dP (T:Tree l){n:Int}(hn:af l n=true):∃r,bA l n=n::r:=by
 by_cases hp:(nd l n).parent=-1
 ·exact⟨[],dR T hn hp⟩
 ·exact⟨_,bW T hn hp⟩
theorem cV (T:Tree l){n:Int}(hn:af l n=true):n∈bA l n:=by
 obtain⟨r,hr⟩:=dP T hn;rw[hr];exact dJ
theorem lB (n:Int):(bA l n).length≤l.length:=sQ l _ n
theorem fW (T:Tree l):∀n,af l n=true→∀a∈bA l n,af l a=true:=by
 refine gZ T (fun n hn hp a ha=>?_) (fun n hn hp hq ih a ha=>?_)
 ·rw[dR T hn hp] at ha;rw[gg.1 ha];exact hn
 ·rw[bW T hn hp] at ha
  rcases dm.1 ha with rfl|h
  ·exact hn
  ·exact ih a h
theorem gV (T:Tree l):∀n,af l n=true→∀a∈bA l n,∃t,bA l n=t++bA l a:=by
 refine gZ T (fun n hn hp a ha=>?_) (fun n hn hp hq ih a ha=>?_)
 ·have h:=ha;rw[dR T hn hp] at h;rw[gg.1 h];exact⟨[],rfl⟩
 ·have h:=ha
  rw[bW T hn hp] at h
  rcases dm.1 h with rfl|h
  ·exact⟨[],rfl⟩
  ·obtain⟨t,ht⟩:=ih a h
   exact⟨n::t,by rw[bW T hn hp,ht];rfl⟩
theorem nO (T:Tree l){a b c:Int}(hc:af l c=true)(h1:a∈bA l b)(h2:b∈bA l c):a∈bA l c:=by
 obtain⟨t,ht⟩:=gV T c hc b h2
 rw[ht];exact List.mem_append_right _ h1
theorem AS (T:Tree l){n a b:Int}(hn:af l n=true)(ha:a∈bA l n)(hb:b∈bA l n)(he:(bA l a).length=(bA l b).length):a=b:=by
 obtain⟨t,ht⟩:=gV T n hn a ha
 obtain⟨s,hs⟩:=gV T n hn b hb
 rw[ht] at hs
 have h:=(List.append_inj' hs he).2
 obtain⟨r,hr⟩:=dP T (fW T n hn a ha)
 obtain⟨q,hq⟩:=dP T (fW T n hn b hb)
 rw[hr,hq] at h
 exact(List.cons.inj h).1
theorem ef (T:Tree l):∀ (m:Nat) (n:Int),af l n=true→∀b∈bX l m n,af l b=true∧n∈bA l b
 |0,n,_,b,hb=>by simp[bX] at hb
 | m +1,n,hn,b,hb=>by
   unfold bX at hb
   rcases dm.1 hb with rfl|h
   ·exact⟨hn,cV T hn⟩
   ·obtain⟨k,hk,hbk⟩:=List.mem_flatMap.1 h
    have hkk:=T.kid n hn k hk
    obtain⟨h1,h2⟩:=ef T m k hkk.1 b hbk
    refine⟨h1,nO T h1 ?_ h2⟩
    rw[ej T hn hk]
    exact c7 _ (cV T hn)
theorem pW (T:Tree l):∀ (m:Nat) (n:Int),af l n=true→l.length+1≤m+ (bA l n).length→∀x∈bX l m n,∀k∈ (nd l x).kids,k∈bX l m n
 |0,n,_,_,x,hx,_,_=>by simp[bX] at hx
 | m +1,n,hn,hm,x,hx,k,hk=>by
   unfold bX at hx ⊢
   refine c7 _ (List.mem_flatMap.2 ?_)
   rcases dm.1 hx with rfl|h
   ·have hkk:=T.kid x hn k hk
    have h1:=lB (l:=l) k
    rw[ej T hn hk] at h1
    have h2:(bA l x).length+1≤l.length:=h1
    obtain⟨j,hj⟩:∃j,m=j+1:=⟨m-1,by omega⟩
    refine⟨k,hk,?_⟩
    rw[hj];unfold bX;exact dJ
   ·obtain⟨c,hc,hxc⟩:=List.mem_flatMap.1 h
    have hcc:=T.kid n hn c hc
    refine⟨c,hc,pW T m c hcc.1 ?_ x hxc k hk⟩
    rw[ej T hn hc];simp;omega
theorem wU (T:Tree l){m:Nat}{n:Int}(hn:af l n=true)(hm:l.length+1≤m+ (bA l n).length):∀b,af l b=true→n∈bA l b→b∈bX l m n:=by
 have hself:n∈bX l m n:=by
  have:=lB (l:=l) n
  obtain⟨j,hj⟩:∃j,m=j+1:=⟨m-1,by omega⟩
  rw[hj];unfold bX;exact dJ
 refine gZ T (fun b hb hp h=>?_) (fun b hb hp hq ih h=>?_)
 ·rw[dR T hb hp] at h;rw[←gg.1 h];exact hself
 ·rw[bW T hb hp] at h
  rcases dm.1 h with rfl|h
  ·exact hself
  ·exact pW T m n hn hm _ (ih h) _ (T.par b hb hp).2
theorem tF (T:Tree l){n:Int}(hn:af l n=true):l.length+1≤l.length+ (bA l n).length:=by
 obtain⟨r,hr⟩:=dP T hn
 rw[hr];simp
theorem lp (T:Tree l){a b:Int}(ha:af l a=true)(hb:af l b=true):b∈bX l l.length a↔a∈bA l b:=
 ⟨fun h=>(ef T _ a ha b h).2,fun h=>wU T ha (tF T ha) b hb h⟩
theorem ku (T:Tree l):∀ (m:Nat) (n:Int),af l n=true→(bX l m n).Nodup
 |0,_,_=>List.nodup_nil
 | m +1,n,hn=>by
   unfold bX
   refine List.nodup_cons.2 ⟨fun h=>?_,?_⟩
   ·obtain⟨k,hk,hnk⟩:=List.mem_flatMap.1 h
    have hkk:=T.kid n hn k hk
    have h1:=(ef T m k hkk.1 n hnk).2
    obtain⟨t,ht⟩:=gV T n hn k h1
    have h2:=congrArg List.length ht
    rw[ej T hn hk] at h2
    simp at h2
    omega
   ·refine List.pairwise_flatMap.2 ⟨fun k hk=>ku T m k (T.kid n hn k hk).1,?_⟩
    refine List.Pairwise.imp_of_mem (fun{a b} ha hb hab x hx y hy e=>?_) (T.dup n hn)
    subst e
    have h1:=ef T m a (T.kid n hn a ha).1 x hx
    have h2:=ef T m b (T.kid n hn b hb).1 x hy
    refine hab (AS T h1.1 h1.2 h2.2 ?_)
    rw[ej T hn ha,ej T hn hb];rfl
theorem vH:∀ (s t:List Int),t.Nodup→(∀x∈t,x∈s)→t.length≤s.length
 | [],t,_,h=>by
   cases t with
   |nil=>exact Nat.le_refl _
   |cons a r=>exact absurd (h a dJ) (by simp)
 | a::s,t,hd,h=>by
   have h1:=vH s (t.erase a) (hd.erase a) (fun x hx=>by
   have h2:=(hd.mem_erase_iff).1 hx
   rcases dm.1 (h x h2.2) with e|e
   ·exact absurd e h2.1
   ·exact e)
   have h3:t.length≤ (t.erase a).length+1:=by rw[List.length_erase];split<;>omega
   simp;omega
theorem qt {t:List Int}{n:Nat}(hd:t.Nodup)(h:∀x∈t,0≤x∧x< (n:Int)):t.length≤n:=by
 have:=vH ((List.range n).map (fun k:Nat=>(k:Int))) t hd (fun x hx=>by
  have:=h x hx
  exact List.mem_map.2 ⟨x.toNat,List.mem_range.2 (by omega),by omega⟩)
 simpa using this
theorem sL (T:Tree l)(m:Nat){n:Int}(hn:af l n=true):(bX l m n).length≤l.length:=
 qt (ku T m n hn) fun x hx=>aV (ef T m n hn x hx).1
def Ak (l:List ai)(n:Int)(x:ai)(c:Int):Bool:=
 af l c&&(decide ((nd l c).parent=n)&&(decide ((nd l c).doc=x.doc)&&(decide ((nd l c).kind=1)||(decide ((nd l c).kind=2)&&decide (x.kind≠0)))))
theorem kS {n:Int}{x:ai}:∀ {cs pre:List Int},j8 l n x pre cs=true↔ (∀c∈cs,Ak l n x c=true)∧cs.Nodup∧(∀c∈cs,c∉pre)
 |[],pre=>by simp[j8]
 | a ::r,pre=>by
   have hk:zZ l n x pre a=true↔Ak l n x a=true∧a∉pre:=by
    unfold zZ Ak me
    simp only[bQ,jK,bO,Bool.not_eq_true',dh]
    constructor
    ·rintro⟨⟨⟨⟨h1,h2⟩,h3⟩,h4⟩,h5⟩;exact⟨⟨h1,h3,h4,h5⟩,h2⟩
    ·rintro⟨⟨h1,h3,h4,h5⟩,h2⟩;exact⟨⟨⟨⟨h1,h2⟩,h3⟩,h4⟩,h5⟩
   unfold j8
   rw[bQ,hk,kS,List.nodup_cons]
   constructor
   ·rintro⟨⟨h1,h2⟩,h3,h4,h5⟩
    refine⟨fun c hc=>?_,⟨fun h=>?_,h4⟩,fun c hc=>?_⟩
    ·rcases dm.1 hc with rfl|h
     ·exact h1
     ·exact h3 c h
    ·exact h5 a h (by simp)
    ·rcases dm.1 hc with rfl|h
     ·exact h2
     ·exact fun h6=>h5 c h (List.mem_append_left _ h6)
   ·rintro⟨h1,⟨h2,h3⟩,h4⟩
    refine⟨⟨h1 a dJ,h4 a dJ⟩,fun c hc=>h1 c (c7 _ hc),h3,fun c hc h=>?_⟩
    rcases List.mem_append.1 h with h|h
    ·exact h4 c (c7 _ hc) h
    ·rw[gg] at h;subst h;exact h2 hc
theorem rH {f:ForM}(h:aX f=true):∀n,af f.nodes n=true→dx f.nodes n (nd f.nodes n)=true:=by
 intro n hn
 obtain⟨k,x,rfl,hk,hx⟩:=aU.1 hn
 unfold aX at h
 simp only[bQ] at h
 have:=jn.1 h.2.1 k x hk
 rw[hx];simpa using this
theorem th {f:ForM}(h:aX f=true):∀n,af f.nodes n=true→fE f.nodes f.nodes.length n=true:=by
 intro n hn
 obtain⟨k,x,rfl,hk,hx⟩:=aU.1 hn
 unfold aX at h
 simp only[bQ] at h
 simpa using jn.1 h.2.2 k x hk
theorem gl {f:ForM}(h:aX f=true):Tree f.nodes:=by
 have hN:=rH h
 have hB:∀n,af f.nodes n=true→(∀c∈ (nd f.nodes n).kids,Ak f.nodes n (nd f.nodes n) c=true)∧(nd f.nodes n).kids.Nodup:=by
  intro n hn
  have h1:=hN n hn
  unfold dx oS at h1
  simp only[bQ] at h1
  have:=kS.1 h1.2.2.2.1.1
  exact⟨this.1,this.2.1⟩
 refine⟨fun n hn hp=>?_,fun n hn k hk=>?_,fun n hn=>(hB n hn).2,fun n hn=>iE (th h n hn),fun n hn=>?_⟩
 ·have h1:=hN n hn
  unfold dx rG at h1
  simp only[bQ,jK,bO] at h1
  rcases h1.2.2.1 with h2|h2
  ·exact absurd h2 hp
  ·refine⟨h2.1.1.2,?_⟩
   have:=h2.2
   unfold me at this;simpa using this
 ·have h1:=(hB n hn).1 k hk
  unfold Ak at h1
  simp only[bQ,bO] at h1
  exact⟨h1.1,h1.2.1⟩
 ·have h1:=hN n hn
  unfold dx at h1
  simp only[bQ] at h1
  exact h1.1
end Go.Proofs.Heir
end
section
namespace Go.Proofs.Heir
open Go Go.Am Go.RowKit Go.Lib
set_option maxRecDepth 100000
set_option maxHeartbeats 8000000
@[reducible] def jI : ByteArray := ⟨⟨[100, 105, 115, 97, 98, 108, 101, 100]⟩⟩
@[reducible] def HD : ByteArray := ⟨⟨[108, 101, 103, 101, 110, 100]⟩⟩
@[reducible] def Ij : ByteArray := ⟨⟨[102, 105, 101, 108, 100, 115, 101, 116]⟩⟩
def fI (x:ai):Bool:=decide (x.kind=1)&&decide (0≤bU x.attrs jI)
def mD (l:List ai)(k:Int):Bool:=decide ((nd l k).kind=1)&&decide ((nd l k).name=HD)
def Cq (p:Int→Bool)(cs:List Int):Int:=if 0≤eC p cs then(cs[(eC p cs).toNat]?).getD (-1) else-1
def lJ (l:List ai)(n:Int):Int:=Cq (mD l) (nd l n).kids
def yS (l:List ai)(p b:Int):Bool:=decide ((nd l p).name=Ij)&&(fI (nd l p)&&decide (lJ l p≠b))
def lW (l:List ai):Nat→Int→Bool
 |0,_=>false
 |m+1,b=>if(nd l b).parent=-1 then false else(yS l (nd l b).parent b||lW l m (nd l b).parent)
def jv (l:List ai)(n:Int):Bool:=fI (nd l n)||(decide ((nd l n).kind=1)&&lW l l.length n)
theorem BT {α:Type}{p q:α→Bool}{l:List α}(h:∀x∈l,p x=q x):eC p l=eC q l:=by
 unfold eC
 rw[show l.findIdx? p=l.findIdx? q from ?_]
 induction l with
 |nil=>rfl
 | cons a r ih=>
   rw[List.findIdx?_cons,List.findIdx?_cons,h a dJ,ih fun x hx=>h x (c7 _ hx)]
variable {l : List ai}
theorem Aa (T:Tree l){n:Int}(hn:af l n=true):(nd l n).kind=1∨((nd l n).kind≠1∧(nd l n).name=⟨#[]⟩∧(nd l n).attrs=[]):=by
 have h:=T.Hw n hn
 unfold fq at h
 by_cases e1:(nd l n).kind=1
 ·exact .inl e1
 ·right
  rw[if_neg e1] at h
  refine⟨e1,?_⟩
  split at h
  ·simp only[bQ,bO] at h
   exact⟨h.1.1.2,h.2⟩
  ·split at h
   ·simp only[bQ,bO] at h
    exact⟨h.1.1.1,h.2⟩
   ·cases h
theorem oP:bH jI=true:=by decide+kernel
theorem Hj {x:ai}(h:fI x=true):x.kind=1:=by
 unfold fI at h;simp only[bQ,bO] at h;exact h.1
theorem vU (T:Tree l):∀ (m:Nat) (b:Int),gh l m b=true→(lW l m b=true↔ ∃c∈r7 l m b,(nd l c).parent≠-1∧yS l (nd l c).parent c=true)
 |0,b,h=>by simp[gh] at h
 | m +1,b,h=>by
   unfold gh at h
   unfold lW r7
   by_cases hp:(nd l b).parent=-1
   ·rw[if_pos hp,if_pos hp]
    constructor
    ·intro h;cases h
    ·rintro⟨c,hc,h1,_⟩
     rw[gg.1 hc] at h1
     exact absurd hp h1
   ·rw[if_neg hp] at h
    rw[if_neg hp,if_neg hp,jK,vU T m _ h]
    constructor
    ·rintro(h1|⟨c,hc,h1⟩)
     ·exact⟨b,dJ,hp,h1⟩
     ·exact⟨c,c7 _ hc,h1⟩
    ·rintro⟨c,hc,h1,h2⟩
     rcases dm.1 hc with rfl|hc
     ·exact .inl h2
     ·exact .inr ⟨c,hc,h1,h2⟩
end Go.Proofs.Heir
end
section
namespace Go.Proofs.Heir
open Go Go.Am Go.RowKit Go.Lib
set_option maxRecDepth 100000
set_option maxHeartbeats 8000000
def fD (g:Int→Int):Nat→Int→Bool
 |0,_=>false
 |m+1,n=>if g n=-1 then true else fD g m (g n)
def qA (g:Int→Int):Nat→Int→List Int
 |0,_=>[]
 |m+1,n=>n::if g n=-1 then[] else qA g m (g n)
theorem zI {g:Int→Int}:∀ {m k:Nat} {n:Int},fD g m n=true→m≤k→qA g k n=qA g m n∧fD g k n=true
 |0,k,n,h,_=>by simp[fD] at h
 | m +1,k,n,h,hk=>by
   obtain⟨k,rfl⟩:∃j,k=j+1:=⟨k-1,by omega⟩
   unfold fD at h ⊢
   unfold qA
   by_cases hp:g n=-1
   ·rw[if_pos hp,if_pos hp,if_pos hp];exact⟨rfl,rfl⟩
   ·rw[if_neg hp] at h
    rw[if_neg hp,if_neg hp,if_neg hp,(zI h (Nat.le_of_succ_le_succ hk)).1]
    exact⟨rfl,(zI h (Nat.le_of_succ_le_succ hk)).2⟩
theorem MB {g:Int→Int}:∀ {m:Nat} {n a:Int},fD g m n=true→a∈qA g m n→fD g m a=true∧∃t,qA g m n=t++qA g m a
 |0,n,a,h,_=>by simp[fD] at h
 | m + 1,n,a,h,ha=>by
   by_cases e:a=n
   ·subst e;exact⟨h,[],rfl⟩
   ·unfold fD at h
    unfold qA at ha
    by_cases hp:g n=-1
    ·rw[if_pos hp] at ha;exact absurd (gg.1 ha) e
    ·rw[if_neg hp] at h ha
     rcases dm.1 ha with h1|h1
     ·exact absurd h1 e
     ·obtain⟨h2,t,ht⟩:=MB h h1
      have h3:=zI h2 (Nat.le_succ m)
      refine⟨h3.2,n::t,?_⟩
      rw[show m.succ=m+1 from rfl] at h3
      rw[h3.1,qA,if_neg hp,ht];rfl
theorem Mg {g:Int→Int}:∀ {m:Nat} {n:Int},fD g m n=true→(qA g m n).Nodup
 |0,n,h=>by simp[fD] at h
 | m +1,n,h=>by
   have h0:=h
   unfold fD at h
   unfold qA
   by_cases hp:g n=-1
   ·rw[if_pos hp];simp
   ·rw[if_neg hp] at h ⊢
    refine List.nodup_cons.2 ⟨fun hin=>?_,Mg h⟩
    obtain⟨h2,t,ht⟩:=MB h hin
    have h3:=(zI h2 (Nat.le_succ m)).1
    rw[show m.succ=m+1 from rfl,qA,if_neg hp,ht] at h3
    have:=congrArg List.length h3
    simp at this
    omega
theorem MJ {g:Int→Int}:∀ {m k:Nat} {n:Int},fD g m n=true→(qA g m n).length≤k→fD g k n=true
 |0,k,n,h,_=>by simp[fD] at h
 |m+1,0,n,_,hk=>by unfold qA at hk;simp at hk
 | m +1,k+1,n,h,hk=>by
   unfold fD at h ⊢
   unfold qA at hk
   by_cases hp:g n=-1
   ·rw[if_pos hp]
   ·rw[if_neg hp] at h hk ⊢
    exact MJ h (by simp at hk;omega)
theorem M1 {g:Int→Int}{P:Int→Prop}(hg:∀n,P n→g n≠-1→P (g n)):∀ {m:Nat} {n:Int},P n→∀a∈qA g m n,P a
 |0,n,_,a,ha=>by simp[qA] at ha
 | m +1,n,hn,a,ha=>by
   unfold qA at ha
   rcases dm.1 ha with rfl|h
   ·exact hn
   ·by_cases hp:g n=-1
    ·rw[if_pos hp] at h;simp at h
    ·rw[if_neg hp] at h
     exact M1 hg (hg n hn hp) a h
theorem iq (l:List ai):∀ (m:Nat) (n:Int),fE l m n=fD (fun n=>c8 (nd l n)) m n
 |0,_=>rfl
 |m+1,n=>by unfold fE fD;rw[iq l m]
def Ki (x:ai):Bool:=
 if x.kind=1 then bH x.name&&decide (fR x.name=x.name)&&(decide (x.is=⟨#[]⟩)||jO x.is)&&decide (x.data=⟨#[]⟩)&&cE x.attrs
 else decide (x.name=⟨#[]⟩)&&decide (x.is=⟨#[]⟩)&&decide (x.attrs=[])&&(decide (x.data=⟨#[]⟩)||(decide (x.kind=2)&&decide (x.data.size≤200)))
theorem AT {x:ai}:fq x=true↔ (0≤x.kind∧x.kind≤4)∧Ki x=true:=by
 unfold fq Ki
 by_cases e1:x.kind=1
 ·rw[if_pos e1,if_pos e1]
  exact⟨fun h=>⟨by omega,h⟩,fun h=>h.2⟩
 ·rw [if_neg e1,if_neg e1]
  by_cases e2:x.kind=2
  ·rw[if_pos e2]
   simp only[bQ,jK,bO]
   constructor
   ·rintro⟨⟨⟨h1,h2⟩,h3⟩,h4⟩
    exact⟨by omega,⟨⟨h2,h3⟩,h4⟩,.inr ⟨e2,h1⟩⟩
   ·rintro⟨_,⟨⟨h2,h3⟩,h4⟩,h5⟩
    refine⟨⟨⟨?_,h2⟩,h3⟩,h4⟩
    rcases h5 with h|h
    ·rw[h];exact Nat.zero_le _
    ·exact h.2
  ·rw [if_neg e2]
   by_cases e3:x.kind=0∨x.kind=3∨x.kind=4
   ·rw[if_pos e3]
    simp only[bQ,jK,bO]
    constructor
    ·rintro⟨⟨⟨h1,h2⟩,h3⟩,h4⟩
     exact⟨by omega,⟨⟨h1,h2⟩,h4⟩,.inl h3⟩
    ·rintro⟨_,⟨⟨h1,h2⟩,h4⟩,h3|h3⟩
     ·exact⟨⟨⟨h1,h2⟩,h3⟩,h4⟩
     ·exact absurd h3.1 e2
   ·rw[if_neg e3]
    constructor
    ·intro h;cases h
    ·rintro⟨h,_⟩;omega
variable {l : List ai}
theorem HT (h:∀n,af l n=true→dx l n (nd l n)=true):∀n,af l n=true→c8 (nd l n)=-1∨af l (c8 (nd l n))=true:=by
 intro n hn
 have h0:=h n hn
 unfold dx at h0
 simp only[bQ] at h0
 obtain⟨_,_,hH,_,hS⟩:=h0
 unfold c8
 unfold rG at hH
 simp only[bQ,jK,bO] at hH
 by_cases e:(nd l n).parent=-1
 ·rw[if_pos e]
  unfold jT at hS
  rw[bQ] at hS
  by_cases e4:(nd l n).kind=4
  ·rw[if_pos e4] at hS
   unfold jY at hS
   simp only[bQ] at hS
   exact .inr hS.1.1.1.1
  ·rw[if_neg e4] at hS
   exact .inl (by simpa using hS.1)
 ·rw[if_neg e]
  rcases hH with h|h
  ·exact absurd h e
  ·exact .inr h.1.1.2
theorem wF (p:Int→ai→Bool):n7 (fun k x=>p k x) 0 l=true↔ ∀n,af l n=true→p n (nd l n)=true:=by
 rw[jn]
 constructor
 ·intro h n hn
  obtain⟨k,x,rfl,hk,hx⟩:=aU.1 hn
  have:=h k x hk
  rw[hx];simpa using this
 ·intro h k x hk
  have:=h k (dM hk)
  rw[cz hk] at this
  simpa using this
end Go.Proofs.Heir
end
namespace Go.Proofs.Heir
open Go Go.Am Go.RowKit Go.Lib
set_option maxRecDepth 100000
set_option maxHeartbeats 8000000
theorem zw {α:Type}{p:Nat→α→Bool}{l:List α}{k:Nat}{x:α}(h:l[k]? =some x)(hp:p k x=false):n7 p 0 l=false:=by
 rw[Bool.eq_false_iff]
 intro h1
 have:=jn.1 h1 k x h
 rw[Nat.zero_add,hp] at this
 cases this
theorem vC {α:Type}{p:Nat→α→Bool}{l:List α}(h:∀k x,l[k]? =some x→p k x=true):n7 p 0 l=true:=
 jn.2 fun k x hx=>by rw[Nat.zero_add];exact h k x hx
theorem LQ (f:ForM)(hs:bE f.nodes):an Tryz.prog 55 [] [aY f] [] (bB (aX f)):=by
 have hl:=hs.len
 have h38:∀x∈f.nodes,an Tryz.prog 115 [] [az x] [] (bB (fq x)):=fun x hx=>Jv x (by have:=hs.attrs x hx;omega)
 have h39:=Ih f
 have h40:=I8 f hs
 have h41:=HC f hs
 have h42:=IT f
 have h43:(∀n,af f.nodes n=true→dx f.nodes n (nd f.nodes n)=true)→∀k,k<f.nodes.length→an Tryz.prog 120 [] [aY f,aj k] [] (bB (fE f.nodes f.nodes.length k)):=fun hN k hk=>IL f (by omega) (fun k x hx=>by have:=HT hN k (dM hx);rwa [cz hx] at this) k hk
 obtain⟨l,m⟩:=f
 unfold aX oV
 simp only at hl h38 h39 h40 h41 h42 h43 ⊢
 have hlm:(l.map bJ).length=l.length:=cj ..
 refine an.aF (rvs:=[.tmp 2]) G au Tryz.func55 rfl Tryz.ntmps55 rfl rfl ?_;with_reducible refine wD ?_
 by_cases e1:m<1
 ·have c1:decide (1≤m)=false:=bY (by omega)
  rw[c1]
  (have fct:=e1;(repeat' (first
  |refine gF ?_|refine aE ?_ ?_
  |apply trivial));all_goals clear fct)
  all_goals simp
 by_cases e2:400<m
 ·have c1:decide (m≤400)=false:=bY (by omega)
  rw[c1]
  (have fct:=And.intro (eq_false e1) (e2);(repeat' (first
  |refine gF ?_|refine aE ?_ ?_
  |apply trivial));all_goals clear fct)
  all_goals simp
 by_cases e3:l.length<1
 ·have c1:decide (1≤l.length)=false:=bY (by omega)
  have e3':(l.length:Int)<1:=by omega
  rw[c1]
  (have fct:=And.intro (eq_false e1) (And.intro (eq_false e2) (And.intro hlm (e3')));(repeat' (first
  |refine gF ?_|refine aE ?_ ?_
  |apply trivial));all_goals clear fct)
  all_goals simp
 have e3':¬ (l.length:Int)<1:=by omega
 by_cases e4:m< (l.length:Int)
 ·have c1:decide ((l.length:Int)≤m)=false:=bY (by omega)
  rw[c1]
  (have fct:=And.intro (eq_false e1) (And.intro (eq_false e2) (And.intro hlm (And.intro (eq_false e3') (e4))));(repeat' (first
  |refine gF ?_|refine aE ?_ ?_
  |apply trivial));all_goals clear fct)
  all_goals simp
 obtain⟨x0,hx0⟩:∃x,l[0]? =some x:=⟨_,bz (by omega)⟩
 have hn0:nd l 0=x0:=cz (k:=0) hx0
 rw[hn0]
 obtain⟨z1,z2,z3,z4,z5,z6,z7,z8,z9,z10⟩:=x0
 by_cases e5:¬z1=0
 ·(have fct:=And.intro (eq_false e1) (And.intro (eq_false e2) (And.intro hlm (And.intro (eq_false e3') (And.intro (eq_false e4) ((eq_false e5))))));(repeat' (first
  |refine gF ?_|refine aE ?_ ?_
  |((refine aG.mk 0 (az ⟨z1,z2,z3,z4,z5,z6,z7,z8,z9,z10⟩) rfl (ah hx0) ?_)<;>with_reducible refine wK ?_)
  |apply trivial));all_goals clear fct)
  all_goals simp[e5]
 have e5:=Decidable.not_not.1 e5
 have c1:(decide (1≤m)&&decide (m≤400)&&decide (1≤l.length)&&decide ((l.length:Int)≤m)&&decide (z1=0))=true:=by
  simp only[bQ,bO];omega
 simp only at c1 ⊢
 rw[c1,Bool.true_and]
 (have fct:=And.intro (eq_false e1) (And.intro (eq_false e2) (And.intro hlm (And.intro (eq_false e3') (And.intro (eq_false e4) (e5)))));(repeat' (first
  |refine gF ?_|refine aE ?_ ?_
  |((refine aG.mk 0 (az ⟨z1,z2,z3,z4,z5,z6,z7,z8,z9,z10⟩) rfl (ah hx0) ?_)<;>with_reducible refine wK ?_)
  |apply trivial));all_goals clear fct)
 refine cn.use G au (fun(k:Nat)=>[(1,.ptr 10 0 0),(44,rE l),(45,aj l.length),(46,aj k)]) (fun _=>[(10,.live 2 [aY ⟨l,m⟩] false)])
  (fun k=>k≤l.length∧∀j x,j<k→l[j]? =some x→dx l j x=true) (fun k=>l.length-k) 0 ⟨Nat.zero_le _,fun j x h=>by omega⟩
  ⟨⟨rfl,rfl⟩,⟨⟨rfl,rfl⟩,rfl,by show(l.length:Int)=((l.map bJ).length:Int);rw[hlm],rfl,trivial⟩,⟨⟨rfl,rfl,trivial⟩,trivial⟩,trivial⟩ ?_
 rintro k ⟨hk,hok⟩
 with_reducible refine wK ?_
 refine bk.mk (fun g1=>?_) (fun g1=>?_)<;>(try simp only[ay] at g1)<;>with_reducible refine wK ?_
 ·have hk' : k<l.length:=by simp only[bO] at g1;omega
  obtain⟨x,hx⟩:∃x,l[k]? =some x:=⟨_,bz hk'⟩
  have h38':=h38 x (bT hx)
  have h39':=h39 k x hx
  have h40':=h40 k x hx
  have h41':=h41 k x hx
  have h42':=h42 k x hx
  have bad:dx l k x=false→n7 (fun k x=>dx l k x) 0 l=false:=fun h=>zw hx h
  have good:dx l k x=true→∀j y,j<k+1→l[j]? =some y→dx l j y=true:=fun h j y hj hy=>by
   rcases Nat.lt_or_ge j k with h6|h6
   ·exact hok j y h6 hy
   ·have:j=k:=by omega
    subst this
    rw[hx] at hy;cases hy;exact h
  obtain⟨a1,a2,a3,a4,a5,a6,a7,a8,a9,a10⟩:=x
  refine aG.mk k (az _) rfl (ah hx) ?_;with_reducible refine wK ?_
  cases q1:fq ⟨a1,a2,a3,a4,a5,a6,a7,a8,a9,a10⟩ with
  | false=>
    rw[bad (by unfold dx;rw[q1];rfl),Bool.false_and]
    (have fct:=q1;(repeat' (first
  |refine gF ?_|refine aE ?_ ?_
  |(((with_reducible refine kQ 115 ?_);refine cL h38' AQ ?_)<;>with_reducible refine wK ?_)
  |apply trivial));all_goals clear fct)
  | true=>
    cases q2:uc l k ⟨a1,a2,a3,a4,a5,a6,a7,a8,a9,a10⟩ with
    | false=>
      rw[bad (by unfold dx;rw[q1,q2];rfl),Bool.false_and]
      (have fct:=And.intro q1 (q2);(repeat' (first
  |refine gF ?_|refine aE ?_ ?_
  | ((first
   |((with_reducible refine kQ 115 ?_);refine cL h38' AQ ?_)
   |((with_reducible refine kQ 116 ?_);refine cL h39' DS ?_))<;>with_reducible refine wK ?_)
  | apply trivial));all_goals clear fct)
    | true=>
      cases q3:rG l k ⟨a1,a2,a3,a4,a5,a6,a7,a8,a9,a10⟩ with
      | false=>
        rw[bad (by unfold dx;rw[q1,q2,q3];rfl),Bool.false_and]
        (have fct:=And.intro q1 (And.intro q2 (q3));(repeat' (first
  |refine gF ?_|refine aE ?_ ?_
  | ((first
   |((with_reducible refine kQ 115 ?_);refine cL h38' AQ ?_)
   |((with_reducible refine kQ 116 ?_);refine cL h39' DS ?_)
   |((with_reducible refine kQ 117 ?_);refine cL h40' FV ?_))<;>with_reducible refine wK ?_)
  |apply  trivial));all_goals clear fct)
      | true=>
        cases q4:oS l k ⟨a1,a2,a3,a4,a5,a6,a7,a8,a9,a10⟩ with
        | false=>
          rw[bad (by unfold dx;rw[q1,q2,q3,q4];rfl),Bool.false_and]
          (have fct:=And.intro q1 (And.intro q2 (And.intro q3 (q4)));(repeat' (first
  |refine gF ?_|refine aE ?_ ?_
  | ((first
   |((with_reducible refine kQ 115 ?_);refine cL h38' AQ ?_)
   |((with_reducible refine kQ 116 ?_);refine cL h39' DS ?_)
   |((with_reducible refine kQ 117 ?_);refine cL h40' FV ?_)
   |((with_reducible refine kQ 118 ?_);refine cL h41' Jt ?_))<;>with_reducible refine wK ?_)
  |apply  trivial));all_goals clear fct)
        | true=>
          cases q5:jT l k ⟨a1,a2,a3,a4,a5,a6,a7,a8,a9,a10⟩ with
          | false=>
            rw[bad (by unfold dx;rw[q1,q2,q3,q4,q5];rfl),Bool.false_and]
            (have fct:=And.intro q1 (And.intro q2 (And.intro q3 (And.intro q4 (q5))));(repeat' (first
  |refine gF ?_|refine aE ?_ ?_
  | ((first
   |((with_reducible refine kQ 115 ?_);refine cL h38' AQ ?_)
   |((with_reducible refine kQ 116 ?_);refine cL h39' DS ?_)
   |((with_reducible refine kQ 117 ?_);refine cL h40' FV ?_)
   |((with_reducible refine kQ 118 ?_);refine cL h41' Jt ?_)
   |((with_reducible refine kQ 119 ?_);refine cL h42' Kw ?_))<;>with_reducible refine wK ?_)
  |apply  trivial));all_goals clear fct)
          | true=>
            have hnx:=good (by unfold dx;rw[q1,q2,q3,q4,q5];rfl)
            (have fct:=And.intro q1 (And.intro q2 (And.intro q3 (And.intro q4 (q5))));(repeat' (first
  |refine gF ?_|refine aE ?_ ?_
  | ((first
   |((with_reducible refine kQ 115 ?_);refine cL h38' AQ ?_)
   |((with_reducible refine kQ 116 ?_);refine cL h39' DS ?_)
   |((with_reducible refine kQ 117 ?_);refine cL h40' FV ?_)
   |((with_reducible refine kQ 118 ?_);refine cL h41' Jt ?_)
   |((with_reducible refine kQ 119 ?_);refine cL h42' Kw ?_)
   |((with_reducible show cm _ _);refine cm.mk (k+1) ⟨by omega,hnx⟩ (by omega) ⟨⟨rfl,rfl⟩,⟨⟨rfl,rfl⟩,rfl,rfl,by show((k+1:Nat):Int)=(k:Int)+1;omega,trivial⟩,⟨⟨rfl,rfl,trivial⟩,trivial⟩,trivial⟩))<;>with_reducible refine wK ?_)
  |apply trivial));all_goals clear fct)
 ·have hkl:k=l.length:=by simp only[dh] at g1;omega
  have hall:∀ (j:Nat) (x:ai),l[j]? =some x→dx l j x=true:=fun j x hx=>hok j x (by have:=(bg hx).1;omega) hx
  rw[vC hall,Bool.true_and]
  have h43':=h43 fun n hn=>by
   obtain⟨k,x,rfl,hk,hx⟩:=aU.1 hn
   rw[hx];exact hall k x hk
  refine cn.use G au (fun(k:Nat)=>[(1,.ptr 10 0 0),(82,aj l.length),(83,aj k)]) (fun _=>[(10,.live 2 [aY ⟨l,m⟩] false)])
   (fun k=>k≤l.length∧∀ (j:Nat) (x:ai),j<k→l[j]? =some x→fE l l.length j=true) (fun k=>l.length-k) 0 ⟨Nat.zero_le _,fun j x h=>by omega⟩
   ⟨⟨rfl,rfl⟩,⟨⟨rfl,rfl⟩,by show(l.length:Int)=((l.map bJ).length:Int);rw[hlm],rfl,trivial⟩,⟨⟨rfl,rfl,trivial⟩,trivial⟩,trivial⟩ ?_
  rintro i ⟨hi,hends⟩
  with_reducible refine wK ?_
  refine bk.mk (fun g2=>?_) (fun g2=>?_)<;>(try simp only[ay] at g2)<;>with_reducible refine wK ?_
  ·have hi':i<l.length:=by simp only[bO] at g2;omega
   obtain⟨y,hy⟩:∃y,l[i]? =some y:=⟨_,bz hi'⟩
   have h43'':=h43' i hi'
   refine cL h43'' MR ?_;with_reducible refine wK ?_
   cases q:fE l l.length i with
   | false=>
     rw[zw hy q]
     (have fct:=q;(repeat' (first
  |refine gF ?_|refine aE ?_ ?_
  | apply trivial));all_goals clear fct)
   | true=>
     (have fct:=q;(repeat' (first
  |refine gF ?_|refine aE ?_ ?_
  |(((with_reducible show cm _ _);refine cm.mk (i+1) ⟨by omega,fun j x hj hx=>?_⟩ (by omega) ⟨⟨rfl,rfl⟩,⟨⟨rfl,rfl⟩,rfl,by show((i+1:Nat):Int)=(i:Int)+1;omega,trivial⟩,⟨⟨rfl,rfl,trivial⟩,trivial⟩,trivial⟩)<;>with_reducible refine wK ?_)
  |apply trivial));all_goals clear fct)
     rcases Nat.lt_or_ge j i with h6|h6
     ·exact hends j x h6 hx
     ·have:j=i:=by omega
      rw[this];exact q
  ·have hil:i=l.length:=by simp only[dh] at g2;omega
   rw[vC fun j x hx=>hends j x (by have:=(bg hx).1;omega) hx]
   (refine eK ?_ ?_<;>with_reducible repeat' (first|exact trivial|(show _∧_;refine aK ?_ ?_)))
theorem ng (f:ForM)(hs:bE f.nodes):an Tryz.prog 17 [] [aY f] [] (bB (aX f)):=by
 have h23:=LQ f hs
 obtain⟨l,m⟩:=f
 refine an.aF (rvs:=[.tmp 2]) G au Tryz.func17 rfl Tryz.ntmps17 rfl rfl ?_;with_reducible refine wD ?_
 refine cL h23 Oc ?_;with_reducible refine wK ?_
 (refine eK ?_ ?_<;>with_reducible repeat' (first|exact trivial|(show _∧_;refine aK ?_ ?_)))
theorem ae (l:List Int):br (l.map bV)=true:=by
 rw[cO];intro x hx
 obtain⟨a,_,rfl⟩:=List.mem_map.1 hx
 rfl
theorem mQ (l:List Int):j7 (flat (l.map bV))=true:=mz bV (fun _=>rfl) l
theorem dj {m:ML}{fz:Nat→Bool}{tab:List (Nat×Nat)}{n t len:Nat}{ro:Bool}{rows:List AV}{l:List Int}(h1:dX m t=.live 1 rows ro)(h2:fz t=true)(h3:rows=l.map bV)(h4:len=l.length):xU m fz (MF tab fz m n) (cF l) t 0 len:=by
 subst h3;subst h4
 have e:(l.map bV).length=l.length:=cj ..
 exact .cut h1 h2 (by omega) (by rw[List.drop_zero,qB (by omega)]) (ae l)
@[reducible] def iX (l : List Int) : MS := .live 1 (l.map bV) false
def kf (l:List ai)(k:Nat):List Int:=((List.range k).filter (fun n:Nat=>jv l (n:Int))).map (fun n:Nat=>(n:Int))
theorem Hr (l:List ai)(k:Nat):kf l (k+1)=if jv l (k:Int) then kf l k++ [(k:Int)] else kf l k:=by
 unfold kf
 rw[List.range_succ,List.filter_append,gY]
 cases h:jv l (k:Int)<;>simp[h]
theorem H6 (l:List ai)(k:Nat):(kf l k).length≤k:=by
 unfold kf
 rw[cj]
 exact Nat.le_trans (List.length_filter_le ..) (by simp)
theorem vD (l:List Int)(n:Int):l.map bV++ [aj n]=(l++ [n]).map bV:=by rw[gY];rfl
@[reducible] def cJ (l : List ai) : MS := .live 10 (l.map bJ) false
@[reducible] def aQ (most : Int) (n : Nat) (t : Nat) (notes : AV) : MS := .live 3 [.agg [.own t 0 n, aj most, notes]] false
theorem yW (x:ai):bu (bJ x)=true:=by
  show bu (.agg [aj x.kind,cu x.name,cu x.is,cu x.data,dG x.attrs,aj x.parent,cF x.kids,aj x.host,aj x.under,aj x.doc])=true
  have h1:br (x.attrs.map dI)=true:=ic dI (fun _=>rfl) _
  have h2:br (x.kids.map bV)=true:=ic bV (fun _=>rfl) _
  simp[bu,br,h1,h2]
theorem aM (l:List ai):br (l.map bJ)=true:=ic bJ yW l
theorem um (l:List ai):jC [cJ l]:=⟨bD.ia fun x hx=>by
  obtain⟨a,_,rfl⟩:=List.mem_map.1 hx;rfl,aM l,trivial⟩
theorem D6 (l:List ai):j7 (flat (l.map bJ))=true:=mz bJ (fun _=>rfl) l
theorem Ao (l:List ai)(hl:l.length≤100000):an Tryz.prog 137 [] [rE l] [cJ l] (.own 0 0 l.length):=by
  have hlm:(l.map bJ).length=l.length:=cj ..
  refine an.aF (rvs:=[.tmp 2]) G au Tryz.func137 rfl Tryz.ntmps137 rfl rfl ?_;with_reducible refine wD ?_
  refine o8.mk (fun h=>?_) (fun _=>?_)<;>with_reducible refine wK ?_
  · obtain rfl:l=[]:=by simpa using h
    (refine eK ?_ ?_<;>with_reducible repeat' (first|exact trivial|(show _∧_;refine aK ?_ ?_)))
    all_goals first|rfl|trivial
  · refine j0.mk [] (l.map bJ) ⟨rfl,rfl,rfl⟩ ⟨rfl,rfl,rfl⟩ (D6 l) (by simp;omega) (by simp;omega) ?_;with_reducible refine wK ?_
    (refine eK ?_ ?_<;>with_reducible repeat' (first|exact trivial|(show _∧_;refine aK ?_ ?_)))
    ·exact hlm.symm
    ·exact bP (aM l)
theorem Hi (l:List Int)(hl:l.length≤100000):an Tryz.prog 72 [] [cF l] [] (cF l):=by
  have hlm:(l.map bV).length=l.length:=cj ..
  refine an.aF (rvs:=[.tmp 2]) G au Tryz.func72 rfl Tryz.ntmps72 rfl rfl ?_;with_reducible refine wD ?_
  refine o8.mk (fun h=>?_) (fun _=>?_)<;>with_reducible refine wK ?_
  · obtain rfl:l=[]:=by simpa using h
    (refine eK ?_ ?_<;>with_reducible repeat' (first|exact trivial|(show _∧_;refine aK ?_ ?_)))
    all_goals first|rfl|exact .inr (.inr ⟨1,rfl⟩)|trace_state
  · refine j0.mk [] (l.map bV) ⟨rfl,rfl,rfl⟩ ⟨rfl,rfl,rfl⟩ (mz bV (fun _=>rfl) l) (by simp;omega) (by simp;omega) ?_;with_reducible refine wK ?_
    (refine eK ?_ ?_<;>with_reducible repeat' (first|exact trivial|(show _∧_;refine aK ?_ ?_)))
    all_goals first|exact dj rfl rfl rfl rfl|(refine dj rfl rfl ?_ ?_<;>simp)|trace_state
theorem sE (f:ForM)(hs:bE f.nodes):an Tryz.prog 121 [] [aY f] [aQ f.most f.nodes.length 1 (.lit (.slice none 0 0)),cJ f.nodes] (.ptr 0 0 0):=by
  have h137:=Ao f.nodes (by have:=hs.len;omega)
  have h60:=hs.len
  have h182:∀ (k:Nat) (y:ai),f.nodes[k]? =some y→an Tryz.prog 72 [] [cF y.kids] [] (cF y.kids):=fun k y hy=>Hi y.kids (by have:=hs.kids y (bT hy);omega)
  have hset:∀ (k:Nat) (y:ai),f.nodes[k]? =some y→f.nodes.set k y=f.nodes:=fun k y hy=>by
    apply List.ext_getElem?
    intro n
    rw[List.getElem?_set]
    by_cases e:k=n
    · subst e
      have:=(bg hy).1
      rw[if_pos rfl,if_pos this,hy]
    ·rw[if_neg e]
  have hlm:(f.nodes.map bJ).length=f.nodes.length:=cj ..
  obtain⟨l,m⟩:=f
  simp only at h137 h60 h182 hset hlm
  refine an.aF (rvs:=[.tmp 2]) G au Tryz.func121 rfl Tryz.ntmps121 rfl rfl ?_;with_reducible refine wD ?_
  repeat' (first
    |refine gK ?_
    | ((first
      |((with_reducible show aa _ _ 137 _ _ _ _);refine aa.new 71 [] h137 Ky ⟨rfl,trivial⟩ rfl rfl rfl (um l) rfl ?_)
      |((with_reducible show aL _ _ _ _);refine dK ?_))<;>with_reducible refine wK ?_)
    |((with_reducible show(_∧_)∧_∧_);(refine eK ?_ ?_<;>with_reducible repeat' (first|exact trivial|(show _∧_;refine aK ?_ ?_)))))
  refine cn.use G au (fun(k:Nat)=>[(3,.ptr 120 0 0),(18,aj l.length),(19,aj k)])
    (fun _=>[(120,aQ m l.length 71 (.lit (.slice none 0 0))),(71,cJ l)])
    (fun k=>k≤l.length) (fun k=>l.length-k) 0 (Nat.zero_le _) ?_ ?_
  · (refine fK ?_;(with_reducible repeat' (first|exact trivial|(show _∧_;refine aK ?_ ?_)));(all_goals try rfl))
    all_goals first
      |exact⟨.refl rfl,rfl⟩
      |exact .inl rfl
      |exact⟨.refl (aM _),aM _⟩
      |trace_state
  intro k hk
  with_reducible refine wK ?_
  refine bk.mk (fun h1=>?_) (fun h1=>?_)<;>(try simp only[ay] at h1)<;>with_reducible refine wK ?_
  · have hkl:k<l.length:=by simp only[bO,ay] at h1;omega
    obtain⟨y,hy⟩:∃y,l[k]? =some y:=⟨_,bz hkl⟩
    have h182k:=h182 k y hy
    have hrow:(l.map bJ).set (0+k) (bJ y)=l.map bJ:=by
      rw[Nat.zero_add,←List.map_set,hset k y hy]
    obtain⟨y1,y2,y3,y4,y5,y6,y7,y8,y9,y10⟩:=y
    simp only at h182k
    repeat' (first
    |refine gK ?_
    | ((first
      |((with_reducible show eO _ _ _ _ _);refine eO.mk k rfl hkl ?_)
      |((with_reducible show aZ _ _ _ _ _);first|refine aZ.mk (az ⟨y1,y2,y3,y4,y5,y6,y7,y8,y9,y10⟩) (by first|exact ah hy|(rw[Nat.zero_add];exact ah hy)) ?_|refine aZ.mk _ rfl ?_)
      |((with_reducible show aa _ _ 72 _ _ _ _);refine aa.val [] h182k Hu ⟨rfl,trivial⟩ rfl rfl rfl ?_)
      |((with_reducible show aL _ _ _ _);refine dK ?_))<;>with_reducible refine wK ?_)
    |((with_reducible show(_∧_)∧_∧_);(refine eK ?_ ?_<;>with_reducible repeat' (first|exact trivial|(show _∧_;refine aK ?_ ?_)))))
    refine cm.mk (k+1) (by omega) (by omega) ?_
    (refine fK ?_;(with_reducible repeat' (first|exact trivial|(show _∧_;refine aK ?_ ?_)));(all_goals try rfl))
    all_goals first
      |exact⟨.refl rfl,rfl⟩
      |exact .inl rfl
      |exact⟨.refl (aM _),aM _⟩
      |(refine cast (congrArg (r6 _ _) hrow.symm) ?_;exact⟨.refl (aM _),aM _⟩)
      |(simp;done)
      |trace_state
  · have hjl:k=l.length:=by simp only[dh,ay] at h1;omega
    subst hjl
    repeat' (first
    |refine gK ?_
    |(((with_reducible show aL _ _ _ _);refine dK ?_)<;>with_reducible refine wK ?_)
    |((with_reducible show(_∧_)∧_∧_);(refine eK ?_ ?_<;>with_reducible repeat' (first|exact trivial|(show _∧_;refine aK ?_ ?_)))))
    all_goals first|rfl|exact .inl rfl|exact⟨.refl (aM _),aM _⟩|trace_state
end Go.Proofs.Heir
namespace Go.Proofs.Heir
open Go Go.Am Go.RowKit Go.Lib
set_option maxRecDepth 100000

end Go.Proofs.Heir
namespace Go.Proofs.Heir
open Go Go.Am Go.RowKit Go.Lib
set_option maxRecDepth 100000
set_option maxHeartbeats 8000000
def DK (x:ai):List Int:=(if x.under=-1 then[] else[x.under])++x.kids
namespace U
def gh (l:List ai):Nat→Int→Bool
 |0,_=>false
 |m+1,n=>if(c8 (nd l n))=-1 then true else gh l m (c8 (nd l n))
def r7 (l:List ai):Nat→Int→List Int
 |0,_=>[]
 |m+1,n=>n::if(c8 (nd l n))=-1 then[] else r7 l m (c8 (nd l n))
def bX (l:List ai):Nat→Int→List Int
 |0,_=>[]
 |m+1,n=>n::(DK (nd l n)).flatMap (bX l m)
def bA (l:List ai)(n:Int):List Int:=r7 l l.length n
theorem iE {l:List ai}:∀ {m:Nat} {n:Int},fE l m n=true→gh l m n=true
 |0,n,h=>by simp[fE] at h
 | m+1,n,h=>by
   unfold gh;unfold fE at h
   by_cases hp:c8 (nd l n)=-1
   ·rw[if_pos hp]
   ·rw[if_neg hp] at h ⊢;exact iE h
theorem sQ (l:List ai):∀ (m:Nat) (n:Int),(r7 l m n).length≤m
 |0,_=>Nat.le_refl _
 | m +1,n=>by
   unfold r7
   split
   ·simp
   ·have:=sQ l m (c8 (nd l n))
    simp;omega
theorem qc {l:List ai}:∀ {m k:Nat} {n:Int},gh l m n=true→m≤k→r7 l k n=r7 l m n
 |0,k,n,h,_=>by simp[gh] at h
 | m +1,k,n,h,hk=>by
   obtain⟨k,rfl⟩:∃j,k=j+1:=⟨k-1,by omega⟩
   unfold gh at h
   unfold r7
   by_cases hp:(c8 (nd l n))=-1
   ·rw[if_pos hp,if_pos hp]
   ·rw[if_neg hp] at h
    rw[if_neg hp,if_neg hp,qc h (by omega)]
structure Tree (l:List ai):Prop where
 par:∀n,af l n=true→(c8 (nd l n))≠-1→af l (c8 (nd l n))=true∧n∈ (DK (nd l (c8 (nd l n))))
 kid:∀n,af l n=true→∀k∈ (DK (nd l n)),af l k=true∧(c8 (nd l k))=n
 dup:∀n,af l n=true→(DK (nd l n)).Nodup
 fin:∀n,af l n=true→gh l l.length n=true
variable {l : List ai}
theorem gZ (T:Tree l){P:Int→Prop}(h0:∀n,af l n=true→(c8 (nd l n))=-1→P n)(h1:∀n,af l n=true→(c8 (nd l n))≠-1→af l (c8 (nd l n))=true→P (c8 (nd l n))→P n):∀n,af l n=true→P n:=by
 have H:∀ (m:Nat) (n:Int),af l n=true→gh l m n=true→P n:=by
  intro m
  induction m with
  |zero=>intro n _ h;simp[gh] at h
  | succ m ih=>
    intro n hn h
    unfold gh at h
    by_cases hp:(c8 (nd l n))=-1
    ·exact h0 n hn hp
    ·rw[if_neg hp] at h
     have hq:=(T.par n hn hp).1
     exact h1 n hn hp hq (ih _ hq h)
 exact fun n hn=>H _ n hn (T.fin n hn)
theorem dR (T:Tree l){n:Int}(hn:af l n=true)(hp:(c8 (nd l n))=-1):bA l n=[n]:=by
 have:=aV hn
 obtain⟨m,hm⟩:∃m,l.length=m+1:=⟨l.length-1,by omega⟩
 unfold bA;rw[hm];unfold r7;rw[if_pos hp]
theorem bW (T:Tree l){n:Int}(hn:af l n=true)(hp:(c8 (nd l n))≠-1):bA l n=n::bA l (c8 (nd l n)):=by
 have:=aV hn
 obtain⟨m,hm⟩:∃m,l.length=m+1:=⟨l.length-1,by omega⟩
 have hf:=T.fin n hn
 unfold bA;rw[hm] at hf ⊢
 unfold gh at hf
 rw[if_neg hp] at hf
 rw[r7,if_neg hp,qc hf (Nat.le_succ m)]
theorem ej (T:Tree l){n k:Int}(hn:af l n=true)(hk:k∈ (DK (nd l n))):bA l k=k::bA l n:=by
 have h:=T.kid n hn k hk
 have h0:=aV hn
 have hp:(c8 (nd l k))≠-1:=by rw[h.2];omega
 rw[bW T h.1 hp,h.2]
theorem dP (T:Tree l){n:Int}(hn:af l n=true):∃r,bA l n=n::r:=by
 by_cases hp:(c8 (nd l n))=-1
 ·exact⟨[],dR T hn hp⟩
 ·exact⟨_,bW T hn hp⟩
theorem cV (T:Tree l){n:Int}(hn:af l n=true):n∈bA l n:=by
 obtain⟨r,hr⟩:=dP T hn;rw[hr];exact dJ
theorem lB (n:Int):(bA l n).length≤l.length:=sQ l _ n
theorem fW (T:Tree l):∀n,af l n=true→∀a∈bA l n,af l a=true:=by
 refine gZ T (fun n hn hp a ha=>?_) (fun n hn hp hq ih a ha=>?_)
 ·rw[dR T hn hp] at ha;rw[gg.1 ha];exact hn
 ·rw[bW T hn hp] at ha
  rcases dm.1 ha with rfl|h
  ·exact hn
  ·exact ih a h
theorem gV (T:Tree l):∀n,af l n=true→∀a∈bA l n,∃t,bA l n=t++bA l a:=by
 refine gZ T (fun n hn hp a ha=>?_) (fun n hn hp hq ih a ha=>?_)
 ·have h:=ha;rw[dR T hn hp] at h;rw[gg.1 h];exact⟨[],rfl⟩
 ·have h:=ha
  rw[bW T hn hp] at h
  rcases dm.1 h with rfl|h
  ·exact⟨[],rfl⟩
  ·obtain⟨t,ht⟩:=ih a h
   exact⟨n::t,by rw[bW T hn hp,ht];rfl⟩
theorem nO (T:Tree l){a b c:Int}(hc:af l c=true)(h1:a∈bA l b)(h2:b∈bA l c):a∈bA l c:=by
 obtain⟨t,ht⟩:=gV T c hc b h2
 rw[ht];exact List.mem_append_right _ h1
theorem AS (T:Tree l){n a b:Int}(hn:af l n=true)(ha:a∈bA l n)(hb:b∈bA l n)(he:(bA l a).length=(bA l b).length):a=b:=by
 obtain⟨t,ht⟩:=gV T n hn a ha
 obtain⟨s,hs⟩:=gV T n hn b hb
 rw[ht] at hs
 have h:=(List.append_inj' hs he).2
 obtain⟨r,hr⟩:=dP T (fW T n hn a ha)
 obtain⟨q,hq⟩:=dP T (fW T n hn b hb)
 rw[hr,hq] at h
 exact(List.cons.inj h).1
theorem ef (T:Tree l):∀ (m:Nat) (n:Int),af l n=true→∀b∈bX l m n,af l b=true∧n∈bA l b
 |0,n,_,b,hb=>by simp[bX] at hb
 | m +1,n,hn,b,hb=>by
   unfold bX at hb
   rcases dm.1 hb with rfl|h
   ·exact⟨hn,cV T hn⟩
   ·obtain⟨k,hk,hbk⟩:=List.mem_flatMap.1 h
    have hkk:=T.kid n hn k hk
    obtain⟨h1,h2⟩:=ef T m k hkk.1 b hbk
    refine⟨h1,nO T h1 ?_ h2⟩
    rw[ej T hn hk]
    exact c7 _ (cV T hn)
theorem pW (T:Tree l):∀ (m:Nat) (n:Int),af l n=true→l.length+1≤m+ (bA l n).length→∀x∈bX l m n,∀k∈ (DK (nd l x)),k∈bX l m n
 |0,n,_,_,x,hx,_,_=>by simp[bX] at hx
 | m +1,n,hn,hm,x,hx,k,hk=>by
   unfold bX at hx ⊢
   refine c7 _ (List.mem_flatMap.2 ?_)
   rcases dm.1 hx with rfl|h
   ·have hkk:=T.kid x hn k hk
    have h1:=lB (l:=l) k
    rw[ej T hn hk] at h1
    have h2:(bA l x).length+1≤l.length:=h1
    obtain⟨j,hj⟩:∃j,m=j+1:=⟨m-1,by omega⟩
    refine⟨k,hk,?_⟩
    rw[hj];unfold bX;exact dJ
   ·obtain⟨c,hc,hxc⟩:=List.mem_flatMap.1 h
    have hcc:=T.kid n hn c hc
    refine⟨c,hc,pW T m c hcc.1 ?_ x hxc k hk⟩
    rw[ej T hn hc];simp;omega
theorem wU (T:Tree l){m:Nat}{n:Int}(hn:af l n=true)(hm:l.length+1≤m+ (bA l n).length):∀b,af l b=true→n∈bA l b→b∈bX l m n:=by
 have hself:n∈bX l m n:=by
  have:=lB (l:=l) n
  obtain⟨j,hj⟩:∃j,m=j+1:=⟨m-1,by omega⟩
  rw[hj];unfold bX;exact dJ
 refine gZ T (fun b hb hp h=>?_) (fun b hb hp hq ih h=>?_)
 ·rw[dR T hb hp] at h;rw[←gg.1 h];exact hself
 ·rw[bW T hb hp] at h
  rcases dm.1 h with rfl|h
  ·exact hself
  ·exact pW T m n hn hm _ (ih h) _ (T.par b hb hp).2
theorem tF (T:Tree l){n:Int}(hn:af l n=true):l.length+1≤l.length+ (bA l n).length:=by
 obtain⟨r,hr⟩:=dP T hn
 rw[hr];simp
theorem lp (T:Tree l){a b:Int}(ha:af l a=true)(hb:af l b=true):b∈bX l l.length a↔a∈bA l b:=
 ⟨fun h=>(ef T _ a ha b h).2,fun h=>wU T ha (tF T ha) b hb h⟩
theorem ku (T:Tree l):∀ (m:Nat) (n:Int),af l n=true→(bX l m n).Nodup
 |0,_,_=>List.nodup_nil
 | m +1,n,hn=>by
   unfold bX
   refine List.nodup_cons.2 ⟨fun h=>?_,?_⟩
   ·obtain⟨k,hk,hnk⟩:=List.mem_flatMap.1 h
    have hkk:=T.kid n hn k hk
    have h1:=(ef T m k hkk.1 n hnk).2
    obtain⟨t,ht⟩:=gV T n hn k h1
    have h2:=congrArg List.length ht
    rw[ej T hn hk] at h2
    simp at h2
    omega
   ·refine List.pairwise_flatMap.2 ⟨fun k hk=>ku T m k (T.kid n hn k hk).1,?_⟩
    refine List.Pairwise.imp_of_mem (fun{a b} ha hb hab x hx y hy e=>?_) (T.dup n hn)
    subst e
    have h1:=ef T m a (T.kid n hn a ha).1 x hx
    have h2:=ef T m b (T.kid n hn b hb).1 x hy
    refine hab (AS T h1.1 h1.2 h2.2 ?_)
    rw[ej T hn ha,ej T hn hb];rfl
theorem sL (T:Tree l)(m:Nat){n:Int}(hn:af l n=true):(bX l m n).length≤l.length:=
 qt (ku T m n hn) fun x hx=>aV (ef T m n hn x hx).1
theorem gl {f:ForM}(h:aX f=true):Tree f.nodes:=by
 have hN:=rH h
 have T:=Heir.gl h
 have kidK:∀n,af f.nodes n=true→∀c∈ (nd f.nodes n).kids,(nd f.nodes c).kind=1∨(nd f.nodes c).kind=2:=by
  intro n hn c hc
  have h1:=hN n hn
  unfold dx oS at h1
  simp only[bQ] at h1
  have h2:=(kS.1 h1.2.2.2.1.1).1 c hc
  unfold Ak at h2
  simp only[bQ,jK,bO] at h2
  rcases h2.2.2.2 with h3|h3
  ·exact .inl h3
  ·exact .inr h3.1
 have und:∀n,af f.nodes n=true→(nd f.nodes n).under≠-1→af f.nodes (nd f.nodes n).under=true∧(nd f.nodes (nd f.nodes n).under).kind=4∧(nd f.nodes (nd f.nodes n).under).host=n:=by
  intro n hn hu
  have h1:=hN n hn
  unfold dx jT jY at h1
  simp only[bQ,jK,bO] at h1
  rcases h1.2.2.2.2.2 with h2|h2
  ·exact absurd h2 hu
  ·exact⟨h2.1.2.1,h2.1.2.2,h2.2⟩
 have top4:∀n,af f.nodes n=true→(nd f.nodes n).kind=4→(nd f.nodes n).parent=-1:=by
  intro n hn hk
  have h1:=hN n hn
  unfold dx rG at h1
  simp only[bQ,jK,bO] at h1
  rcases h1.2.2.1 with h2|h2
  ·exact h2
  ·rcases h2.1.1.1 with h3|h3<;>(rw[hk] at h3;cases h3)
 have mem:∀ (x:ai) (k:Int),k∈DK x↔ (x.under≠-1∧k=x.under)∨k∈x.kids:=by
  intro x k
  unfold DK
  rw[List.mem_append]
  by_cases hu:x.under=-1
  ·simp[hu]
  ·simp[hu]
 refine⟨fun n hn hp=>?_,fun n hn k hk=>?_,fun n hn=>?_,fun n hn=>iE (th h n hn)⟩
 ·unfold c8 at hp ⊢
  by_cases hq:(nd f.nodes n).parent=-1
  ·rw[if_pos hq] at hp ⊢
   have h1:=hN n hn
   unfold dx jT at h1
   simp only[bQ] at h1
   have h2:=h1.2.2.2.2.1
   by_cases hk:(nd f.nodes n).kind=4
   ·rw[if_pos hk] at h2
    unfold jY at h2
    simp only[bQ,bO] at h2
    refine⟨h2.1.1.1,(mem _ _).2 (.inl ⟨?_,h2.1.2.symm⟩)⟩
    rw[h2.1.2]
    have:=aV hn
    omega
   ·rw[if_neg hk] at h2
    exact absurd (by simpa using h2) hp
  ·rw[if_neg hq]
   have h1:=T.par n hn hq
   exact⟨h1.1,(mem _ _).2 (.inr h1.2)⟩
 ·have hn0:=aV hn
  rcases(mem _ _).1 hk with⟨h1,rfl⟩|h1
  ·obtain⟨h2,h3,h4⟩:=und n hn h1
   exact⟨h2,by unfold c8;rw[if_pos (top4 _ h2 h3)];exact h4⟩
  ·obtain⟨h2,h3⟩:=T.kid n hn k h1
   exact⟨h2,by unfold c8;rw[if_neg (by rw[h3];omega)];exact h3⟩
 ·unfold DK
  by_cases hu:(nd f.nodes n).under=-1
  ·rw[if_pos hu];exact T.dup n hn
  ·rw[if_neg hu]
   refine List.nodup_cons.2 ⟨fun hm=>?_,T.dup n hn⟩
   have h1:=(und n hn hu).2.1
   rcases kidK n hn _ hm with h2|h2<;>(rw[h1] at h2;cases h2)
end U
theorem j0.take {rb rs:List AV}{off len off' len' bytes:Nat}{acc:Tk}{sl:SL}{m:ML}{A:List AV→Tk→SL→ML→Prop}(rows0 news:List AV)(h0:off=0∧len≤rb.length∧rows0=rb.take len)(h1:off'=0∧len'=rs.length∧news=rs)(h2:j7 (flat news)=true)
  (h3:(rows0.length+news.length)*bytes≤140737488355328) (h4:rows0.length+news.length≤9223372036854775807) (h:A (rows0++news) acc sl m):j0 rb off len rs off' len' bytes acc sl m (A:=A):=by
 obtain⟨rfl,hl,rfl⟩:=h0
 obtain⟨rfl,rfl,rfl⟩:=h1
 exact⟨_,_,by omega,by simp,by omega,by simp,h2,h3,h4,h⟩
theorem fM {α β:Type}{f g:α→List β}:∀ {l:List α},(∀a∈l,f a=g a)→l.flatMap f=l.flatMap g
 |[],_=>rfl
 |a::r,h=>by rw[List.flatMap_cons,List.flatMap_cons,h a dJ,fM fun b hb=>h b (c7 _ hb)]
namespace U
variable {l : List ai}
theorem nh (T:Tree l):∀ (m:Nat) (n:Int),af l n=true→l.length+1≤m+ (bA l n).length→bX l (m+1) n=bX l m n
 |0,n,_,h=>by have:=lB (l:=l) n;omega
 | m+1,n,hn,h=>by
   rw[bX,bX]
   congr 1
   refine fM fun k hk=>?_
   refine nh T m k (T.kid n hn k hk).1 ?_
   rw[ej T hn hk];simp;omega
theorem ord_eq (T:Tree l){n:Int}(hn:af l n=true):bX l l.length n=n::(DK (nd l n)).flatMap (bX l l.length):=by
 have h0:=aV hn
 obtain⟨m,hm⟩:∃m,l.length=m+1:=⟨l.length-1,by omega⟩
 have h1:∀k∈DK (nd l n),bX l l.length k=bX l m k:=fun k hk=>by
  rw[hm]
  refine nh T m k (T.kid n hn k hk).1 ?_
  obtain⟨r,hr⟩:=dP T hn
  rw[ej T hn hk,hr];simp;omega
 conv=>lhs;rw[hm,bX]
 congr 1
 exact fM fun k hk=>(h1 k hk).symm
def rest (l:List ai)(st:List Int):List Int:=st.reverse.flatMap (bX l l.length)
theorem zQ (T:Tree l){st:List Int}{t:Int}(ht:af l t=true):rest l (st++ [t])=t::rest l (st++ (DK (nd l t)).reverse):=by
 unfold rest
 rw[List.reverse_append,List.reverse_append,List.reverse_reverse]
 simp only[List.reverse_cons,List.reverse_nil,List.nil_append,List.cons_append,List.flatMap_cons,List.flatMap_append]
 rw[ord_eq T ht];rfl
theorem za (T:Tree l):∀ {st:List Int},(∀c∈st,af l c=true)→st.length≤ (rest l st).length:=by
 intro st h
 unfold rest
 have:∀s:List Int,(∀c∈s,af l c=true)→s.length≤ (s.flatMap (bX l l.length)).length:=by
  intro s
  induction s with
  |nil=>intro _;exact Nat.le_refl _
  | cons a r ih=>
    intro h
    have h1:=ih fun c hc=>h c (c7 _ hc)
    rw[List.flatMap_cons,jH,ord_eq T (h a dJ),List.length_cons,List.length_cons]
    omega
 have:=this st.reverse fun c hc=>h c (by simpa using hc)
 simpa using this
end U

def o6 (x:ai):Bool:=decide (x.kids.length≤60)&&decide (x.attrs.length≤60)&&decide (x.name.size≤300)
theorem Aw (f:ForM):tJ f=(decide (f.nodes.length≤60)&&f.nodes.all o6):=rfl
theorem KU {α:Type}{p:α→Bool}{l:List α}{k:Nat}{x:α}(h:l[k]? =some x)(hp:p x=false):l.all p=false:=by
 rw[Bool.eq_false_iff]
 intro h1
 rw[List.all_eq_true] at h1
 rw[h1 x (bT h)] at hp;cases hp
theorem IP {α:Type}{p:α→Bool}{l:List α}(h:∀ (k:Nat) (x:α),l[k]? =some x→p x=true):l.all p=true:=by
 rw[List.all_eq_true]
 intro x hx
 obtain⟨k,hk⟩:=List.getElem?_of_mem hx
 exact h k x hk
theorem K3 (f:ForM):an Tryz.prog 16 [] [aY f] [] (bB (tJ f)):=by
 rw[Aw]
 obtain⟨l,m⟩:=f
 simp only
 have hlm:(l.map bJ).length=l.length:=cj ..
 refine an.aF (rvs:=[.tmp 2]) G au Tryz.func16 rfl Tryz.ntmps16 rfl rfl ?_;with_reducible refine wD ?_
 by_cases e0:(60:Int)< (l.length:Int)
 ·rw[bY (show ¬l.length≤60 by omega)]
  (have fct:=And.intro hlm (e0);(repeat' (first
  |refine gF ?_|refine aE ?_ ?_
  |apply trivial));all_goals clear fct)
  all_goals rfl
 rw[dV (show l.length≤60 by omega),Bool.true_and]
 (have fct:=And.intro hlm ((eq_false e0));(repeat' (first
  |refine gF ?_|refine aE ?_ ?_
  |apply trivial));all_goals clear fct)
 refine cn.use G au (fun(k:Nat)=>[(1,.ptr 10 0 0),(3,aj k)]) (fun _=>[(10,.live 2 [aY ⟨l,m⟩] false)])
  (fun k=>k≤l.length∧∀ (j:Nat) (y:ai),j<k→l[j]? =some y→o6 y=true) (fun k=>l.length-k) 0 ⟨Nat.zero_le _,fun j y h=>by omega⟩
  ⟨⟨rfl,rfl⟩,⟨⟨rfl,rfl⟩,rfl,trivial⟩,⟨⟨rfl,rfl,trivial⟩,trivial⟩,trivial⟩ ?_
 rintro k ⟨hk,hok⟩
 with_reducible refine wK ?_
 refine bk.mk (fun h1=>?_) (fun h1=>?_)<;>(try simp only[ay] at h1)<;>with_reducible refine wK ?_
 ·have hk':k<l.length:=by simp only[bO] at h1;omega
  obtain⟨x,hx⟩:∃x,l[k]? =some x:=⟨_,bz hk'⟩
  have bad:o6 x=false→l.all o6=false:=fun h=>KU hx h
  have good:o6 x=true→∀ (j:Nat) (y:ai),j<k+1→l[j]? =some y→o6 y=true:=fun h j y hj hy=>by
   rcases Nat.lt_or_ge j k with h6|h6
   ·exact hok j y h6 hy
   ·have:j=k:=by omega
    subst this
    rw[hx] at hy;cases hy;exact h
  obtain⟨a1,a2,a3,a4,a5,a6,a7,a8,a9,a10⟩:=x
  have hla:(a5.map dI).length=a5.length:=cj ..
  have hlk:(a7.map bV).length=a7.length:=cj ..
  have sm:o6 ⟨a1,a2,a3,a4,a5,a6,a7,a8,a9,a10⟩=(decide (a7.length≤60)&&decide (a5.length≤60)&&decide (a2.size≤300)):=rfl
  rw[sm] at bad good
  refine aG.mk k (az _) rfl (ah hx) ?_;with_reducible refine wK ?_
  by_cases e1:(60:Int)< (a7.length:Int)
  ·rw[bad (by rw[bY (show ¬a7.length≤60 by omega)];rfl)]
   (have fct:=And.intro hlk (e1);(repeat' (first
  |refine gF ?_|refine aE ?_ ?_
  |apply trivial));all_goals clear fct)
  by_cases e2:(60:Int)< (a5.length:Int)
  ·rw[bad (by rw[bY (show ¬a5.length≤60 by omega),Bool.and_false];rfl)]
   (have fct:=And.intro hlk (And.intro hla (And.intro (eq_false e1) (e2)));(repeat' (first
  |refine gF ?_|refine aE ?_ ?_
  |((refine aG.mk k (az _) rfl (ah hx) ?_)<;>with_reducible refine wK ?_)
  |apply trivial));all_goals clear fct)
  by_cases e3:(300:Int)< (a2.size:Int)
  ·rw[bad (by rw[bY (show ¬a2.size≤300 by omega),Bool.and_false])]
   (have fct:=And.intro hlk (And.intro hla (And.intro (eq_false e1) (And.intro (eq_false e2) (e3))));(repeat' (first
  |refine gF ?_|refine aE ?_ ?_
  |((refine aG.mk k (az _) rfl (ah hx) ?_)<;>with_reducible refine wK ?_)
  |apply trivial));all_goals clear fct)
  have hnx:=good (by simp only[bQ,bO];omega)
  (have fct:=And.intro hlk (And.intro hla (And.intro (eq_false e1) (And.intro (eq_false e2) ((eq_false e3)))));(repeat' (first
  |refine gF ?_|refine aE ?_ ?_
  | ((first
   |(refine aG.mk k (az _) rfl (ah hx) ?_)
   |((with_reducible show cm _ _);refine cm.mk (k+1) ⟨by omega,hnx⟩ (by omega) ⟨⟨rfl,rfl⟩,⟨⟨rfl,rfl⟩,by show((k+1:Nat):Int)=(k:Int)+1;omega,trivial⟩,⟨⟨rfl,rfl,trivial⟩,trivial⟩,trivial⟩))<;>with_reducible refine wK ?_)
  |apply trivial));all_goals clear fct)
 ·have hkl:k=l.length:=by simp only[dh] at h1;omega
  rw[IP fun j y hy=>hok j y (by have:=(bg hy).1;omega) hy]
  (refine eK ?_ ?_<;>with_reducible repeat' (first|exact trivial|(show _∧_;refine aK ?_ ?_)))
theorem Cu {l:List ai}{n:Int}(h:0≤n∧n< (l.length:Int)):∃ (i:Nat) (y:ai),n=(i:Int)∧l[i]? =some y∧nd l n=y:=by
  obtain⟨i,y,h1,h2,h3⟩:=aU.1 (show af l n=true by unfold af;simp;omega)
  exact⟨i,y,h1,h2,h3⟩
theorem Bi {P:Program}{N nL:Nat}{sl:SL}{m:ML}{c:Code}{Q:Exit→SL→ML→Prop}{F G:Prop}(main:(F→cn P N nL sl m (c:=c) (Q:=Q))→G)(rest:F→cn P N nL sl m (c:=c) (Q:=Q)):G:=main rest

end Go.Proofs.Heir
