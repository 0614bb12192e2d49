/- Models, plain laws and contracts of functions of the given program; conditions as stated in each theorem. By an AI agent. -/
import Derived.Test.YtkhjcnjicjgfiaaGreatDoorWO16
import Derived.Test.YtkhjcnjicjgfiaaGreatDoorWO12
import Derived.Laws.StructEq
import Derived.Tactics
import Derived.Test.YtkhjcnjicjgfiaaGreatDoorWO15
import Derived.Test.YtkhjcnjicjgfiaaGreatDoorWO14
import Derived.Test.YtkhjcnjicjgfiaaGreatDoorWO11
set_option linter.unusedSimpArgs false
set_option linter.unusedVariables false
namespace Go.Proofs.Heir
open Go.Am Go.RowKit Go.Lib
set_option maxRecDepth 100000
set_option maxHeartbeats 8000000
def qp (l:List AttrM)(k:Nat):List AttrM:=l.take k++l.drop (k+1)
def bS (l:List AttrM)(n:ByteArray):List AttrM×Bool:=if 0≤bU l n then(qp l (bU l n).toNat,true) else(l,false)
theorem vR (l:List AttrM)(k:Nat):(l.map dI).take k++ (l.map dI).drop (k+1)=(qp l k).map dI:=by rw[qp,gY,List.map_take,List.map_drop]
theorem zD {l:List AttrM}{k:Nat}(hk:k<l.length):(qp l k).length=k+ (l.length- (k+1)):=by simp[qp];omega
theorem A0 (l:List AttrM)(hl:l.length≤100000)(n:ByteArray):an Tryz.prog 68 [] [dG l,cu n] [] (.tup [dG (bS l n).1,bB (bS l n).2]):=by
  have hlm:(l.map dI).length=l.length:=cj ..
  refine an.aF (rvs:=[.tmp 4,.tmp 5]) G au Tryz.func68 rfl Tryz.ntmps68 rfl rfl ?_;with_reducible refine wD ?_
  refine aa.lit [] (ET l hl n) Og ⟨rfl,rfl,trivial⟩ rfl rfl ?_;with_reducible refine wK ?_
  refine aa.new 181 [] (I4 l hl) Nz ⟨rfl,trivial⟩ rfl rfl rfl (A6 l) rfl ?_;with_reducible refine wK ?_
  rcases rO l n with h|⟨k,a,h,ha,hnm⟩
  · simp only[h]
    refine bk.yes rfl ?_;with_reducible refine wK ?_
    have e:bS l n=(l,false):=by unfold bS;rw[h,if_neg (by decide)]
    rw[e]
    (refine eK ?_ ?_<;>with_reducible repeat' (first|exact trivial|(show _∧_;refine aK ?_ ?_)))
    exact vv rfl rfl rfl rfl
  · simp only[h]
    have hk:=(bg ha).1
    refine bk.no (bY (by(try simp only[ay]);omega)) ?_;with_reducible refine wK ?_
    have e:bS l n=(qp l k,true):=by unfold bS;rw[h,if_pos (by omega),Int.toNat_natCast]
    rw[e]
    refine nK ?_;with_reducible refine wK ?_
    refine aa.dg (news:=[.dead,.live 2 ((qp l k).map dI) false]) [181,261] [] (El (rows:=l.map dI) (vX l) k (k+1) (by omega) (by omega)) Ni ⟨⟨rfl,hlm⟩,rfl,by show((k+1:Nat):Int)=(k:Int)+1;omega,trivial⟩ ⟨⟨rfl,.inl ⟨rfl,gu l⟩⟩,trivial⟩ rfl ⟨⟨rfl,rfl⟩,rfl⟩ rfl
      ⟨⟨rfl,.inl ⟨(vR l k).symm,by rw[vR];exact gu _⟩⟩,trivial⟩ rfl rfl ?_;with_reducible refine wK ?_
    (refine eK ?_ ?_<;>with_reducible repeat' (first|exact trivial|(show _∧_;refine aK ?_ ?_)))
    exact vv rfl rfl rfl (by rw[zD hk,hlm])
end Go.Proofs.Heir
namespace Go.Proofs.Heir
open Go.Am Go.RowKit Go.Lib
set_option maxRecDepth 100000

end Go.Proofs.Heir
namespace Go.Proofs.Heir
open Go.Am Go.RowKit Go.Lib
set_option maxRecDepth 100000
set_option maxHeartbeats 8000000




end Go.Proofs.Heir
namespace Go.Proofs.Heir
open Go Go.Am Go.RowKit Go.Lib
set_option maxRecDepth 100000
theorem qo {l:List AttrM}(h:cE l=true):(l.map AttrM.name).Nodup:=by
  unfold cE at h;simp only[bQ,bO] at h;exact h.2
theorem uI {l:List AttrM}{n:ByteArray}(h:∀a∈l,a.name≠n):uZ l n=-1:=
  jj fun j x hx=>by unfold hasName;exact bY (h x (bT hx))
theorem sZ {l:List AttrM}(hn:(l.map AttrM.name).Nodup){i:Nat}{a:AttrM}(h:l[i]? =some a):uZ l a.name=i:=(wG l).1 hn i a h
theorem yE (l:List AttrM)(n:ByteArray):(uZ l n=-1∧∀a∈l,a.name≠n)∨∃ (k:Nat) (a:AttrM),uZ l n=k∧l[k]? =some a∧a.name=n:=by
  by_cases hx:∃b∈l,b.name=n
  · right
    rcases o4 (hasName n) l with h|⟨k,a,h1,h2,h3⟩
    · obtain⟨b,hb,e⟩:=hx
      exfalso
      unfold eC at h
      cases hf:l.findIdx? (hasName n) with
      |some i=>rw[hf] at h;simp only at h;omega
      | none=>
        rw[List.findIdx?_eq_none_iff] at hf
        have:=hf b hb
        unfold hasName at this;simp[e] at this
    ·exact⟨k,a,h1,h2,by unfold hasName at h3;simpa using h3⟩
  · have h:∀a∈l,a.name≠n:=fun a ha e=>hx ⟨a,ha,e⟩
    exact .inl ⟨uI h,h⟩
theorem Dx {l:List AttrM}(h1:l.length≤40)(h2:∀a∈l,Ld a=true)(h3:(l.map AttrM.name).Nodup):cE l=true:=by
  unfold cE
  rw[dV h1,dV h3,List.all_eq_true.2 h2];rfl
theorem ur {l:List AttrM}(h:cE l=true):l.length≤40∧(∀a∈l,Ld a=true)∧(l.map AttrM.name).Nodup:=by
  unfold cE at h;simp only[bQ,bO,List.all_eq_true] at h;exact⟨h.1.1,h.1.2,h.2⟩
theorem nD {l:List AttrM}(hn:(l.map AttrM.name).Nodup){i j:Nat}{a b:AttrM}(ha:l[i]? =some a)(hb:l[j]? =some b)(e:a.name=b.name):i=j:=by
  have h1:=sZ hn ha
  have h2:=sZ hn hb
  rw[e] at h1;omega
theorem Ho {l:List AttrM}(h:∀ (i j:Nat) (a b:AttrM),l[i]? =some a→l[j]? =some b→a.name=b.name→i=j):(l.map AttrM.name).Nodup:=by
  rw[wG]
  intro i a ha
  refine fO ha (by unfold hasName;simp) fun j x hj hx=>?_
  unfold hasName
  rw[dh]
  intro e
  have:=h j i x a hx ha e
  omega
theorem IG {l:List AttrM}(hn:(l.map AttrM.name).Nodup){a b:AttrM}(ha:a∈l)(hb:b∈l)(e:a.name=b.name):a=b:=by
  obtain⟨i,hi⟩:=List.getElem?_of_mem ha
  obtain⟨j,hj⟩:=List.getElem?_of_mem hb
  have:=nD hn hi hj e
  subst this;rw[hi] at hj;exact Option.some.inj hj
theorem Il {l:List AttrM}{n v:ByteArray}(hr:cE l=true)(hn:bH n=true)(h:(⟨fR n,v⟩:AttrM)∈l):n4 l n=v∧0≤bU l n:=by
  obtain⟨i,hi⟩:=List.getElem?_of_mem h
  have h1:=sZ (qo hr) hi
  have h1:uZ l (fR n)=i:=h1
  unfold n4
  rw[rm hr hn,h1]
  exact⟨by rw[if_pos (by omega),Int.toNat_natCast,hi];rfl,by omega⟩
theorem yY {l:List AttrM}{n:ByteArray}(h:cE l=true→bH n=true→∀a∈l,a.name≠fR n):n4 l n=Hv∧¬0≤bU l n:=by
  have : bU l n=-1:=by
    cases hr:cE l with
    |false=>exact vI (.inl hr)
    | true=>
      cases hn:bH n with
      |false=>exact vI (.inr hn)
      | true=>
        rw[rm hr hn]
        exact uI (h hr hn)
  unfold n4
  rw[this]
  exact⟨rfl,by omega⟩
theorem sx (l:List AttrM)(k i:Nat):(qp l k)[i]? =if i<k then l[i]? else l[i+1]? :=by
  unfold qp
  rw[List.getElem?_append,fP,List.getElem?_take,List.getElem?_drop]
  by_cases h:i<k
  · by_cases h2:i<l.length
    ·rw[if_pos (by omega),if_pos h,if_pos h]
    ·rw[if_neg (by omega),if_pos h,ni (by omega),ni (by omega)]
  · rw[if_neg (by omega),if_neg h]
    by_cases h2:k≤l.length
    ·congr 1;omega
    ·rw[ni (by omega),ni (by omega)]
theorem yM {l:List AttrM}{k:Nat}{o:AttrM}(hn:(l.map AttrM.name).Nodup)(hk:l[k]? =some o)(a:AttrM):a∈qp l k↔a∈l∧a.name≠o.name:=by
  constructor
  · intro h
    obtain⟨i,hi⟩:=List.getElem?_of_mem h
    rw[sx] at hi
    split at hi
    ·exact⟨bT hi,fun e=>by have:=nD hn hi hk e;omega⟩
    ·exact⟨bT hi,fun e=>by have:=nD hn hi hk e;omega⟩
  · rintro⟨h1,h2⟩
    obtain⟨i,hi⟩:=List.getElem?_of_mem h1
    have hik:i≠k:=by rintro rfl;rw[hi] at hk;cases hk;exact h2 rfl
    by_cases h:i<k
    ·exact bT (i:=i) (by rw[sx,if_pos h,hi])
    · obtain⟨j,rfl⟩:∃j,i=j+1:=⟨i-1,by omega⟩
      exact bT (i:=j) (by rw[sx,if_neg (by omega),hi])
theorem D9 {l:List AttrM}{k:Nat}(hn:(l.map AttrM.name).Nodup):((qp l k).map AttrM.name).Nodup:=by
  refine Ho fun i j a b ha hb e=>?_
  rw[sx] at ha hb
  split at ha<;>split at hb<;>(have:=nD hn ha hb e;omega)
theorem vq {l:List AttrM}{n:ByteArray}(h:0≤bU l n):cE (bS l n).1=true∧(bS l n).1.length+1=l.length∧∀a,a∈ (bS l n).1↔a∈l∧a.name≠fR n:=by
  obtain⟨hE,_⟩:=DH h
  obtain⟨h1,h2,_⟩:=BB hE
  obtain⟨r1,r2,r3⟩:=ur h1
  unfold bS
  rw[if_pos h]
  rw[rm h1 h2] at h ⊢
  rcases yE l (fR n) with⟨e,_⟩|⟨k,o,e1,e2,e3⟩
  ·omega
  · rw[e1,Int.toNat_natCast]
    have hk:=(bg e2).1
    have hm:=yM r3 e2
    have hlen:=zD hk
    rw[e3] at hm
    refine⟨Dx (by show(qp l k).length≤40;omega) (fun a ha=>r2 a ((hm a).1 ha).1) (D9 r3),by show(qp l k).length+1=_;omega,hm⟩
theorem rS (l:List AttrM)(n:ByteArray):(bS l n).1.length≤l.length:=by
  unfold bS;split
  ·simp[qp];omega
  ·simp
end Go.Proofs.Heir
namespace Go.Proofs.Heir
open Go Go.Am Go.RowKit Go.Lib
set_option maxRecDepth 100000
set_option maxHeartbeats 8000000
set_option maxHeartbeats 8000000
def iy (old new:List AttrM)(n:Int)(s:ByteArray):List aR:=if 0≤bU old s∨0≤bU new s then[⟨4,n,0,0,fR s,decide (0≤bU old s),decide (0≤bU new s),n4 old s,n4 new s⟩] else[]
def sG (f:ForM)(n:Int)(s:ByteArray)(l:List AttrM):ForM×List aR×Int:=(⟨iM f.nodes n l,f.most⟩,iy (nd f.nodes n).attrs l n s,0)
def kD (f:ForM)(n:Int):Int:=if(aX f&&af f.nodes n)=true then(if(nd f.nodes n).kind=1 then 0 else 5) else 1
def eR (f:ForM)(n:Int)(s:ByteArray):ForM×List aR×Int:=if kD f n≠0 then(f,[],kD f n) else if bH s=false then(f,[],4) else sG f n s (bS (nd f.nodes n).attrs s).1
section
variable {l l' : List ai} {m : Int}
theorem RF.attrs (R:RF l m){n:Int}(hn:af l n=true)(hk:(nd l n).kind=1):cE (nd l n).attrs=true:=by
  have h:=R.Hw n hn
  unfold fq at h
  rw[if_pos hk] at h
  simp only[bQ] at h
  exact h.2
theorem RF.none (R:RF l m){n:Int}(hn:af l n=true)(hk:(nd l n).kind≠1):(nd l n).attrs=[]∧(nd l n).name=⟨#[]⟩:=by
  rcases Aa R.uh hn with h|h
  ·exact absurd h hk
  ·exact⟨h.2.2,h.2.1⟩
theorem fg (R:RF l m)(h:l.length≤60):bE l:=by
  have key:∀x∈l,x.kids.length≤60∧x.attrs.length≤60∧x.name.size≤300:=fun x hx=>by
    obtain⟨i,hi⟩:=List.getElem?_of_mem hx
    have hn:=dM hi
    have he:=cz hi
    have hk:=qt (n:=l.length) (R.dup i hn) (fun c hc=>aV (R.kid i hn c hc).1)
    rw[he] at hk
    refine⟨by omega,?_⟩
    by_cases e:x.kind=1
    · have ha:=R.attrs hn (by rw[he];exact e)
      rw[he] at ha
      have h1:=(ur ha).1
      refine⟨by omega,?_⟩
      have hN:=R.Hw i hn
      rw[he] at hN
      unfold fq at hN
      rw[if_pos e] at hN
      simp only[bQ] at hN
      have h2:=hN.1.1.1.1
      unfold bH qZ at h2
      simp only[bQ,bO] at h2
      have:x.name.size=x.name.data.toList.length:=by rw[Array.length_toList];rfl
      omega
    · have:=R.none hn (by rw[he];exact e)
      rw[he] at this
      rw[this.1,this.2]
      exact⟨by simp,by decide⟩
  exact⟨by omega,fun x hx=>(key x hx).1,fun x hx=>(key x hx).2.1,fun x hx=>(key x hx).2.2⟩
theorem elem_iff (R:RF l m){n:Int}(hn:af l n=true):kD ⟨l,m⟩ n=if(nd l n).kind=1 then 0 else 5:=by
  unfold kD
  rw[if_pos (by rw[cC.2 R,hn];rfl)]
theorem E8 (R:RF l m)(hl:l'.length=l.length)(hs:∀x,af l x=true→oh (nd l' x) (nd l x)){n:Int}(hn:af l n=true):iD l' n=iD l n:=
  Hs R hn (EO hl R hs hn) fun x hx=>(hs x hx).kind
theorem Hz {s:Int×Int}{x:aR}(h:x.kind=4)(hb:¬ (s.1<0∨1<s.1)):uk s x=some s:=by
  unfold uk
  rw[if_neg (by omega),if_neg (by omega),if_neg (by omega)]
  exact if_neg hb
theorem F0 (R:RF l m){n:Int}{xs:List AttrM}(hn:af l n=true)(hk:(nd l n).kind=1)(s:ByteArray):Told l (iM l n xs) (iy (nd l n).attrs xs n s):=by
  have S:=fun x (hx:af l x=true)=>(mR (xs:=xs) hn x hx).1
  refine⟨fun x hx=>?_,fun k hkt h1=>?_⟩
  · unfold iy at hx
    split at hx
    ·rw[gg.1 hx];exact⟨hn,hk⟩
    ·cases hx
  · rw [E8 R (gL ..) S hkt,(S k hkt).doc]
    have hb:¬ (J4 (iD l k)<0∨1<J4 (iD l k)):=by unfold J4;split<;>omega
    unfold iy
    split
    · unfold nF
      rw[List.filter_cons]
      split
      · show(match uk (J4 (iD l k),(nd l k).doc) _ with|none=>none|some t=>runN t [])=_
        rw[Hz rfl hb]
        rfl
      ·rfl
    ·rfl
theorem D0 {x:ai}:fI {x with attrs:=(bS x.attrs jI).1}=false:=by
  unfold fI
  rw[Bool.and_eq_false_iff]
  refine .inr (bY ?_)
  by_cases h:0≤bU x.attrs jI
  · obtain⟨h1,_,h3⟩:=vq h
    exact(yY fun _ _ a ha=>((h3 a).1 ha).2).2
  · have:(bS x.attrs jI).1=x.attrs:=by unfold bS;rw[if_neg h]
    show ¬0≤bU (bS x.attrs jI).1 jI
    rw[this];exact h
theorem AW {n x:Int}{xs:List AttrM}(hn:af l n=true)(hx:af l x=true):fI (nd (iM l n xs) x)=if x=n then fI {nd l n with attrs:=xs} else fI (nd l x):=by
  rw[Bb hn hx]
  by_cases e:x=n
  ·rw[if_pos e,if_pos e,e]
  ·rw[if_neg e,if_neg e]
end
section
variable {l l' : List ai} {m : Int}
end
end Go.Proofs.Heir
namespace Go.Proofs.Heir
open Go Go.Am Go.RowKit Go.Lib
set_option maxRecDepth 100000
set_option maxHeartbeats 8000000
set_option maxHeartbeats 2000000
section
variable {l l' : List ai} {m : Int}
end
def iZ (l:List AttrM)(s:ByteArray):ByteArray×Bool:=match l.find? (hasName s) with
  |some a=>(a.value,true)
  |none=>(Hv,false)
def lC (n:Int)(s:ByteArray)(t:ByteArray×Bool)(x:aR):Option (ByteArray×Bool):=
  if x.node=n∧x.kind=4∧x.name=s then(if x.old≠t.1∨x.had≠t.2∨(x.had=false∧x.has=false)∨(x.has=false∧x.new≠Hv) then none else some (x.new,x.has)) else some t
def jU (n:Int)(s:ByteArray):ByteArray×Bool→List aR→Option (ByteArray×Bool)
  |t,[]=>some t
  | t,x::r=>match lC n s t x with
    |none=>none
    |some u=>jU n s u r
theorem tu {n:Int}{s:ByteArray}{t:ByteArray×Bool}:∀ {ns:List aR},(∀x∈ns,x.kind≠4)→jU n s t ns=some t
  |[],_=>rfl
  | x ::r,h=>by
    have e:lC n s t x=some t:=by
      unfold lC
      rw[if_neg fun q=>h x dJ q.2.1]
    show(match lC n s t x with|none=>none|some u=>jU n s u r)=_
    rw[e]
    exact tu fun y hy=>h y (c7 _ hy)
theorem yo {l:List AttrM}(hr:cE l=true){a:AttrM}(h:a∈l):iZ l a.name=(a.value,true):=by
  unfold iZ
  cases e:l.find? (hasName a.name) with
  |none=>exact absurd (List.find?_eq_none.1 e a h) (by unfold hasName;simp)
  | some b=>
    have h1:=List.mem_of_find?_eq_some e
    have h2:b.name=a.name:=by
      have:=List.find?_some e
      unfold hasName at this
      exact of_decide_eq_true this
    rw[IG (qo hr) h1 h h2]
theorem tE {l:List AttrM}{s:ByteArray}(h:∀a∈l,a.name≠s):iZ l s=(Hv,false):=by
  unfold iZ
  have:l.find? (hasName s)=none:=List.find?_eq_none.2 fun a ha=>by
    unfold hasName
    simpa using h a ha
  rw[this]
theorem Ir {l m:List AttrM}{s:ByteArray}(hl:cE l=true)(hm:cE m=true)(h:∀a:AttrM,a.name=s→(a∈l↔a∈m)):iZ l s=iZ m s:=by
  by_cases c:∃a∈l,a.name=s
  · obtain⟨a,ha,e⟩:=c
    subst e
    rw[yo hl ha,yo hm ((h a rfl).1 ha)]
  ·rw[tE (fun a ha e=>c ⟨a,ha,e⟩),tE fun a ha e=>c ⟨a,(h a e).2 ha,e⟩]
theorem Cl {l:List AttrM}{s:ByteArray}(hl:cE l=true)(hs:bH s=true):n4 l s=(iZ l (fR s)).1∧decide (0≤bU l s)=(iZ l (fR s)).2:=by
  by_cases c:∃a∈l,a.name=fR s
  · obtain⟨a,ha,e⟩:=c
    have h1:=Il (l:=l) (n:=s) (v:=a.value) hl hs (by rw[←e];exact ha)
    have h2:=yo hl ha
    rw[e] at h2
    rw[h2,h1.1,dV h1.2];exact⟨rfl,rfl⟩
  · have h1:=yY (l:=l) (n:=s) fun _ _ a ha e=>c ⟨a,ha,e⟩
    rw[tE (fun a ha e=>c ⟨a,ha,e⟩),h1.1,bY h1.2];exact⟨rfl,rfl⟩
theorem w7 {old new:List AttrM}{n k:Int}{s t:ByteArray}(ho:cE old=true)(hn:cE new=true)(hs:bH s=true)(h:t≠fR s∨k≠n→k=n→iZ new t=iZ old t)(hc:new=old∨0≤bU old s∨0≤bU new s):
    jU k t (iZ old t) (iy old new n s)=some (if k=n then iZ new t else iZ old t):=by
  obtain⟨g1,g2⟩:=Cl ho hs
  obtain⟨g3,g4⟩:=Cl hn hs
  unfold iy
  by_cases e:0≤bU old s∨0≤bU new s
  · rw [if_pos e]
    show(match lC k t (iZ old t) _ with|none=>none|some u=>jU k t u [])=_
    unfold lC
    dsimp only
    by_cases c:n=k∧(4:Int)=4∧fR s=t
    · rw [if_pos c]
      obtain⟨rfl,_,rfl⟩:=c
      have hno:¬ (n4 old s≠ (iZ old (fR s)).1∨decide (0≤bU old s)≠ (iZ old (fR s)).2∨(decide (0≤bU old s)=false∧decide (0≤bU new s)=false)∨(decide (0≤bU new s)=false∧n4 new s≠Hv)):=by
        rintro(q|q|⟨q1,q2⟩|⟨q1,q2⟩)
        ·exact q g1
        ·exact q g2
        · rcases e with e|e
          ·exact(of_decide_eq_false q1) e
          ·exact(of_decide_eq_false q2) e
        · refine q2 ?_
          unfold n4
          rw[if_neg (of_decide_eq_false q1)]
      rw[if_neg hno,if_pos rfl,g3,g4]
      rfl
    · rw[if_neg c]
      show some (iZ old t)=_
      by_cases ek:k=n
      ·rw[if_pos ek,h (.inl fun q=>c ⟨ek.symm,rfl,q.symm⟩) ek]
      ·rw[if_neg ek]
  · rw[if_neg e]
    have:new=old:=hc.resolve_right e
    subst this
    show some _=_
    split<;>rfl
section
variable {l l' : List ai} {m : Int}
theorem oG {p b:Int}:∀ (ks:List Int) {l:List ai},RF l m→ks.Nodup→(∀k∈ks,fu l k p b)→((nd l p).kind=0→ks.length≤1)→∀x,af l x=true→eZ (nd (ks.foldl (fun l k=>cA l k p b) l) x) (nd l x)
  |[],l,_,_,_,_,x,_=>.refl _
  | k ::ks,l,R,hd,h,h0,x,hx=>by
    rw[List.nodup_cons] at hd
    have C:=h k dJ
    have L:=fU R C
    have:=oG (p:=p) (b:=b) ks (ig R C) hd.2 (fun j hj=>nR R C (h j (c7 _ hj)) (fun e=>hd.1 (e▸hj)) (fun e=>by
      have q1:(k::ks).length≤1:=h0 e
      have q2:=List.length_pos_of_mem hj
      rw[List.length_cons] at q1;omega)) (fun e=>by
      rw[(L p C.tp).1.kind] at e
      have q1:(k::ks).length≤1:=h0 e
      rw[List.length_cons] at q1;omega) x (by rw[bf (fj ..)];exact hx)
    exact this.trans (L x hx).1
theorem Fj (R:RF l m)(t:List aR){n p b:Int}(C:qu l n p b)(x:Int)(hx:af l x=true):eZ (nd (dz (l,t) n p b).1 x) (nd l x):=by
  unfold dz
  rw[lI]
  by_cases h3:(nd l n).kind=3
  · have hpar:dn l n=(nd l n).kids:=by unfold dn;rw[if_pos h3]
    obtain⟨h1,h2,h4,h5⟩:=qi R C h3
    simp only[hpar,if_pos h3,gC]
    have hks:∀k∈ (nd l n).kids,af l k=true:=fun k hk=>(R.kid n C.tn k hk).1
    have L:=jm (nd l n).kids R hks n (fun k hk=>.inl (R.kid n C.tn k hk).2.1)
    exact(oG (nd l n).kids h1 (R.dup n C.tn) (fun k hk=>(h4 k hk).1) (fun e=>h5 (by rw[←(L p C.tp).1.kind];exact e)) x (by rw[bf h2];exact hx)).trans (L x hx).1
  · simp only[fQ h3,if_neg h3]
    exact oG [n] R (by simp) (fun k hk=>by rw[gg.1 hk];exact pB C h3) (fun _=>by simp) x hx
theorem rP {n:Int}{s:ByteArray}{t:ByteArray×Bool}:∀ {ns:List aR},(∀x∈ns,x.node≠n)→jU n s t ns=some t
  |[],_=>rfl
  | x ::r,h=>by
    have e:lC n s t x=some t:=by
      unfold lC
      rw[if_neg fun q=>h x dJ q.1]
    show(match lC n s t x with|none=>none|some u=>jU n s u r)=_
    rw[e]
    exact rP fun y hy=>h y (c7 _ hy)
end
structure zl (f:ForM) (r:ForM×List aR×Int):Prop where
  right:aX r.1=true
  len:r.1.nodes.length=f.nodes.length
  fail:r.2.2≠0→r.1=f∧r.2.1=[]
  told:Told f.nodes r.1.nodes r.2.1
  kind:∀x,af f.nodes x=true→(nd r.1.nodes x).kind=(nd f.nodes x).kind
  chain:∀n,af f.nodes n=true→∀t,bH t=true→fR t=t→jU n t (iZ (nd f.nodes n).attrs t) r.2.1=some (iZ (nd r.1.nodes n).attrs t)
theorem zl.nil {f:ForM}(h:aX f=true)(e:Int):zl f (f,[],e):=⟨h,rfl,fun _=>⟨rfl,rfl⟩,.nil _,fun _ _=>rfl,fun _ _ _ _ _=>rfl⟩
section
variable {l : List ai} {m : Int}
theorem zl.move (R:RF l m){l':List ai}{ns:List aR}(R':RF l' m)(hl:l'.length=l.length)(hs:∀x,af l x=true→eZ (nd l' x) (nd l x))(ht:Told l l' ns)(hn:tv ns):zl ⟨l,m⟩ (⟨l',m⟩,ns,0):=
  ⟨cC.2 R',hl,fun h=>absurd rfl h,ht,fun x hx=>(hs x hx).kind,fun n hn2 t _ _=>by
    rw[tu hn]
    show some _=some (iZ (nd l' n).attrs t)
    rw[(hs n hn2).attrs]⟩
theorem vN (R:RF l m){n:Int}{s:ByteArray}{xs:List AttrM}(hn:af l n=true)(hk:(nd l n).kind=1)(hs:bH s=true)(hx:cE xs=true)(hv:∀a:AttrM,a.name≠fR s→(a∈xs↔a∈ (nd l n).attrs))(hc:xs=(nd l n).attrs∨0≤bU (nd l n).attrs s∨0≤bU xs s):zl ⟨l,m⟩ (sG ⟨l,m⟩ n s xs):=by
  have S:=fun x (h:af l x=true)=>mR (xs:=xs) hn x h
  refine⟨cC.2 (D8 R hn hk hx),gL ..,fun h=>absurd rfl h,F0 R hn hk s,fun x h=>(S x h).1.kind,fun k hkt t ht1 ht2=>?_⟩
  show jU k t (iZ (nd l k).attrs t) (iy (nd l n).attrs xs n s)=some (iZ (nd (iM l n xs) k).attrs t)
  rw[(S k hkt).2.2]
  by_cases e:k=n
  · subst e
    rw[if_pos rfl]
    have ha:=R.attrs hkt hk
    have:=w7 (k:=k) (n:=k) (t:=t) ha hx hs (fun q _=>by
      rcases q with q|q
      ·exact Ir hx ha fun a e=>hv a (by rw[e];exact q)
      ·exact absurd rfl q) hc
    rw[if_pos rfl] at this
    exact this
  · rw[if_neg e]
    refine rP fun x hx2=>?_
    unfold iy at hx2
    split at hx2
    ·rw[gg.1 hx2];exact fun q=>e q.symm
    ·cases hx2
theorem zG (R:RF l m){n:Int}(hn:af l n=true)(s:ByteArray):zl ⟨l,m⟩ (eR ⟨l,m⟩ n s):=by
  unfold eR
  rw[elem_iff R hn]
  by_cases hk:(nd l n).kind=1
  · rw [if_pos hk,if_neg (show ¬ (0:Int)≠0 from fun q=>q rfl)]
    cases hs:bH s with
    |false=>rw[if_pos rfl];exact .nil (cC.2 R) _
    | true=>
      rw[if_neg (show ¬true=false by decide)]
      have ha:=R.attrs hn hk
      dsimp only
      by_cases h:0≤bU (nd l n).attrs s
      · obtain⟨h1,_,h3⟩:=vq h
        exact vN R hn hk hs h1 (fun a ha=>by rw[h3];exact⟨fun q=>q.1,fun q=>⟨q,ha⟩⟩) (.inr (.inl h))
      · have e:(bS (nd l n).attrs s).1=(nd l n).attrs:=by unfold bS;rw[if_neg h]
        rw[e]
        exact vN R hn hk hs ha (fun a _=>Iff.rfl) (.inl rfl)
  · rw[if_neg hk,if_pos (show(5:Int)≠0 by decide)]
    exact .nil (cC.2 R) _
end
@[reducible] def dN (y : ai) (t : Nat) : AV := .agg [aj y.kind, cu y.name, cu y.is, cu y.data, dG y.attrs, aj y.parent, .own t 0 y.kids.length, aj y.host, aj y.under, aj y.doc]
def dF (y:ai)(t:Nat):AV:=dN y t
def ei (a ta b tb i:Nat)(y:ai):AV:=if i=a then dF y ta else if i=b then dF y tb else bJ y
def aP (l:List ai)(a ta b tb:Nat):List AV:=l.mapIdx fun i y=>ei a ta b tb i y
@[reducible] def aT (l : List ai) (a ta b tb : Nat) : MS := .live 10 (aP l a ta b tb) false
section
variable {l : List ai} {a ta b tb i : Nat} {y : ai}
theorem bN:(aP l a ta b tb).length=l.length:=List.length_mapIdx ..
theorem cI (h:l[i]? =some y):(aP l a ta b tb)[i]? =some (ei a ta b tb i y):=by
  unfold aP
  rw[List.getElem?_mapIdx,h];rfl
theorem rj (y:ai)(h:i<l.length):(aP l a ta b tb).set i (ei a ta b tb i y)=aP (l.set i y) a ta b tb:=by
  apply List.ext_getElem?
  intro j
  unfold aP
  rw[List.getElem?_set,List.getElem?_mapIdx,List.getElem?_mapIdx,List.getElem?_set,List.length_mapIdx]
  by_cases e:i=j
  · subst e
    rw[if_pos rfl,if_pos rfl,if_pos h,if_pos h];rfl
  ·rw[if_neg e,if_neg e]
theorem c6 (ha:i≠a)(hb:i≠b):ei a ta b tb i y=az y:=by unfold ei;rw[if_neg ha,if_neg hb];rfl
theorem GX:ei a ta b tb a y=dN y ta:=by unfold ei;rw[if_pos rfl];rfl
theorem Ft (h:b≠a):ei a ta b tb b y=dN y tb:=by unfold ei;rw[if_neg h,if_pos rfl];rfl
theorem BQ:(cells (ei a ta b tb i y)).length=10:=by
  unfold ei
  split
  ·rfl
  ·split<;>rfl
theorem k9:bD 10 (aP l a ta b tb):=bD.ia fun x hx=>by
  obtain⟨j,hj⟩:=List.getElem?_of_mem hx
  unfold aP at hj
  rw[List.getElem?_mapIdx] at hj
  cases e:l[j]? with
  |none=>rw[e] at hj;cases hj
  |some z=>rw[e] at hj;cases hj;exact BQ
theorem ko {j:Nat}{x:AV}(h:(aP l a ta b tb)[j]? =some x):∃z,l[j]? =some z∧x=ei a ta b tb j z:=by
  unfold aP at h
  rw[List.getElem?_mapIdx] at h
  cases e:l[j]? with
  |none=>rw[e] at h;cases h
  |some z=>rw[e] at h;cases h;exact⟨z,rfl,rfl⟩
end
section
variable {m : ML} {fz : Nat → Bool} {tab : List (Nat × Nat)} {l : List ai} {a ta b tb t n : Nat}
theorem mS (x:ai):bu (bJ x)=true:=by
  show bu (.agg [aj x.kind,cu x.name,cu x.is,cu x.data,dG x.attrs,aj x.parent,cF x.kids,aj x.host,aj x.under,aj x.doc])=true
  rfl
theorem GW {cs ex:List Int}{ro:Bool}(h1:dX m t=.live 1 ((cs++ex).map bV) ro)(h2:fz t=true):xU m fz (MF tab fz m n) (cF cs) t 0 cs.length:=
  .cut h1 h2 (by simp) (by rw[List.drop_zero,gY,List.take_append_of_le_length (by simp),qB (by simp)]) (ae cs)
theorem ux {ro ra rb:Bool}{ea eb:List Int}{k:Nat}(hm:dX m t=.live 10 (aP l a ta b tb) ro)(hf:fz t=true)(ha:∀y,l[a]? =some y→dX m ta=.live 1 ((y.kids++ea).map bV) ra∧fz ta=true)(hb:∀y,l[b]? =some y→dX m tb=.live 1 ((y.kids++eb).map bV) rb∧fz tb=true):xU m fz (MF tab fz m (k+2)) (rE l) t 0 l.length:=by
  have hk:∀ (u:Nat) (e:List Int) (r:Bool) (y:ai),dX m u=.live 1 ((y.kids++e).map bV) r→fz u=true→MF tab fz m (k+2) (bJ y) (dF y u):=fun u e r y q1 q2=>
    ⟨rfl,rfl,rfl,rfl,jg _ _ rfl,rfl,GW q1 q2,rfl,rfl,rfl,trivial⟩
  refine⟨10,_,ro,l.map bJ,hm,hf,rfl,by rw[bN];omega,ic bJ mS l,by rw[List.drop_zero,qB (by rw[bN];omega),bN,cj],fun i x z hx hz=>?_⟩
  rw[List.drop_zero,qB (by rw[bN];omega)] at hz
  obtain⟨y,hy,rfl⟩:=ko hz
  rw[fH,hy] at hx
  cases hx
  show MF tab fz m (k+2) (bJ y) (ei a ta b tb i y)
  unfold ei
  by_cases e:i=a
  · rw[if_pos e]
    subst e
    exact hk ta ea ra y (ha y hy).1 (ha y hy).2
  · rw [if_neg e]
    by_cases c:i=b
    · rw[if_pos c]
      subst c
      exact hk tb eb rb y (hb y hy).1 (hb y hy).2
    ·rw[if_neg c];exact jg _ _ (mS y)
end
theorem An {R:AV→AV→Prop}:∀ {a b:List AV},eF R a b→yp R a b
  |[],[],_=>trivial
  |x::a,y::b,h=>⟨h.2 0 x y rfl rfl,An ⟨by have:=h.1;simpa using this,fun i p q h1 h2=>h.2 (i+1) p q (by simpa using h1) (by simpa using h2)⟩⟩
  |[],_::_,h=>by have:=h.1;simp at this
  |_::_,[],h=>by have:=h.1;simp at this
theorem qK {w:Nat}:∀ {a b:List AV},a.length=b.length→bD w a→bD w b→n9 a b=true
  |[],[],_,_,_=>rfl
  | x ::a,y::b,hl,ha,hb=>by
    have e:si (eL (dy x)) (eL (dy y))=true:=by
      rw[dW,cR,cR,eI,eI,ha.tail.1,hb.tail.1]
      exact Nat.beq_refl _
    simp only[n9,e]
    exact qK (by simpa using hl) ha.tail.2 hb.tail.2
  |[],_::_,hl,_,_=>by simp at hl
  |_::_,[],hl,_,_=>by simp at hl
theorem CN {f:AV→AV}:∀ {a b:List AV},a.length=b.length→(∀ (i:Nat) x y,a[i]? =some x→b[i]? =some y→x=f y)→a=dU f b
  |[],[],_,_=>rfl
  | x::a,y::b,hl,h=>by
    show x::a=f y::dU f b
    rw[←h 0 x y rfl rfl,←CN (by simpa using hl) fun i p q h1 h2=>h (i+1) p q (by simpa using h1) (by simpa using h2)]
  |[],_::_,hl,_=>by simp at hl
  |_::_,[],hl,_=>by simp at hl
theorem CF {p:AV→Bool}:∀ {a:List AV},(∀x∈a,p x=true)→iP p a=true
  |[],_=>rfl
  | x::a,h=>by
    simp only[iP,h x dJ]
    exact CF fun y hy=>h y (c7 _ hy)
section
variable {l : List ai} {a ta b tb ta0 tb0 n : Nat} {names : List Nat}
theorem Dt (h1:gd names ta0=some ta)(h2:gd names tb0=some tb):aP l a ta b tb=dU (ox names 12) (aP l a ta0 b tb0):=by
  refine CN (by rw[bN,bN]) fun i x y hx hy=>?_
  obtain⟨z,hz,rfl⟩:=ko hx
  obtain⟨z2,hz2,rfl⟩:=ko hy
  rw[hz] at hz2;cases hz2
  have key:∀u u0:Nat,gd names u0=some u→dF z u=ox names 12 (dF z u0):=fun u u0 h=>by
    show dN z u=ox names 12 (dN z u0)
    simp only[dN,ox,dU,h]
  unfold ei
  split
  ·exact key _ _ h1
  · split
    ·exact key _ _ h2
    ·rfl
theorem Hl (h1:ta<n)(h2:tb<n):iP (Au 12 n) (aP l a ta b tb)=true:=by
  refine CF fun x hx=>?_
  obtain⟨j,hj⟩:=List.getElem?_of_mem hx
  obtain⟨z,_,rfl⟩:=ko hj
  have key:∀u:Nat,u<n→Au 12 n (dF z u)=true:=fun u h=>by
    have hb:Nat.ble (u+1) n=true:=by rw[Nat.ble_eq];exact h
    show Au 12 n (dN z u)=true
    simp[dN,Au,iP,bu,hb]
  unfold ei
  split
  ·exact key _ h1
  · split
    ·exact key _ h2
    · show Au 12 n (az z)=true
      simp[Au,iP,bu]
end
end Go.Proofs.Heir
