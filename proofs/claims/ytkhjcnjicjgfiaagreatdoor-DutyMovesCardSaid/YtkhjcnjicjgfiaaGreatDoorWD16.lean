/- Models, plain laws and contracts of functions of the given program; conditions as stated in each theorem. By an AI agent. -/
import Derived.Test.YtkhjcnjicjgfiaaGreatDoorWD15
import Derived.Test.YtkhjcnjicjgfiaaGreatDoorWD13
import Derived.Laws.StructEq
import Derived.Tactics
import Derived.Test.YtkhjcnjicjgfiaaGreatDoorWD14
set_option linter.unusedSimpArgs false
set_option linter.unusedVariables false
namespace Go.Proofs.Heir
open Go Go.Am Go.RowKit Go.Lib
set_option maxRecDepth 100000
set_option maxHeartbeats 8000000
structure Ld where
 kind:Int
 a:Int
 b:Int
 c:Int
 s:ByteArray
 t:ByteArray
 must:Bool
 deriving DecidableEq
@[reducible] def PF (x : Ld) : AV := .agg [ay x.kind, ay x.a, ay x.b, ay x.c, cw x.s, cw x.t, aX x.must]
def KE (x:Ld):AV:=PF x
@[reducible] def GQ (l : List Ld) : AV := .sl 7 (l.map KE)
structure eo where
 kind:Int
 prog:List Ld
 deriving DecidableEq
@[reducible] def zo (x : eo) : AV := .agg [ay x.kind, GQ x.prog]
def mQ (x:eo):AV:=zo x
@[reducible] def qW (l : List eo) : AV := .sl 2 (l.map mQ)
structure aM where
 form:Bool
 watch:List ByteArray
 peek:List Ld
 make:List Ld
 hooks:List eo
 deriving DecidableEq
@[reducible] def fD (x : aM) : AV := .agg [aX x.form, sB x.watch, GQ x.peek, GQ x.make, qW x.hooks]
def s8 (x:aM):AV:=fD x
@[reducible] def dN (l : List aM) : AV := .sl 5 (l.map s8)
structure StateM where
 phase:Int
 df:Int
 owner:Int
 barred:Bool
 deriving DecidableEq
@[reducible] def gO (x : StateM) : AV := .agg [ay x.phase, ay x.df, ay x.owner, aX x.barred]
def eR (x:StateM):AV:=gO x
@[reducible] def eP (l : List StateM) : AV := .sl 4 (l.map eR)
structure bZ where
 kind:Int
 node:Int
 src:Int
 dst:Int
 name:ByteArray
 had:Bool
 has:Bool
 old:ByteArray
 new:ByteArray
 deriving DecidableEq
@[reducible] def Kn (x : bZ) : AV := .agg [ay x.kind, ay x.node, ay x.src, ay x.dst, cw x.name, aX x.had, aX x.has, cw x.old, cw x.new]
def kE (x:bZ):AV:=Kn x
structure gi where
 kind:Int
 df:Int
 name:ByteArray
 had:Bool
 has:Bool
 old:ByteArray
 new:ByteArray
 src:Int
 dst:Int
 on:Bool
 deriving DecidableEq
@[reducible] def uK (x : gi) : AV := .agg [ay x.kind, ay x.df, cw x.name, aX x.had, aX x.has, cw x.old, cw x.new, ay x.src, ay x.dst, aX x.on]
structure ej where
 node:Int
 todo:gi
 deriving DecidableEq
@[reducible] def mP (x : ej) : AV := .agg [ay x.node, ay x.todo.kind, ay x.todo.df, cw x.todo.name, aX x.todo.had, aX x.todo.has, cw x.todo.old, cw x.todo.new, ay x.todo.src, ay x.todo.dst, aX x.todo.on]
def iU (x:ej):AV:=mP x
@[reducible] def kj (l : List ej) : AV := .sl 11 (l.map iU)
@[reducible] def cA (l : List ej) : MS := .live 11 (l.map iU) false
theorem aJ (l:List ej):aV (l.map iU)=true:=dL iU (fun _=>rfl) l
theorem qT {m:ML}{fz:Nat→Bool}{tab:List (Nat×Nat)}{n t len:Nat}{ro:Bool}{rows:List AV}{l:List ej}(h1:dc m t=.live 11 rows ro)(h2:fz t=true)(h3:rows=l.map iU)(h4:len=l.length):sN m fz (MF tab fz m n) (kj l) t 0 len:=by
 subst h3;subst h4
 have e:(l.map iU).length=l.length:=bM ..
 exact .cut h1 h2 (by omega) (by rw[List.drop_zero,nU (by omega)]) (aJ l)
theorem sO {l:List eo}{k:Nat}{x:eo}(h:l[k]? =some x):(l.map mQ)[k]? =some (zo x):=by rw[dM,h];rfl
theorem wO {l:List aM}{k:Nat}{x:aM}(h:l[k]? =some x):(l.map s8)[k]? =some (fD x):=by rw[dM,h];rfl
theorem fP {l:List StateM}{k:Nat}{x:StateM}(h:l[k]? =some x):(l.map eR)[k]? =some (gO x):=by rw[dM,h];rfl
theorem Hh {l:List ej}{k:Nat}{x:ej}(h:l[k]? =some x):(l.map iU)[k]? =some (mP x):=by rw[dM,h];rfl
theorem DZ (l:List Ld):aV (l.map KE)=true:=dL KE (fun _=>rfl) l
theorem AM (x:eo):bj (mQ x)=true:=by
 show bj (.agg [ay x.kind,.sl 7 (x.prog.map KE)])=true
 simp[bj,aV,DZ]
def A1 (l:List eo)(k:Int):Option eo:=l.find? fun h=>decide (h.kind=k)
def mG (l:List eo):List (Int×eo):=l.reverse.foldl (fun t h=>dP h.kind h t) []
theorem tW (k:Int):∀l:List eo,cM k (mG l)=A1 l k
 |[]=>rfl
 | h::r=>by
   have e:mG (h::r)=dP h.kind h (mG r):=by unfold mG;rw[List.reverse_cons,List.foldl_append];rfl
   rw[e,eE,tW k r]
   unfold A1
   rw[List.find?_cons]
   by_cases e:h.kind=k
   ·rw[if_pos e,dB e]
   ·rw[if_neg e,dQ e]
def cG (c:aM)(k:Int):Bool:=(A1 c.hooks k).isSome
def eO (s:StateM)(d:bw)(n:Nat):Int:=if 0≤s.df then match d.defs[s.df.toNat]? with
  |some x=>if 0≤x.cls∧x.cls<n then x.cls else-1
  |none=> -1
 else-1
def xD:aM:=⟨false,[],[],[],[]⟩
def cJ (s:StateM)(d:bw)(cs:List aM):aM:=if 0≤eO s d cs.length then(cs[(eO s d cs.length).toNat]?).getD xD else xD
def jK (s:StateM)(d:bw)(cs:List aM):Bool:=decide (0≤eO s d cs.length)
end Go.Proofs.Heir
namespace Go.Proofs.Heir
open Go Go.Am Go.RowKit Go.Shelf
set_option maxRecDepth 100000
set_option maxHeartbeats 8000000
theorem AA {Wn:Nat→Prop}{μ:Mu}{W:World}{wd:Nat}{rows:List AV}{b o:Nat}(h:cm Wn μ W (.fptr (.sl wd rows) 0) (.pointer (some ⟨b,o,none⟩))):
  ∃ad cap,W.cell? ⟨b,o,none⟩=some (.slice ad rows.length cap)∧rows.length≤cap∧∀ (j:Nat) (r:AV),rows[j]? =some r→∃b2 o2 vs,ad=some ⟨b2,o2,none⟩∧List.length vs=wd∧(∀q v,vs[q]? =some v→W.cell? ⟨b2,o2+j*wd+q,none⟩=some v)∧∀ (q:Nat) (c:AV) (v:Value),(cells r)[q]? =some c→vs[q]? =some v→cm Wn μ W c v:=by
 generalize hv:Value.pointer (some ⟨b,o,none⟩)=v at h
 cases h with
 | @fptr _ _ b' o' f h1 h2 h3 h4 h5=>
   cases hv
   have k3:=h3 0 _ rfl
   have k4:=h4 0 _ rfl
   rw[Nat.add_zero] at k3
   rw[Nat.add_zero,k3]
   generalize f 0=s at k4
   by_cases hne:rows=[]
   ·subst hne
    cases k4 with
    |slNil=>exact⟨_,_,rfl,Nat.zero_le _,fun j x h=>by simp at h⟩
    |sl a1 a2 a3 a4 a5 a6 a7 a8=>subst a3;exact⟨_,_,rfl,Nat.zero_le _,fun j x h=>by simp at h⟩
   ·cases k4 with
    |slNil=>exact absurd rfl hne
    | @sl _ _ b2 o2 cap _ fv a1 a2 a3 a4 a5 a6 a7 a8=>
      subst a3
      refine⟨_,_,rfl,a4,fun j r hr=>⟨b2,o2,(List.range wd).map fun q=>fv (j*wd+q),rfl,by simp,fun q v hv=>?_,fun q c v hc hv=>?_⟩⟩
      ·have hqw:q<wd:=by have:=(br hv).1;simpa using this
       have hcl:(cells r).length=wd:=a5 j _ hr
       obtain⟨c,hc⟩:∃c,(cells r)[q]? =some c:=⟨_,bh (by omega)⟩
       have:=a6 _ _ (dn (wd:=wd) (fun i r hr=>a5 i r hr) hr hc)
       rw[Nat.add_assoc,this]
       rw[dM,List.getElem?_range hqw] at hv
       simpa using hv
      ·have hqw:q<wd:=by have:=(br hv).1;simpa using this
       rw[dM,List.getElem?_range hqw] at hv
       have hv':fv (j*wd+q)=v:=by simpa using hv
       rw[←hv']
       exact a7 _ _ (dn (wd:=wd) (fun i r hr=>a5 i r hr) hr hc)
theorem KD {α:Type}:∀ {l:List α},l.length=2→∃a b,l=[a,b]
 |[a,b],_=>⟨a,b,rfl⟩
theorem HA (l:List eo)(hl:l.length≤100000):Jb Tryz.prog 230 [.fptr (qW l) 0] l.length (fun k=>[bu ((l.length:Int)-1-k),zo ((l.reverse[k]?).getD ⟨0,[]⟩)]):=by
 intro vals y J Jx hJ hJm hJxm _ hY Wn w h0
 obtain⟨⟨μ,hr⟩,_⟩:=hJ 0 Wn w h0
 obtain⟨vb,us,rfl,hvb,hus⟩:=bY.oZ hr
 obtain rfl:=bY.Cy hus
 obtain⟨b,o,rfl⟩:∃b o,vb=.pointer (some ⟨b,o,none⟩):=by cases hvb;exact⟨_,_,rfl⟩
 have box:∀k Wn W,J k Wn W→∃μ ad cap,W.cell? ⟨b,o,none⟩=some (.slice ad l.length cap)∧l.length≤cap∧∀ (j:Nat) (x:eo),l[j]? =some x→∃b2 o2 a n c,ad=some ⟨b2,o2,none⟩∧W.cell? ⟨b2,o2+j*2,none⟩=some (.int .i64 x.kind)∧W.cell? ⟨b2,o2+j*2+1,none⟩=some (.slice a n c)∧cm Wn μ W (GQ x.prog) (.slice a n c):=by
  intro k Wn W hJk
  obtain⟨⟨μ,hr⟩,_⟩:=hJ k Wn W hJk
  obtain⟨v1,us,e,hv1,_⟩:=bY.oZ hr
  cases e
  obtain⟨ad,cap,h1,h2,h3⟩:=AA hv1
  rw[bM] at h1 h2
  refine⟨μ,ad,cap,h1,h2,fun j x hx=>?_⟩
  obtain⟨b2,o2,vs,e,hlen,hc,hrep⟩:=h3 j _ (sO hx)
  obtain⟨v0,v1,rfl⟩:=KD hlen
  have r0:=hrep 0 _ _ rfl rfl
  have r1:=hrep 1 _ _ rfl rfl
  have c0:=hc 0 _ rfl
  have c1:=hc 1 _ rfl
  obtain⟨a,n,c,rfl⟩:=LP r1
  obtain rfl:=r0.val
  exact⟨b2,o2,a,n,c,e,c0,c1,r1⟩
 refine(callsIn_wide (n:=1)).1 ?_
 refine callsIn_of_wp Tryz.func230 rfl trivial ?_ rfl
 simp only[Tryz.ntmps230,List.size_toArray,List.length_cons,List.length_nil,Nat.reduceAdd,Nat.reduceSub,Array.replicate_succ,Array.replicate_zero,List.push_toArray,List.append_toArray,List.nil_append,List.cons_append]
 obtain⟨μ0,ad,cap,hbx,hcap,hel⟩:=box 0 Wn w h0
 gi_wp2
 gi_loopw [3] (fun i wr=> ∃k:Nat,k≤l.length∧i=.int .i64 ((l.length:Int)-1-k)∧∃Wn,J k Wn wr) (fun i _=>(intOf i+1).toNat)
 case atStart=>exact⟨0,Nat.zero_le _,by simp,Wn,h0⟩
 case round=>
  obtain⟨k,hk,rfl,Wn',hJk⟩:=hrel
  obtain⟨μ',ad',cap',hbx',hcap',hel'⟩:=box k Wn' wr hJk
  by_cases hlt:k<l.length
  ·have hix:l.length-1-k<l.length:=by omega
   obtain⟨⟨x1,x2⟩,hx⟩:∃x,l[l.length-1-k]? =some x:=⟨_,bh hix⟩
   obtain⟨b2,o2,pa,pn,pc,rfl,hc0,hc1,hrp⟩:=hel' _ _ hx
   simp only at hc0 hc1 hrp
   have hrev:(l.reverse[k]?).getD ⟨0,[]⟩=⟨x1,x2⟩:=by
    rw[List.getElem?_reverse (by omega),hx];rfl
   obtain⟨fn,tmps,assign,body,hy,hR⟩:=hY k Wn' wr [.int .i64 ((l.length:Int)-1-k),.agg #[.int .i64 x1,.slice pa pn pc]] hlt hJk (fun Wn'' μ'' hrA=>by
    rw[hrev]
    obtain⟨vA,usA,eA,hvA,_⟩:=bY.oZ hrA
    cases eA
    obtain⟨adA,capA,hA1,hA2,hA3⟩:=AA hvA
    rw[bM,hbx'] at hA1
    obtain⟨bA,oA,vsA,eA,hlenA,hcA,hrepA⟩:=hA3 _ _ (sO hx)
    cases hA1
    cases eA
    obtain⟨w0,w1,rfl⟩:=KD hlenA
    have c1:=hcA 1 _ rfl
    rw[hc1] at c1
    cases c1
    refine .cons .lit (.cons (cm.agg (vs:=[.int .i64 x1,.slice pa pn pc]) rfl ?_) .nil)
    rintro(_|_|j) c v hc hv
    ·cases hc;cases hv;exact .lit
    ·cases hc;cases hv;exact hrepA 1 _ _ rfl rfl
    ·simp at hv)
   have hz:((l.length:Int)-1-k).toNat=l.length-1-k:=by omega
   gi_wp2
   refine hR.mono ?_
   rintro e W3 (⟨rfl,Wn3,hJ3,_⟩|⟨rfl,hJx3⟩)
   ·gi_wp2
    go_roundw
    case rel=>exact⟨k+1,by omega,by congr 1;omega,Wn3,hJ3⟩
    case measure=>simp[intOf];omega
   ·gi_wp2
    refine bodyPost_ret (results_none rfl _ _ _) rfl ?_
    exact⟨⟨_,rfl⟩,.inr hJx3⟩
  ·obtain rfl:k=l.length:=by omega
   gi_wp2
   go_end0
   exact⟨⟨_,rfl⟩,.inl ⟨_,hJk⟩⟩
end Go.Proofs.Heir
namespace Go.Proofs.Heir
open Go Go.Am Go.RowKit Go.Lib
set_option maxRecDepth 100000
set_option maxHeartbeats 8000000
theorem Jt (l:List eo):an Tryz.prog 216 [] [qW l] [] (.clo (.func 230) [] [.fptr (qW l) 0]):=by
 refine an.aF (rvs:=[.tmp 2]) G aq Tryz.func216 rfl Tryz.ntmps216 rfl rfl ?_;with_reducible refine wD ?_
 refine⟨⟨rfl,rfl⟩,⟨rfl,trivial,⟨_,_,_,_,_,rfl,rfl,rfl,rfl,rfl,rfl⟩,trivial⟩,?_⟩
 exact trivial
@[reducible] def w9 (t : List (Int × eo)) : MS := .live 2 (dz nZ mQ t) false
theorem jY (t:List (Int×eo)):aV (dz nZ mQ t)=true:=by
 rw[cr];intro x hx
 obtain⟨a,_,rfl⟩:=List.mem_map.1 hx
 show bj (.agg [.lit (nZ a.1),mQ a.2])=true
 simp[bj,aV,AM]
theorem AS (t:List (Int×eo)):ic [w9 t]:=by
 refine⟨bB.ga fun r hr=>?_,jY _,trivial⟩
 obtain⟨p,_,rfl⟩:=List.mem_map.1 hr
 rfl
theorem Kt:gj Tryz.prog 232 (.int .i64) (.agg #[.int .i64 0,.slice none 0 0]):=⟨3,150,by kernel_rfl,by kernel_rfl,fun w=>Tryz.zeroValue150 w⟩
def jI (l:List eo)(k:Nat):List (Int×eo):=(l.reverse.take k).foldl (fun t h=>dP h.kind h t) []
theorem Be (l:List eo):jI l l.length=mG l:=by unfold jI mG;rw[nU (by simp)]
theorem rD {l:List eo}{k:Nat}{h:eo}(hh:l.reverse[k]? =some h):jI l (k+1)=dP h.kind h (jI l k):=by
 unfold jI
 rw[List.take_add_one,hh,List.foldl_append];rfl
theorem sR (l:List eo):∀k,(jI l k).length≤k
 |0=>Nat.le_refl _
 | k +1=>by
   have h:=sR l k
   cases e:l.reverse[k]? with
   | none=>
     have:jI l (k+1)=jI l k:=by unfold jI;rw[List.take_add_one,e];simp
     rw[this];omega
   | some x=>
     rw[rD e,mX]
     split<;>omega
theorem HT (c:aM)(hc:c.hooks.length≤100000):an Tryz.prog 200 [] [fD c] [w9 (mG c.hooks)] (.mapr 0):=by
 obtain⟨c1,c2,c3,c4,c5⟩:=c
 simp only at hc ⊢
 refine an.aF (rvs:=[.tmp 2]) G aq Tryz.func200 rfl Tryz.ntmps200 rfl rfl ?_;with_reducible refine wD ?_
 refine cV (Jt c5) OI ?_;with_reducible refine wK ?_
 repeat' (first
  |refine gK ?_|refine aE ?_ ?_
  |apply trivial)
 refine bD.range G aq 2 [(1,.ptr 1 0 0),(3,.ptr 0 0 0),(9,.clo (.func 230) [] [.fptr (qW c5) 0])]
  (fun k=>[(0,.live 1 [.mapr 61] false),(1,.live 5 [fD ⟨c1,c2,c3,c4,c5⟩] false),(61,w9 (jI c5 k))])
  (HA c5 hc) Oz ?_ rfl ⟨⟨rfl,rfl⟩,rfl⟩ (fun _ _=>rfl) (fun _ _=>rfl) ⟨⟨rfl,rfl⟩,rfl,rfl⟩ ?_ ?_
 ·(refine fK ?_;(with_reducible repeat' (first|exact trivial|(show _∧_;refine aK ?_ ?_)));(all_goals try rfl))
  ·exact⟨.refl rfl,rfl⟩
  ·exact⟨.refl rfl,rfl⟩
 ·intro k hk
  obtain⟨⟨x1,x2⟩,hx⟩:∃x,c5.reverse[k]? =some x:=⟨_,bh (by simpa using hk)⟩
  rw[hx,Option.getD_some]
  have hst:=rD hx
  have hle:=sR c5 k
  with_reducible refine wK ?_
  refine vJ.mk rfl ?_;with_reducible refine wK ?_
  repeat' (first
  |refine gK ?_|refine aE ?_ ?_
  |apply trivial)
  refine pQ.tab nZ mQ (jI c5 k) (k:=x1) ⟨x1,x2⟩ Kt rfl jj j3 (by unfold maxLen;omega) rfl ?_;with_reducible refine wK ?_
  simp only at hst
  rw[←hst]
  repeat' (first
  |refine gK ?_|refine aE ?_ ?_
  |apply trivial)
  refine vF.mk ?_
  (refine fK ?_;(with_reducible repeat' (first|exact trivial|(show _∧_;refine aK ?_ ?_)));(all_goals try rfl))
  ·exact⟨.refl rfl,rfl⟩
  ·exact⟨.refl (jY _),jY _⟩
 ·with_reducible refine wK ?_
  rw[Be]
  (refine eK ?_ ?_<;>with_reducible repeat' (first|exact trivial|(show _∧_;refine aK ?_ ?_)))
  exact aQ (jY _)
theorem oL {a b:ByteArray}(h:a.toList=b.toList):a=b:=by
 rw[ByteArray.toList_eq,ByteArray.toList_eq] at h
 cases a;cases b
 simp only[ByteArray.mk.injEq]
 exact Array.toList_inj.1 h
def tG (t u:gi):Bool:=(t.kind==u.kind)&&((t.df==u.df)&&((t.name.toList==u.name.toList)&&((t.had==u.had)&&((t.has==u.has)&&((t.old.toList==u.old.toList)&&((t.new.toList==u.new.toList)&&((t.src==u.src)&&((t.dst==u.dst)&&(t.on==u.on)))))))))
theorem ud (t u:gi):tG t u=decide (t=u):=by
 rw[Bool.eq_iff_iff,bH]
 unfold tG
 simp only[bJ,beq_iff_eq]
 constructor
 ·rintro⟨a,b,c,d,e,f,g,h,i,j⟩
  cases t;cases u
  simp only at*
  subst a;subst b;subst d;subst e;subst h;subst i;subst j
  rw[oL c,oL f,oL g]
 ·rintro rfl;simp
@[reducible] def Ks (t : gi) : Value := .agg #[.int .i64 t.kind, .int .i64 t.df, .string t.name, .bool t.had, .bool t.has, .string t.old, .string t.new, .int .i64 t.src, .int .i64 t.dst, .bool t.on]
theorem EY (n:Nat)(t u:gi)(w:World):(Op.equalIn (n+2) 86 (Ks t) (Ks u)).run Tryz.prog w=.ok (decide (t=u)) w:=by
 have hS:Tryz.prog.underlying 86=some (.struct (Tryz.prog.fieldsOf 86)):=by kernel_rfl
 have hp:Tryz.prog.stoodInHeld 86=false:=by kernel_rfl
 have u3:=Tryz.underlying3
 have a3:=Tryz.isAgg3
 have z3:=Tryz.sizeOf3
 have u4:=Tryz.underlying4
 have a4:=Tryz.isAgg4
 have z4:=Tryz.sizeOf4
 have u9:=Tryz.underlying9
 have a9:=Tryz.isAgg9
 have z9:=Tryz.sizeOf9
 rw[←ud,show n+2=(n+1)+1 from rfl,run_equalIn_agg w (n+1) 86 _ _ hS hp]
 simp only[Program.fieldsOf,Tryz.underlying86]
 go_simp
 clear hS hp u3 a3 z3 u4 a4 z4 u9 a9 z9
 unfold tG
 by_cases h1:t.kind=u.kind<;>by_cases h2:t.df=u.df<;>by_cases h3:t.name.toList=u.name.toList<;>simp[h1,h2,h3]
 by_cases h1:t.had=u.had<;>by_cases h2:t.has=u.has<;>by_cases h3:t.old.toList=u.old.toList<;>simp[h1,h2,h3]
 by_cases h1:t.new.toList=u.new.toList<;>by_cases h2:t.src=u.src<;>by_cases h3:t.dst=u.dst<;>simp[h1,h2,h3]
 by_cases h1:t.on=u.on<;>simp[h1]
@[reducible] def v8 (a : ej) : Value := .agg #[.int .i64 a.node, .int .i64 a.todo.kind, .int .i64 a.todo.df, .string a.todo.name, .bool a.todo.had, .bool a.todo.has, .string a.todo.old, .string a.todo.new, .int .i64 a.todo.src, .int .i64 a.todo.dst, .bool a.todo.on]
theorem IB (a b:ej)(w:World):(Op.equalIn 10000 88 (v8 a) (v8 b)).run Tryz.prog w=.ok (decide (a=b)) w:=by
 have hS:Tryz.prog.underlying 88=some (.struct (Tryz.prog.fieldsOf 88)):=by kernel_rfl
 have hp:Tryz.prog.stoodInHeld 88=false:=by kernel_rfl
 have ht:=EY 9997 a.todo b.todo w
 have u72:=Tryz.underlying86
 have a72:=Tryz.isAgg86
 have z72:=Tryz.sizeOf86
 have u3:=Tryz.underlying3
 have a3:=Tryz.isAgg3
 have z3:=Tryz.sizeOf3
 have e:decide (a=b)=((a.node==b.node)&&tG a.todo b.todo):=by
  obtain⟨a1,a2⟩:=a
  obtain⟨b1,b2⟩:=b
  rw[ud]
  simp only[ej.mk.injEq]
  by_cases h1:a1=b1<;>by_cases h2:a2=b2<;>simp[h1,h2]
 rw[e,show(10000:Nat)=9999+1 from rfl,run_equalIn_agg w 9999 88 _ _ hS hp]
 simp only[Program.fieldsOf,Tryz.underlying88]
 simp only[Nat.reduceAdd] at ht
 go_simp
 clear hS hp
 generalize a.todo=t at ht ⊢
 generalize b.todo=u at ht ⊢
 unfold tG
 by_cases h0:a.node=b.node<;>simp[h0]
 by_cases h1:t.kind=u.kind<;>by_cases h2:t.df=u.df<;>by_cases h3:t.name.toList=u.name.toList<;>simp[h1,h2,h3]
 by_cases h1:t.had=u.had<;>by_cases h2:t.has=u.has<;>by_cases h3:t.old.toList=u.old.toList<;>simp[h1,h2,h3]
 by_cases h1:t.new.toList=u.new.toList<;>by_cases h2:t.src=u.src<;>by_cases h3:t.dst=u.dst<;>simp[h1,h2,h3]
 by_cases h1:t.on=u.on<;>simp[h1]
theorem yH (a b:ej)(y z:Operand)(w:World):((do eqGuard .eql 88 y z (v8 a) (v8 b);binOp .eql 88 (v8 a) (v8 b):Sem Value)).run Tryz.prog w=.ok (.bool (decide (a=b))) w:=by
 rw[Sem.run_bind,run_eqGuard_agg w .eql 88 y z _ _ (by kernel_rfl),Result.andThen_ok,run_eql_struct,IB];rfl
theorem r7 (c:aM)(hc:c.hooks.length≤100000)(k:Int):an Tryz.prog 172 [] [fD c,ay k] [] (aX (cG c k)):=by
 have h53:=HT c hc
 have hg:=tW k c.hooks
 unfold cG
 rw[←hg]
 obtain⟨c1,c2,c3,c4,c5⟩:=c
 simp only at h53 ⊢
 refine an.aF (rvs:=[.tmp 4]) G aq Tryz.func172 rfl Tryz.ntmps172 rfl rfl ?_;with_reducible refine wD ?_
 refine ah.new 91 [] h53 OU ⟨⟨rfl,rfl,rfl,rfl,rfl,trivial⟩,trivial⟩ rfl rfl rfl (AS _) rfl ?_;with_reducible refine wK ?_
 refine jV.tab nZ mQ (mG c5) (k:=k) (zv:=.agg [ay 0,.lit (.slice none 0 0)]) Kt ⟨_,_,rfl⟩ jj j3 rfl rfl (fun x hx=>?_) (fun hx=>?_)
 ·rw[show mQ x=zo x from rfl,hx]
  obtain⟨x1,x2⟩:=x
  with_reducible refine wK ?_
  repeat' (first
  |refine gK ?_|refine aE ?_ ?_
  |apply trivial)
  all_goals rfl
 ·rw[hx]
  with_reducible refine wK ?_
  repeat' (first
  |refine gK ?_|refine aE ?_ ?_
  |apply trivial)
  all_goals rfl
theorem gC {s:StateM}{d:bw}{cs:List aM}(h:eO s d cs.length=-1):cJ s d cs=xD∧jK s d cs=false:=by
 unfold cJ jK
 rw[h];exact⟨rfl,rfl⟩
theorem wk {s:StateM}{d:bw}{cs:List aM}{k:Nat}{c:aM}(h:eO s d cs.length=k)(hc:cs[k]? =some c):cJ s d cs=c∧jK s d cs=true:=by
 unfold cJ jK
 rw[h,if_pos (by omega),Int.toNat_natCast,hc]
 exact⟨rfl,dB (by omega)⟩
theorem yF (s:StateM)(d:bw)(cs:List aM):(s.df<0∧eO s d cs.length=-1)∨(¬s.df<0∧(d.defs.length:Int)≤s.df∧eO s d cs.length=-1)∨
  ∃ (n:Nat) (x:cF),s.df=n∧d.defs[n]? =some x∧(((x.cls<0)∧eO s d cs.length=-1)∨(¬x.cls<0∧(cs.length:Int)≤x.cls∧eO s d cs.length=-1)∨∃ (m:Nat) (c:aM),x.cls=m∧cs[m]? =some c∧eO s d cs.length=m):=by
 by_cases h1:s.df<0
 ·exact .inl ⟨h1,by unfold eO;rw[if_neg (by omega)]⟩
 obtain⟨n,hn⟩:∃n:Nat,s.df=n:=⟨_,(Int.toNat_of_nonneg (by omega)).symm⟩
 have e:eO s d cs.length=match d.defs[n]? with
  |some x=>if 0≤x.cls∧x.cls<cs.length then x.cls else-1
  |none=> -1:=by unfold eO;rw[if_pos (by omega),hn,Int.toNat_natCast]<;>(cases d.defs[n]? <;>rfl)
 by_cases h2:(d.defs.length:Int)≤s.df
 ·exact .inr (.inl ⟨h1,h2,by rw[e,mg (by omega)]⟩)
 obtain⟨x,hx⟩:∃x,d.defs[n]? =some x:=⟨_,bh (by omega)⟩
 rw[hx] at e
 simp only at e
 refine .inr (.inr ⟨n,x,hn,hx,?_⟩)
 by_cases h3:x.cls<0
 ·exact .inl ⟨h3,by rw[e,if_neg (by omega)]⟩
 by_cases h4:(cs.length:Int)≤x.cls
 ·exact .inr (.inl ⟨h3,h4,by rw[e,if_neg (by omega)]⟩)
 obtain⟨m,hm⟩:∃m:Nat,x.cls=m:=⟨_,(Int.toNat_of_nonneg (by omega)).symm⟩
 exact .inr (.inr ⟨m,_,hm,bh (by omega),by rw[e,if_pos (by omega),hm]⟩)
theorem Dw (s:StateM)(d:bw)(cs:List aM):an Tryz.prog 171 [] [gO s,gN d,dN cs] [] (.tup [fD (cJ s d cs),aX (jK s d cs)]):=by
 have hd:=(show(d.defs.map Bt).length=d.defs.length from bM ..)
 have hcs:=(show(cs.map s8).length=cs.length from bM ..)
 rcases yF s d cs with⟨h1,h2⟩|⟨h1,h2,h3⟩|⟨n,⟨x1,x2,x3⟩,hn,hx,⟨h1,h2⟩|⟨h1,h2,h3⟩|⟨m,⟨c1,c2,c3,c4,c5⟩,hm,hc,h1⟩⟩
 ·rw[(gC h2).1,(gC h2).2]
  obtain⟨s1,s2,s3,s4⟩:=s
  obtain⟨d1,d2,d3,d4⟩:=d
  simp only at h1
  refine an.aF (rvs:=[.cell 6 154,.tmp 7]) G aq Tryz.func171 rfl Tryz.ntmps171 rfl rfl ?_;with_reducible refine wD ?_
  (have fct:=(eq_true h1);(repeat' (first
  |refine gF ?_|refine aE ?_ ?_
  |apply trivial));all_goals clear fct)
  all_goals first|rfl|exact .inr (.inr ⟨_,rfl⟩)
 ·rw[(gC h3).1,(gC h3).2]
  obtain⟨s1,s2,s3,s4⟩:=s
  obtain⟨d1,d2,d3,d4⟩:=d
  simp only at h1 h2 hd
  refine an.aF (rvs:=[.cell 6 154,.tmp 7]) G aq Tryz.func171 rfl Tryz.ntmps171 rfl rfl ?_;with_reducible refine wD ?_
  (have fct:=And.intro (eq_false h1) (And.intro hd ((eq_true h2)));(repeat' (first
  |refine gF ?_|refine aE ?_ ?_
  |apply trivial));all_goals clear fct)
  all_goals first|rfl|exact .inr (.inr ⟨_,rfl⟩)
 ·rw[(gC h2).1,(gC h2).2]
  obtain⟨s1,s2,s3,s4⟩:=s
  obtain⟨d1,d2,d3,d4⟩:=d
  simp only at h1 hn hx hd
  subst hn
  have hl:=(br hx).1
  refine an.aF (rvs:=[.cell 6 154,.tmp 7]) G aq Tryz.func171 rfl Tryz.ntmps171 rfl rfl ?_;with_reducible refine wD ?_
  (have fct:=And.intro hd ((eq_true h1));(repeat' (first
  |refine pF ?_|refine aE ?_ ?_
  | ((first
   |((with_reducible show aL _ _ _ _);(refine aL.mk (fun hp=>?_) (fun hp=>?_)<;>(try simp only[ak,bH,dG,Bool.not_eq_true',Bool.not_eq_false',Decidable.not_not,Int.not_lt,Int.not_le] at hp)))
   |((with_reducible show bn _ _ _ _ _);refine bn.mk n (xY ⟨x1,x2,x3⟩) rfl (lN hx) ?_))<;>with_reducible refine wK ?_)
  |apply trivial));all_goals clear fct)
  all_goals first|rfl|exact .inr (.inr ⟨_,rfl⟩)
 ·rw[(gC h3).1,(gC h3).2]
  obtain⟨s1,s2,s3,s4⟩:=s
  obtain⟨d1,d2,d3,d4⟩:=d
  simp only at h1 h2 hn hx hd
  subst hn
  have hl:=(br hx).1
  refine an.aF (rvs:=[.cell 6 154,.tmp 7]) G aq Tryz.func171 rfl Tryz.ntmps171 rfl rfl ?_;with_reducible refine wD ?_
  (have fct:=And.intro hd (And.intro hcs (And.intro (eq_false h1) ((eq_true h2))));(repeat' (first
  |refine pF ?_|refine aE ?_ ?_
  | ((first
   |((with_reducible show aL _ _ _ _);(refine aL.mk (fun hp=>?_) (fun hp=>?_)<;>(try simp only[ak,bH,dG,Bool.not_eq_true',Bool.not_eq_false',Decidable.not_not,Int.not_lt,Int.not_le] at hp)))
   |((with_reducible show bn _ _ _ _ _);refine bn.mk n (xY ⟨x1,x2,x3⟩) rfl (lN hx) ?_))<;>with_reducible refine wK ?_)
  |apply trivial));all_goals clear fct)
  all_goals first|rfl|exact .inr (.inr ⟨_,rfl⟩)
 ·rw[(wk h1 hc).1,(wk h1 hc).2]
  obtain⟨s1,s2,s3,s4⟩:=s
  obtain⟨d1,d2,d3,d4⟩:=d
  simp only at hm hn hx hd
  subst hn
  subst hm
  have hl:=(br hx).1
  have hl2:=(br hc).1
  refine an.aF (rvs:=[.cell 6 154,.tmp 7]) G aq Tryz.func171 rfl Tryz.ntmps171 rfl rfl ?_;with_reducible refine wD ?_
  (have fct:=And.intro hd (hcs);(repeat' (first
  |refine pF ?_|refine aE ?_ ?_
  | ((first
   |((with_reducible show aL _ _ _ _);(refine aL.mk (fun hp=>?_) (fun hp=>?_)<;>(try simp only[ak,bH,dG,Bool.not_eq_true',Bool.not_eq_false',Decidable.not_not,Int.not_lt,Int.not_le] at hp)))
   |((with_reducible show bn _ _ _ _ _);first|refine bn.mk n (xY ⟨x1,x2,(m:Int)⟩) rfl (lN hx) ?_|refine bn.mk m (fD ⟨c1,c2,c3,c4,c5⟩) rfl (wO hc) ?_))<;>with_reducible refine wK ?_)
  |apply trivial));all_goals clear fct)
  all_goals trace_state
def gB (f:ForM)(st:List StateM)(d:bw):Bool:=(decide (st.length=f.nodes.length)&&aU f)&&ig d
structure Lw (c:aM):Prop where
 hooks:c.hooks.length≤100000
 watch:c.watch.length≤100000
 peek:c.peek.length≤100000
 make:c.make.length≤100000
 progs:∀h∈c.hooks,h.prog.length≤100000
def FN (cs:List aM):Prop:=∀c∈cs,Lw c
end Go.Proofs.Heir
namespace Go.Proofs.Heir
open Go Go.Am Go.RowKit Go.Lib
set_option maxRecDepth 100000
def tH (h:eo):Bool:=decide (h.prog.length≤80)
def mj (c:aM):Bool:=(((decide (c.watch.length≤20)&&decide (c.hooks.length≤20))&&decide (c.peek.length≤80))&&decide (c.make.length≤80))&&c.hooks.all tH
def qU (cs:List aM):Bool:=decide (cs.length≤14)&&cs.all mj
theorem rS {cs:List aM}(h:qU cs=true):FN cs:=by
 intro c hc
 unfold qU at h
 rw[bJ,List.all_eq_true] at h
 have h2:=h.2 c hc
 unfold mj at h2
 simp only[bJ,bH,List.all_eq_true] at h2
 obtain⟨⟨⟨⟨h3,h4⟩,h5⟩,h6⟩,h7⟩:=h2
 exact⟨by omega,by omega,by omega,by omega,fun x hx=>by have:=h7 x hx;unfold tH at this;simp only[bH] at this;omega⟩
theorem Js (cs:List aM):an Tryz.prog 109 [] [dN cs] [] (aX (qU cs)):=by
 unfold qU
 have hlm:(cs.map s8).length=cs.length:=bM ..
 refine an.aF (rvs:=[.tmp 2]) G aq Tryz.func109 rfl Tryz.ntmps109 rfl rfl ?_;with_reducible refine wD ?_
 by_cases e0:(14:Int)< (cs.length:Int)
 ·rw[dQ (show ¬cs.length≤14 by omega)]
  (have fct:=And.intro hlm (e0);(repeat' (first
  |refine gF ?_|refine aE ?_ ?_
  |apply trivial));all_goals clear fct)
  all_goals rfl
 rw[dB (show cs.length≤14 by omega),Bool.true_and]
 (have fct:=And.intro hlm ((eq_false e0));(repeat' (first
  |refine gF ?_|refine aE ?_ ?_
  |apply trivial));all_goals clear fct)
 refine bD.use G aq (fun(k:Nat)=>[(0,dN cs),(3,ay k)]) (fun _=>[])
  (fun k=>k≤cs.length∧∀ (j:Nat) (y:aM),j<k→cs[j]? =some y→mj y=true) (fun k=>cs.length-k) 0 ⟨Nat.zero_le _,fun j y h=>by omega⟩
  ⟨⟨rfl,rfl⟩,⟨rfl,rfl,trivial⟩,trivial⟩ ?_
 rintro k ⟨hk,hok⟩
 with_reducible refine wK ?_
 refine aL.mk (fun h1=>?_) (fun h1=>?_)<;>(try simp only[ak] at h1)<;>with_reducible refine wK ?_
 ·have hk':k<cs.length:=by simp only[bH] at h1;omega
  obtain⟨x,hx⟩:∃x,cs[k]? =some x:=⟨_,bh hk'⟩
  have bad:mj x=false→cs.all mj=false:=fun h=>BB hx h
  have good:mj x=true→∀ (j:Nat) (y:aM),j<k+1→cs[j]? =some y→mj y=true:=fun h j y hj hy=>by
   rcases Nat.lt_or_ge j k with h6|h6
   ·exact hok j y h6 hy
   ·have:j=k:=by omega
    subst this
    rw[hx] at hy;cases hy;exact h
  obtain⟨c1,c2,c3,c4,c5⟩:=x
  have n2:(c2.map oJ).length=c2.length:=bM ..
  have n3:(c3.map KE).length=c3.length:=bM ..
  have n4:(c4.map KE).length=c4.length:=bM ..
  have n5:(c5.map mQ).length=c5.length:=bM ..
  have sk:mj ⟨c1,c2,c3,c4,c5⟩=((((decide (c2.length≤20)&&decide (c5.length≤20))&&decide (c3.length≤80))&&decide (c4.length≤80))&&c5.all tH):=rfl
  rw[sk] at bad good
  refine bn.mk k (fD ⟨c1,c2,c3,c4,c5⟩) rfl (wO hx) ?_;with_reducible refine wK ?_
  by_cases e1:(20:Int)< (c2.length:Int)
  ·rw[bad (by rw[dQ (show ¬c2.length≤20 by omega)];rfl)]
   (have fct:=And.intro n2 (e1);(repeat' (first
  |refine gF ?_|refine aE ?_ ?_
  |apply trivial));all_goals clear fct)
  by_cases e2:(20:Int)< (c5.length:Int)
  ·rw[bad (by rw[dQ (show ¬c5.length≤20 by omega),Bool.and_false];rfl)]
   (have fct:=And.intro n2 (And.intro n5 (And.intro (eq_false e1) (e2)));(repeat' (first
  |refine gF ?_|refine aE ?_ ?_
  |apply trivial));all_goals clear fct)
  by_cases e3:(80:Int)< (c3.length:Int)
  ·rw[bad (by rw[dQ (show ¬c3.length≤80 by omega),Bool.and_false];rfl)]
   (have fct:=And.intro n2 (And.intro n5 (And.intro n3 (And.intro (eq_false e1) (And.intro (eq_false e2) (e3)))));(repeat' (first
  |refine gF ?_|refine aE ?_ ?_
  |apply trivial));all_goals clear fct)
  by_cases e4:(80:Int)< (c4.length:Int)
  ·rw[bad (by rw[dQ (show ¬c4.length≤80 by omega),Bool.and_false];rfl)]
   (have fct:=And.intro n2 (And.intro n5 (And.intro n3 (And.intro n4 (And.intro (eq_false e1) (And.intro (eq_false e2) (And.intro (eq_false e3) (e4)))))));(repeat' (first
  |refine gF ?_|refine aE ?_ ?_
  |apply trivial));all_goals clear fct)
  rw[dB (show c2.length≤20 by omega),dB (show c5.length≤20 by omega),dB (show c3.length≤80 by omega),dB (show c4.length≤80 by omega)] at bad good
  simp only[Bool.true_and] at bad good
  (have fct:=And.intro n2 (And.intro n5 (And.intro n3 (And.intro n4 (And.intro (eq_false e1) (And.intro (eq_false e2) (And.intro (eq_false e3) ((eq_false e4))))))));(repeat' (first
  |refine gF ?_|refine aE ?_ ?_
  |apply trivial));all_goals clear fct)
  refine bD.use G aq (fun(j:Nat)=>[(0,dN cs),(3,ay k),(4,.ptr 40 0 0),(5,ay j)]) (fun _=>[(40,.live 5 [fD ⟨c1,c2,c3,c4,c5⟩] false)])
   (fun j=>j≤c5.length∧∀ (i:Nat) (y:eo),i<j→c5[i]? =some y→tH y=true) (fun j=>c5.length-j) 0 ⟨Nat.zero_le _,fun j y h=>by omega⟩
   ⟨⟨rfl,rfl⟩,⟨rfl,rfl,⟨rfl,rfl⟩,rfl,trivial⟩,⟨⟨rfl,rfl,rfl,rfl,rfl,trivial⟩,trivial⟩,trivial⟩ ?_
  rintro j ⟨hj,hoj⟩
  with_reducible refine wK ?_
  refine aL.mk (fun h2=>?_) (fun h2=>?_)<;>(try simp only[ak] at h2)<;>with_reducible refine wK ?_
  ·have hj':j<c5.length:=by simp only[bH] at h2;omega
   obtain⟨⟨u1,u2⟩,hu⟩:∃x,c5[j]? =some x:=⟨_,bh hj'⟩
   have nu:(u2.map KE).length=u2.length:=bM ..
   refine bn.mk j (zo ⟨u1,u2⟩) rfl (sO hu) ?_;with_reducible refine wK ?_
   by_cases e:(80:Int)< (u2.length:Int)
   ·rw[bad (BB hu (dQ (show ¬u2.length≤80 by omega)))]
    (have fct:=And.intro nu (e);(repeat' (first
  |refine gF ?_|refine aE ?_ ?_
  | apply trivial));all_goals clear fct)
   ·have hnx:∀ (i:Nat) (y:eo),i<j+1→c5[i]? =some y→tH y=true:=fun i y hi hy=>by
     rcases Nat.lt_or_ge i j with h6|h6
     ·exact hoj i y h6 hy
     ·have:i=j:=by omega
      subst this
      rw[hu] at hy;cases hy;exact dB (show u2.length≤80 by omega)
    (have fct:=And.intro nu ((eq_false e));(repeat' (first
  |refine gF ?_|refine aE ?_ ?_
  |(((with_reducible show aT _ _);refine aT.mk (j+1) ⟨by omega,hnx⟩ (by omega) ⟨⟨rfl,rfl⟩,⟨rfl,rfl,⟨rfl,rfl⟩,by show((j+1:Nat):Int)=(j:Int)+1;omega,trivial⟩,⟨⟨rfl,rfl,rfl,rfl,rfl,trivial⟩,trivial⟩,trivial⟩)<;>with_reducible refine wK ?_)
  |apply trivial));all_goals clear fct)
  ·have hjl:j=c5.length:=by simp only[dG] at h2;omega
   have hnx:=good (w7 fun i y hy=>hoj i y (by have:=(br hy).1;omega) hy)
   repeat' (first
  |refine gK ?_|refine aE ?_ ?_
  |(((with_reducible show aT _ _);refine aT.mk (k+1) ⟨by omega,hnx⟩ (by omega) ⟨⟨rfl,rfl⟩,⟨rfl,by show((k+1:Nat):Int)=(k:Int)+1;omega,trivial⟩,trivial⟩)<;>with_reducible refine wK ?_)
  |apply trivial)
 ·have hkl:k=cs.length:=by simp only[dG] at h1;omega
  rw[w7 fun j y hy=>hok j y (by have:=(br hy).1;omega) hy]
  (refine eK ?_ ?_<;>with_reducible repeat' (first|exact trivial|(show _∧_;refine aK ?_ ?_)))

end Go.Proofs.Heir
namespace Go.Proofs.Heir
open Go Go.Am Go.RowKit Go.Lib
set_option maxRecDepth 100000
set_option maxHeartbeats 8000000

def qj (l:List ai)(n:Int):Int:=((U.bk l n).getLast?).getD n
theorem Cg {l:List ai}(T:U.Tree l){n:Int}(hn:aa l n=true)(hp:gb (nd l n)=-1):qj l n=n:=by
 unfold qj;rw[U.fj T hn hp];rfl
theorem zw {l:List ai}(T:U.Tree l){n:Int}(hn:aa l n=true)(hp:gb (nd l n)≠-1)(hu:aa l (gb (nd l n))=true):qj l n=qj l (gb (nd l n)):=by
 obtain⟨r,hr⟩:=U.dm T hu
 unfold qj;rw[U.bP T hn hp,hr,List.getLast?_cons_cons]
 cases h:(gb (nd l n)::r).getLast? with
 |none=>simp at h
 |some a=>rfl
theorem zU {l:List ai}(T:U.Tree l):∀n,aa l n=true→gb (nd l n)≠-1→aa l (gb (nd l n))=true:=by
 refine U.kr T (P:=fun n=>gb (nd l n)≠-1→aa l (gb (nd l n))=true) (fun n hn h0 h=>absurd h0 h) (fun n hn h0 h1 _ _=>h1)
theorem DE {l:List ai}(T:U.Tree l):∀n,aa l n=true→aa l (qj l n)=true:=by
 refine U.kr T (fun n hn h=>?_) (fun n hn h hu ih=>?_)
 ·rw[Cg T hn h];exact hn
 ·rw[zw T hn h hu];exact ih
theorem Kb (f:ForM)(k:Nat)(x:ai)(hx:f.nodes[k]? =some x):an Tryz.prog 149 [] [bF f,ay k] [] (ay (gb x)):=by
 obtain⟨l,m⟩:=f
 obtain⟨a1,a2,a3,a4,a5,a6,a7,a8,a9,a10⟩:=x
 unfold gb
 refine an.aF (rvs:=[.tmp 4]) G aq Tryz.func149 rfl Tryz.ntmps149 rfl rfl ?_;with_reducible refine wD ?_
 by_cases e:a6=-1
 ·subst e
  rw[if_pos rfl]
  repeat' (first
  |refine gK ?_|refine aE ?_ ?_
  |(((with_reducible show bn _ _ _ _ _);refine bn.mk k (aR _) rfl (aI hx) ?_)<;>with_reducible refine wK ?_)
  |apply trivial)
 ·rw[if_neg e]
  (have fct:=(eq_false e);(repeat' (first
  |refine gF ?_|refine aE ?_ ?_
  |(((with_reducible show bn _ _ _ _ _);refine bn.mk k (aR _) rfl (aI hx) ?_)<;>with_reducible refine wK ?_)
  |apply trivial));all_goals clear fct)
def Lt (f:ForM)(n:Int):Int:=if(aU f&&aa f.nodes n)=true then qj f.nodes n else-1
theorem Mk (f:ForM)(hs:bO f.nodes)(n:Int):an Tryz.prog 84 [] [bF f,ay n] [] (ay (Lt f n)):=by
 have h86:=De f hs [n] (by simp)
 have e1:(aU f&& !decide (0≤dI (fun n=> !aa f.nodes n) [n]))=(aU f&&aa f.nodes n):=by
  congr 1
  unfold dI
  cases h:aa f.nodes n<;>simp[List.findIdx?_cons,h]
 rw[e1] at h86
 have h87:=fun k x hx=>Kb f k x hx
 obtain⟨l,m⟩:=f
 unfold Lt
 simp only at h86 h87 ⊢
 refine an.aF (rvs:=[.tmp 4]) G aq Tryz.func84 rfl Tryz.ntmps84 rfl rfl ?_;with_reducible refine wD ?_
 cases e0:(aU ⟨l,m⟩&&aa l n) with
 | false=>
   rw[e0] at h86
   refine ah.lit [71] h86 L6 ⟨⟨rfl,rfl,trivial⟩,fq (l:=[n]) rfl rfl rfl rfl,trivial⟩ rfl rfl ?_;with_reducible refine wK ?_
   repeat' (first
  |refine gK ?_|refine aE ?_ ?_
  | apply trivial)
   all_goals rfl
 | true=>
   rw[e0] at h86
   refine ah.lit [71] h86 L6 ⟨⟨rfl,rfl,trivial⟩,fq (l:=[n]) rfl rfl rfl rfl,trivial⟩ rfl rfl ?_;with_reducible refine wK ?_
   rw[if_pos rfl]
   obtain⟨hr,hn⟩:aU ⟨l,m⟩=true∧aa l n=true:=by simpa using e0
   have T:=U.dY hr
   simp only at T
   repeat' (first
  |refine gK ?_|refine aE ?_ ?_
  | apply trivial)
   refine bD.use G aq (fun(c:Int)=>[(1,ay c),(2,.ptr 20 0 0)]) (fun c=>[(20,.live 2 [bF ⟨l,m⟩] false)])
    (fun c=>aa l c=true∧qj l c=qj l n) (fun c=>(U.bk l c).length) n ⟨hn,rfl⟩
    (by refine⟨⟨rfl,rfl⟩,⟨rfl,⟨rfl,rfl⟩,trivial⟩,⟨⟨rfl,rfl,trivial⟩,trivial⟩,trivial⟩) ?_
   rintro c ⟨hc,htop⟩
   with_reducible refine wK ?_
   obtain⟨i,y,rfl,hy,hny⟩:=bp.1 hc
   have h:=h87 i y hy
   by_cases e:gb y=-1
   ·rw[e] at h
    rw[Cg T hc (by rw[hny];exact e)] at htop
    repeat' (first
  |refine gK ?_|refine aE ?_ ?_
  |(((with_reducible refine kQ 149 ?_);refine cL h Nf ?_)<;>with_reducible refine wK ?_)
  | apply trivial)
    all_goals exact htop.symm
   ·have hu:=zU T _ hc (by rw[hny];exact e)
    have hst:=zw T hc (by rw[hny];exact e) hu
    have hway:=U.bP T hc (by rw[hny];exact e)
    rw[hny] at hu hst hway
    generalize gb y=u at h e hu hst hway
    (have fct:=(eq_false e);(repeat' (first
  |refine gF ?_|refine aE ?_ ?_
  |(((with_reducible refine kQ 149 ?_);refine cL h Nf ?_)<;>with_reducible refine wK ?_)
  | apply trivial));all_goals clear fct)
    refine aT.mk u ⟨hu,by rw[←hst,htop]⟩ (by rw[hway];simp) ⟨⟨rfl,rfl⟩,⟨rfl,⟨rfl,rfl⟩,trivial⟩,⟨⟨rfl,rfl,trivial⟩,trivial⟩,trivial⟩
def D4 (f:ForM)(n:Int):Bool:=(aU f&&aa f.nodes n)&&decide ((nd f.nodes (qj f.nodes n)).kind=0)
theorem HJ (f:ForM)(hs:bO f.nodes)(n:Int):an Tryz.prog 35 [] [bF f,ay n] [] (aX (D4 f n)):=by
 have h63:=Mk f hs n
 unfold Lt at h63
 unfold D4
 cases e0:(aU f&&aa f.nodes n) with
 | false=>
   rw[e0,if_neg (by simp)] at h63
   obtain⟨l,m⟩:=f
   refine an.aF (rvs:=[.tmp 4]) G aq Tryz.func35 rfl Tryz.ntmps35 rfl rfl ?_;with_reducible refine wD ?_
   repeat' (first
  |refine gK ?_|refine aE ?_ ?_
  |(((with_reducible refine kQ 84 ?_);refine cL h63 Pe ?_)<;>with_reducible refine wK ?_)
  | apply trivial)
   all_goals rfl
 | true=>
   rw[e0,if_pos rfl] at h63
   obtain⟨hr,hn⟩:aU f=true∧aa f.nodes n=true:=by simpa using e0
   have ht:=DE (U.dY hr) n hn
   obtain⟨l,m⟩:=f
   simp only at h63 ht ⊢
   generalize qj l n=t at h63 ht ⊢
   obtain⟨i,y,rfl,hy,hny⟩:=bp.1 ht
   rw[hny]
   obtain⟨a1,a2,a3,a4,a5,a6,a7,a8,a9,a10⟩:=y
   refine an.aF (rvs:=[.tmp 4]) G aq Tryz.func35 rfl Tryz.ntmps35 rfl rfl ?_;with_reducible refine wD ?_
   refine cL h63 Pe ?_;with_reducible refine wK ?_
   (have fct:=(show ¬ (i:Int)=-1 by omega);(repeat' (first
  |refine gF ?_|refine aE ?_ ?_
  |(((with_reducible show bn _ _ _ _ _);refine bn.mk i (aR _) rfl (aI hy) ?_)<;>with_reducible refine wK ?_)
  | apply trivial));all_goals clear fct)
   all_goals simp


def qv (f:ForM)(st:List StateM)(d:bw)(cs:List aM):Bool:=((qQ f&&oS d)&&qU cs)&&gB f st d
structure Lv (f:ForM) (st:List StateM) (d:bw) (cs:List aM):Prop where
 hs:bO f.nodes
 hd:nw d
 hc:FN cs
 look:gB f st d=true
 len:st.length=f.nodes.length
 rf:aU f=true
 rd:ig d=true
theorem EH {f:ForM}{st:List StateM}{d:bw}{cs:List aM}(h:qv f st d cs=true):Lv f st d cs:=by
 unfold qv at h
 simp only[bJ] at h
 obtain⟨⟨⟨h1,h2⟩,h3⟩,h4⟩:=h
 have h5:=h4
 unfold gB at h5
 simp only[bJ,bH] at h5
 exact⟨p7 h1,(oQ.1 h2).small,rS h3,h4,h5.1.1,h5.1.2,h5.2⟩
theorem L3 (f:ForM)(st:List StateM)(d:bw)(cs:List aM):an Tryz.prog 52 [] [bF f,eP st,gN d,dN cs] [] (aX (qv f st d cs)):=by
  have h16:=Md f
  have h108:=Jr d
  have h109:=Js cs
  have hst:=(show(st.map eR).length=st.length from bM ..)
  have hlm:=(show(f.nodes.map cj).length=f.nodes.length from bM ..)
  unfold qv
  cases e1:qQ f with
  | false=>
    rw[e1] at h16
    obtain⟨l,m⟩:=f
    obtain⟨d1,d2,d3,d4⟩:=d
    refine an.aF (rvs:=[.tmp 8]) G aq Tryz.func52 rfl Tryz.ntmps52 rfl rfl ?_;with_reducible refine wD ?_
    repeat' (first
    |refine gK ?_
    |(((with_reducible show ah _ _ 16 _ _ _ _);refine ah.lit [] h16 Kq ⟨⟨rfl,rfl,trivial⟩,trivial⟩ rfl rfl ?_)<;>with_reducible refine wK ?_)
    |((with_reducible show(_∧_)∧_∧_);(refine eK ?_ ?_<;>with_reducible repeat' (first|exact trivial|(show _∧_;refine aK ?_ ?_)))))
    all_goals rfl
  | true =>
    rw[e1] at h16
    have h17:=ng f (p7 e1)
    cases e2:oS d with
    | false=>
      rw[e2] at h108
      obtain⟨l,m⟩:=f
      obtain⟨d1,d2,d3,d4⟩:=d
      refine an.aF (rvs:=[.tmp 8]) G aq Tryz.func52 rfl Tryz.ntmps52 rfl rfl ?_;with_reducible refine wD ?_
      repeat' (first
    |refine gK ?_
    | ((first
      |((with_reducible show ah _ _ 16 _ _ _ _);refine ah.lit [] h16 Kq ⟨⟨rfl,rfl,trivial⟩,trivial⟩ rfl rfl ?_)
      |((with_reducible show ah _ _ 108 _ _ _ _);refine ah.lit [] h108 EK ⟨⟨rfl,rfl,rfl,rfl,trivial⟩,trivial⟩ rfl rfl ?_))<;>with_reducible refine wK ?_)
    | ((with_reducible show(_∧_)∧_∧_);(refine eK ?_ ?_<;>with_reducible repeat' (first|exact trivial|(show _∧_;refine aK ?_ ?_)))))
      all_goals rfl
    | true=>
      rw[e2] at h108
      have h110:=CR d (oQ.1 e2).small
      cases e3:qU cs with
      | false=>
        rw[e3] at h109
        obtain⟨l,m⟩:=f
        obtain⟨d1,d2,d3,d4⟩:=d
        refine an.aF (rvs:=[.tmp 8]) G aq Tryz.func52 rfl Tryz.ntmps52 rfl rfl ?_;with_reducible refine wD ?_
        repeat' (first
    |refine gK ?_
    | ((first
      |((with_reducible show ah _ _ 16 _ _ _ _);refine ah.lit [] h16 Kq ⟨⟨rfl,rfl,trivial⟩,trivial⟩ rfl rfl ?_)
      |((with_reducible show ah _ _ 108 _ _ _ _);refine ah.lit [] h108 EK ⟨⟨rfl,rfl,rfl,rfl,trivial⟩,trivial⟩ rfl rfl ?_)
      |((with_reducible show ah _ _ 109 _ _ _ _);refine ah.lit [] h109 F7 ⟨rfl,trivial⟩ rfl rfl ?_))<;>with_reducible refine wK ?_)
    | ((with_reducible show(_∧_)∧_∧_);(refine eK ?_ ?_<;>with_reducible repeat' (first|exact trivial|(show _∧_;refine aK ?_ ?_)))))
        all_goals rfl
      | true=>
        rw[e3] at h109
        unfold gB
        obtain⟨l,m⟩:=f
        obtain⟨d1,d2,d3,d4⟩:=d
        simp only at h17 h110 hlm ⊢
        refine an.aF (rvs:=[.tmp 8]) G aq Tryz.func52 rfl Tryz.ntmps52 rfl rfl ?_;with_reducible refine wD ?_
        by_cases g1:st.length=l.length
        · rw[dB g1]
          cases g2:aU ⟨l,m⟩<;>rw[g2] at h17
          · (have fct:=And.intro hst (And.intro hlm (g1));(repeat' (first
    |refine gF ?_
    | ((first
      |((with_reducible show ah _ _ 16 _ _ _ _);refine ah.lit [] h16 Kq ⟨⟨rfl,rfl,trivial⟩,trivial⟩ rfl rfl ?_)
      |((with_reducible show ah _ _ 108 _ _ _ _);refine ah.lit [] h108 EK ⟨⟨rfl,rfl,rfl,rfl,trivial⟩,trivial⟩ rfl rfl ?_)
      |((with_reducible show ah _ _ 109 _ _ _ _);refine ah.lit [] h109 F7 ⟨rfl,trivial⟩ rfl rfl ?_)
      |((with_reducible show ah _ _ 17 _ _ _ _);refine ah.lit [] h17 yg ⟨⟨rfl,rfl,trivial⟩,trivial⟩ rfl rfl ?_))<;>with_reducible refine wK ?_)
    |((with_reducible show(_∧_)∧_∧_);(refine eK ?_ ?_<;>with_reducible repeat' (first|exact trivial|(show _∧_;refine aK ?_ ?_))))));all_goals clear fct)
            all_goals rfl
          · cases g3:ig ⟨d1,d2,d3,d4⟩<;>rw[g3] at h110
            · (have fct:=And.intro hst (And.intro hlm (g1));(repeat' (first
    |refine gF ?_
    | ((first
      |((with_reducible show ah _ _ 16 _ _ _ _);refine ah.lit [] h16 Kq ⟨⟨rfl,rfl,trivial⟩,trivial⟩ rfl rfl ?_)
      |((with_reducible show ah _ _ 108 _ _ _ _);refine ah.lit [] h108 EK ⟨⟨rfl,rfl,rfl,rfl,trivial⟩,trivial⟩ rfl rfl ?_)
      |((with_reducible show ah _ _ 109 _ _ _ _);refine ah.lit [] h109 F7 ⟨rfl,trivial⟩ rfl rfl ?_)
      |((with_reducible show ah _ _ 17 _ _ _ _);refine ah.lit [] h17 yg ⟨⟨rfl,rfl,trivial⟩,trivial⟩ rfl rfl ?_)
      |((with_reducible show ah _ _ 110 _ _ _ _);refine ah.lit [] h110 Ly ⟨⟨rfl,rfl,rfl,rfl,trivial⟩,trivial⟩ rfl rfl ?_))<;>with_reducible refine wK ?_)
    |((with_reducible show(_∧_)∧_∧_);(refine eK ?_ ?_<;>with_reducible repeat' (first|exact trivial|(show _∧_;refine aK ?_ ?_))))));all_goals clear fct)
              all_goals rfl
            · (have fct:=And.intro hst (And.intro hlm (g1));(repeat' (first
    |refine gF ?_
    | ((first
      |((with_reducible show ah _ _ 16 _ _ _ _);refine ah.lit [] h16 Kq ⟨⟨rfl,rfl,trivial⟩,trivial⟩ rfl rfl ?_)
      |((with_reducible show ah _ _ 108 _ _ _ _);refine ah.lit [] h108 EK ⟨⟨rfl,rfl,rfl,rfl,trivial⟩,trivial⟩ rfl rfl ?_)
      |((with_reducible show ah _ _ 109 _ _ _ _);refine ah.lit [] h109 F7 ⟨rfl,trivial⟩ rfl rfl ?_)
      |((with_reducible show ah _ _ 17 _ _ _ _);refine ah.lit [] h17 yg ⟨⟨rfl,rfl,trivial⟩,trivial⟩ rfl rfl ?_)
      |((with_reducible show ah _ _ 110 _ _ _ _);refine ah.lit [] h110 Ly ⟨⟨rfl,rfl,rfl,rfl,trivial⟩,trivial⟩ rfl rfl ?_))<;>with_reducible refine wK ?_)
    | ((with_reducible show(_∧_)∧_∧_);(refine eK ?_ ?_<;>with_reducible repeat' (first|exact trivial|(show _∧_;refine aK ?_ ?_))))));all_goals clear fct)
              all_goals rfl
        · rw[dQ g1]
          (have fct:=And.intro hst (And.intro hlm ((eq_false g1)));(repeat' (first
    |refine gF ?_
    | ((first
      |((with_reducible show ah _ _ 16 _ _ _ _);refine ah.lit [] h16 Kq ⟨⟨rfl,rfl,trivial⟩,trivial⟩ rfl rfl ?_)
      |((with_reducible show ah _ _ 108 _ _ _ _);refine ah.lit [] h108 EK ⟨⟨rfl,rfl,rfl,rfl,trivial⟩,trivial⟩ rfl rfl ?_)
      |((with_reducible show ah _ _ 109 _ _ _ _);refine ah.lit [] h109 F7 ⟨rfl,trivial⟩ rfl rfl ?_))<;>with_reducible refine wK ?_)
    |((with_reducible show(_∧_)∧_∧_);(refine eK ?_ ?_<;>with_reducible repeat' (first|exact trivial|(show _∧_;refine aK ?_ ?_))))));all_goals clear fct)
          all_goals rfl
end Go.Proofs.Heir
