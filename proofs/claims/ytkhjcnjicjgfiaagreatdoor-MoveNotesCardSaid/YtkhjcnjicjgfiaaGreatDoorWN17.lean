/- Models, plain laws and contracts of functions of the given program; conditions as stated in each theorem. By an AI agent. -/
import Derived.Test.YtkhjcnjicjgfiaaGreatDoorWN16
import Derived.Deep.RegionLaw
import Derived.Lib.SliceRun
import Derived.Laws.Tables
import Derived.Laws.CopyRow
import Derived.Sort.WalkB12
import Derived.Test.YtkhjcnjicjgfiaaGreatDoorWN12
import Derived.Laws.StructEq
import Derived.Tactics
import Derived.Test.YtkhjcnjicjgfiaaGreatDoorWN15
set_option linter.unusedSimpArgs false
set_option linter.unusedVariables false
namespace Go.Proofs.Heir
open Go.Am Go.RowKit Go.Lib
set_option maxRecDepth 100000
set_option maxHeartbeats 8000000
theorem fj (b:Nat)(e:TypeId)(fz:Nat×Nat):∀ (vs:List Value) (o:Nat) (C:Array Value) (w:World),w.heap[b]? =some (.cells C e fz)→o+vs.length≤C.size→
    ∃C',w.setCells b o vs=w.setRow b C'∧C'.size=C.size∧∀q,C'[q]? =if o≤q∧q<o+vs.length then vs[q-o]? else C[q]?
  |[],o,C,w,h,_=>⟨C,(setRow_self w b C e fz h).symm,rfl,fun q=>by rw[if_neg (by simp only[List.length_nil];omega)]⟩
  | v ::r,o,C,w,h,hl=>by
    have h1:w.setCell ⟨b,o,none⟩ v=w.setRow b (C.setIfInBounds o v):=by
      have hb:=(Array.getElem?_eq_some_iff.1 h)
      unfold World.setCell World.setRow
      congr 1
      apply Array.ext_getElem?
      intro k
      rw[Array.getElem?_modify,Array.getElem?_modify]
      by_cases hk:b=k
      ·subst hk;simp[h]
      ·simp[hk]
    have h2:=setRow_heap w b C (C.setIfInBounds o v) e fz h
    obtain⟨C',k1,k2,k3⟩:=fj b e fz r (o+1) (C.setIfInBounds o v) (w.setRow b (C.setIfInBounds o v)) h2 (by simp at hl ⊢;omega)
    refine⟨C',by rw[World.setCells,h1,k1,setRow_setRow],by simp[k2],fun q=>?_⟩
    rw[k3 q,Array.getElem?_setIfInBounds]
    simp only[List.length_cons] at hl ⊢
    by_cases hq:q=o
    · subst hq
      rw[if_neg (by omega),if_pos rfl,if_pos (by omega),if_pos (by omega),Nat.sub_self];rfl
    · by_cases hq2:o+1≤q∧q<o+1+r.length
      ·rw[if_pos hq2,if_pos (by omega),show q-o=(q- (o+1))+1 from by omega,List.getElem?_cons_succ]
      ·rw[if_neg hq2,if_neg (fun h=>hq h.symm),if_neg (by omega)]
theorem zZ (w:World)(ty:TypeId)(b o n c:Nat)(e:TypeId)(C:Array Value)(h:w.heap[b]? =some (.cells C e (0,0)))(hn:0<n)(hl:o+n*2≤C.size):
    ∃C',(Builtin.clear_ #[32] ty #[.slice (some ⟨b,o,none⟩) n c]).run Tryz.prog w=.ok (.tuple #[]) (w.setRow b C')∧C'.size=C.size∧∀q,q<o→C'[q]? =C[q]? :=by
  obtain⟨Z,hZ⟩:∃Z:List Value,(Builtin.zeroCells (Value.agg #[.string ⟨#[]⟩,.string ⟨#[]⟩]).cells n).toList=Z:=⟨_,rfl⟩
  have hsz:Z.length=n*2:=by
    rw[←hZ,Array.length_toList,size_zeroCells];rfl
  have hone:∀v∈Z,v.oneCell'=true:=by
    intro v hv
    rw[←hZ,Array.mem_toList_iff,Builtin.zeroCells,Array.mem_map] at hv
    obtain⟨i,_,rfl⟩:=hv
    show(#[Value.string ⟨#[]⟩,.string ⟨#[]⟩][i%2]!).oneCell'=true
    rcases Nat.mod_two_eq_zero_or_one i with h|h<;>rw[h]<;>rfl
  have hst:=run_storeCells_at (P:=Tryz.prog) b o e Z 0 C w h (by rw[hsz];omega) hone
  rw[Nat.add_zero] at hst
  refine⟨(C.toList.take o++Z++C.toList.drop (o+Z.length)).toArray,?_,?_,?_⟩
  · obtain⟨m,rfl⟩:∃m,n=m+1:=⟨n-1,by omega⟩
    have hu:=Tryz.underlying32
    have hz:=Tryz.zeroValue90
    simp[Builtin.clear_,run_underlying hu,hz,hZ,hst]
  ·simp[hsz];omega
  · intro q hq
    simp only[List.getElem?_toArray]
    rw[List.append_assoc,List.getElem?_append_left (by simp;omega),List.getElem?_take,if_pos hq,Array.getElem?_toList]
theorem Af (blk off cap n i j:Nat)(C:Array Value)(e:TypeId)(w:World)(hC:w.heap[blk]? =some (.cells C e (0,0)))(hfit:off+cap*2≤C.size)(hn:n≤cap)(hij:i<j)(hj:j≤n)
    (hone:∀q v,q<n*2→C[off+q]? =some v→v.oneCell'=true):
    Calls Tryz.prog 134 #[.slice (some ⟨blk,off,none⟩) n cap,.int .i64 i,.int .i64 j] w fun e' w'=>e'=.returned (.slice (some ⟨blk,off,none⟩) (i+ (n-j)) cap)∧
      ∃C',w'=w.drew.setRow blk C'∧C'.size=C.size∧∀q,q< (i+ (n-j))*2→C'[off+q]? =if q<i*2 then C[off+q]? else C[off+q+ (j-i)*2]? :=by
  obtain⟨news,hnews⟩:∃news,news=(C.toList.drop (off+j*2)).take ((n-j)*2):=⟨_,rfl⟩
  have hCl:C.toList.length=C.size:=Array.length_toList
  have hlen:news.length=(n-j)*2:=by rw[hnews,gh,List.length_drop,hCl];omega
  have hget:∀t,t< (n-j)*2→news[t]? =C[off+j*2+t]? :=by
    intro t ht
    rw[hnews,List.getElem?_take,if_pos ht,List.getElem?_drop,Array.getElem?_toList]
  have hcell:∀q,w.drew.cell? ⟨blk,q,none⟩=C[q]? :=fun q=>by
    show w.cell? _=_
    simp[World.cell?,hC]
  obtain ⟨A,hA,hsrc⟩:∃A:Addr,(if cap=j then some (⟨blk,off,none⟩:Addr) else some ⟨blk,off+j*2,none⟩)=some A∧Hid (∀t u,news[t]? =some u→w.drew.cell? (A.add t)=some u):=by
    by_cases h:cap=j
    · refine⟨⟨blk,off,none⟩,by simp[h],fun t u hu=>?_⟩
      have h0:news.length=0:=by rw[hlen];omega
      rw[List.length_eq_zero_iff.1 h0] at hu
      simp at hu
    · refine⟨⟨blk,off+j*2,none⟩,by simp[h],fun t u hu=>?_⟩
      have ht:t< (n-j)*2:=by
        have:=(aY hu).1
        rwa [hlen] at this
      rw[hget t ht] at hu
      rw[Addr.add_lit,hcell]
      exact hu
  have s1:Hid (news.length=(n-j)*2):=hlen
  have s2:Hid (∀u∈news,u.oneCell'=true):=by
    intro u hu
    obtain⟨t,ht⟩:=List.getElem?_of_mem hu
    have hlt:=(aY ht).1
    rw[hlen] at hlt
    rw[hget t hlt,Nat.add_assoc] at ht
    exact hone _ u (by omega) ht
  have s3:Hid (∀t,t<news.length→(w.drew.cell? ⟨blk,off+i*2+t,none⟩).isSome=true∧w.drew.frozen? ⟨blk,off+i*2+t,none⟩=false):=by
    intro t ht
    rw[hlen] at ht
    refine⟨?_,?_⟩
    ·rw[hcell,Array.getElem?_eq_getElem (by omega)];rfl
    · show w.frozen? _=false
      simp[World.frozen?,hC]
  obtain⟨C1,hC1,hC1s,hC1q⟩:=fj blk e (0,0) news (off+i*2) C w.drew hC (by rw[hlen];omega)
  obtain⟨W1,hW1⟩:∃W1,W1=w.drew.setCells blk (off+i*2) news:=⟨_,rfl⟩
  have hW1h:W1.heap[blk]? =some (.cells C1 e (0,0)):=by rw[hW1,hC1];exact setRow_heap w.drew blk C C1 e (0,0) hC
  obtain⟨C2,hcl0,hC2s,hC2q⟩:=zZ W1 0 blk (off+ (i+ (n-j))*2) (n- (i+ (n-j))) (cap- (i+ (n-j))) e C1 hW1h (by omega) (by omega)
  have hcl:∀ty,(Builtin.clear_ #[32] ty #[.slice (some ⟨blk,off+ (i+ (n-j))*2,none⟩) (n- (i+ (n-j))) (cap- (i+ (n-j)))]).run Tryz.prog W1=.ok (.tuple #[]) (W1.setRow blk C2):=fun ty=>hcl0
  have hW:Hid (W1=w.drew.setCells blk (off+i*2) news):=hW1
  have hfin:Hid (W1.setRow blk C2=w.drew.setRow blk C2∧C2.size=C.size∧∀q,q< (i+ (n-j))*2→C2[off+q]? =if q<i*2 then C[off+q]? else C[off+q+ (j-i)*2]?):=by
    refine⟨by rw[hW1,hC1,setRow_setRow],by omega,fun q hq=>?_⟩
    rw[hC2q _ (by omega),hC1q,hlen]
    by_cases h:q<i*2
    ·rw[if_pos h,if_neg (by omega)]
    · rw[if_neg h,if_pos (by omega),hget _ (by omega)]
      congr 1;omega
  have hic:i≤cap:=by omega
  have hjc:j≤cap:=by omega
  obtain⟨i0,hi0,hz1⟩:∃i0,Tryz.prog.info? 90=some i0∧i0.size=2:=⟨(Tryz.prog.info? 90).getD default,by kernel_rfl,by kernel_rfl⟩
  clear hW1 hW1h hC1 hC1s hC1q hC2s hC2q hcl0 hget hcell hnews hlen hone hC hCl
  have mixed:Tryz.prog.follows Departure.mixedOrders=true:=by kernel_rfl
  go_enter Tryz.func134,Tryz.ntmps134
  go_wp2_with fail
  go_region_law_o (refine step_append_room rfl (.tmp 22) (.tmp 25) 32 rfl 90 i0 2 Tryz.underlying32 hi0 hz1 blk off i cap (by simp[Act.eval,Act.put]) A (n-j) (cap-j) news (by simp[Act.eval,Act.put]) s1.out hsrc.out s2.out (by omega) s3.out ?_;rw[←hW.out])
  go_wp2
  go_ret
  exact⟨rfl,C2,hfin.out⟩
theorem C3 {rows:List AV}(hone:kP (flat rows)=true)(i j:Nat)(hij:i<j)(hj:j≤rows.length):
    ak Tryz.prog 134 [.live 2 rows false] [.own 0 0 rows.length,ah i,ah j] [.dead,.live 2 (rows.take i++rows.drop j) false] (.own 1 0 (i+ (rows.length-j))):=by
  intro w W0 L vs hL hs hr
  obtain⟨v0,v1,v2,rfl⟩:∃v0 v1 v2,vs=[v0,v1,v2]:=by
    have:=hr.1
    match vs,this with
    |[a,b,c],_=>exact⟨a,b,c,rfl⟩
  have h1:=hr.2 1 _ v1 rfl rfl
  have h2:=hr.2 2 _ v2 rfl rfl
  cases h1;cases h2
  have h0:=hr.2 0 _ v0 rfl rfl
  obtain⟨B,hB,hobj⟩:=hs.objs 0 2 rows false rfl
  generalize hn:rows.length=n at h0
  cases h0 with
  |ownNil a1=>omega
  | @own _ _ _ cap e' n' B' a1 av ap a2 a3 a4=>
    rw[hB] at a1;cases a1
    subst hn
    obtain⟨C,e,fz,c1,c2,c3⟩:=hobj.blk av ap
    rw[c2 rfl] at c1
    have hwd:=hobj.width
    have hn':C.size=n':=by simp[World.shape?,c1] at a3;exact a3.2
    rw[hwd,Nat.zero_mul,Nat.add_zero]
    rw[hwd,Nat.zero_add] at a4
    have hfl:=cM hobj.wide
    have hcell:∀ (q:Nat) (c:AV),(flat rows)[q]? =some c→∃v,C[B.o+q]? =some v∧cE (Wr W0 L (aG [.live 2 rows false])) L w c v:=fun q c hq=>by
      obtain⟨v,k1,k2⟩:=hobj.cell ap q c hq
      exact⟨v,by simpa[World.cell?,c1] using k1,k2⟩
    refine(Af B.b B.o cap rows.length i j C e w c1 (by omega) a2 hij hj (fun q v hq hv=>?_)).mono ?_
    · obtain⟨v',k1,k2⟩:=hcell q _ (bD (by rw[hfl];omega))
      rw[hv] at k1;cases k1
      exact k2.one (List.all_eq_true.1 hone _ (List.getElem_mem _))
    · rintro e2 w' ⟨rfl,C',rfl,hsz,hq⟩
      have hwide:bG 2 (rows.take i++rows.drop j):=(hobj.wide.sub fun r hr=>List.mem_of_mem_take hr).append (hobj.wide.sub fun r hr=>List.mem_of_mem_drop hr)
      have hlen:(rows.take i++rows.drop j).length=i+ (rows.length-j):=by simp;omega
      have hre:=(hs.drawn (w.drawn+1)).reuse (t:=0) (tn:=1) (off:=0) (rows':=rows.take i++rows.drop j) (C':=C') rfl hB av rfl c1 hsz hwide (by rw[hlen];omega) (fun q c hc=>by
        rw[gM,kV hobj.wide,lz hobj.wide,List.getElem?_append,gh,hfl,Nat.min_eq_left (by omega)] at hc
        have hlt:=hq q
        rw[Nat.zero_mul,Nat.add_zero]
        split at hc
        · rename_i hql
          rw[List.getElem?_take,if_pos hql] at hc
          obtain⟨v,k1,k2⟩:=hcell q c hc
          exact⟨v,by rw[hq q (by omega),if_pos hql];exact k1,k2.grow (Grow.drawn _)⟩
        · rename_i hql
          rw[List.getElem?_drop] at hc
          have hin:=(aY hc).1
          rw[hfl] at hin
          obtain⟨v,k1,k2⟩:=hcell _ c hc
          refine⟨v,?_,k2.grow (Grow.drawn _)⟩
          rw[hq q (by omega),if_neg hql,←k1]
          congr 1;omega)
      have hst:(⟨(bare [.live 2 rows false]).slots,bk (bare [.live 2 rows false]).mem [(1,.live 2 (rows.take i++rows.drop j) false),(0,.dead)]⟩:az)=bare [.dead,.live 2 (rows.take i++rows.drop j) false]:=by
        unfold bare
        congr 1
        funext t
        match t with
        |0=>rfl
        |1=>rfl
        |t+2=>simp[bk,aG]
      rw[hst] at hre
      refine⟨_,_,rfl,hre,?_⟩
      have:=cE.own (W:=Wr W0 (bq L 1 ⟨B.b,B.o+0*2,2,false,false⟩) (aG [.dead,.live 2 (rows.take i++rows.drop j) false])) (μ:=bq L 1 ⟨B.b,B.o+0*2,2,false,false⟩)
        (w:=w.drew.setRow B.b C') (t:=1) (off:=0) (len:=i+ (rows.length-j)) (cap:=cap) (e:=e) (n:=C.size) (B:=⟨B.b,B.o+0*2,2,false,false⟩) (by simp[bq]) rfl rfl (by omega)
        (by simp[World.shape?,setRow_heap w.drew B.b C C' e (0,0) c1,hsz]) (by simp only[Nat.zero_add];omega)
      simpa using this
end Go.Proofs.Heir
namespace Go.Proofs.Heir
open Go.Am Go.RowKit Go.Lib
set_option maxRecDepth 100000
theorem Gh (l:List AttrM)(hl:l.length≤100000)(n v:ByteArray):ak Tryz.prog 59 [] [cJ l,bS n,bS v] [] (.tup [cJ (dS l n v).1,ah (dS l n v).2]):=by
  have hlm:(l.map cV).length=l.length:=bW ..
  refine ak.aD (rvs:=[.tmp 6,.tmp 7]) G au Tryz.func59 rfl Tryz.ntmps59 rfl rfl ?_;with_reducible refine wD ?_
  refine af.lit [] (zU l hl n) LU ⟨rfl,rfl,trivial⟩ rfl rfl ?_;with_reducible refine wK ?_
  refine af.new 201 [] (BQ l hl) Jn ⟨rfl,trivial⟩ rfl rfl rfl (uf l) rfl ?_;with_reducible refine wK ?_
  refine aX.mk (fun h1=>?_) (fun h1=>?_)<;>(try simp only[ay] at h1)<;>with_reducible refine wK ?_
  · have e:dS l n v=(l,nq l n):=by unfold dS;rw[if_neg (by simpa using h1)]
    rw[e]
    (refine eK ?_ ?_<;>with_reducible repeat' (first|exact trivial|(show _∧_;refine aK ?_ ?_)))
    exact gE rfl rfl rfl rfl
  · have h1':nq l n=0:=by simpa using h1
    obtain⟨hr,hn,hs⟩:=lK h1'
    refine aX.mk (fun h2=>?_) (fun h2=>?_)<;>(try simp only[ay] at h2)<;>with_reducible refine wK ?_
    · have e:dS l n v=(l,3):=by unfold dS;rw[if_pos h1',if_neg (by simp only[bH] at h2;omega)]
      rw[e]
      (refine eK ?_ ?_<;>with_reducible repeat' (first|exact trivial|(show _∧_;refine aK ?_ ?_)))
      exact gE rfl rfl rfl rfl
    · have hv:v.size≤200:=by simp only[cR] at h2;omega
      rcases kz l n with h|⟨k,a,h,ha,hnm⟩
      · simp only[h]
        refine aX.no rfl ?_;with_reducible refine wK ?_
        refine aX.mk (fun h3=>?_) (fun h3=>?_)<;>(try simp only[ay] at h3)<;>with_reducible refine wK ?_
        · have e:dS l n v=(l,3):=by unfold dS;rw[if_pos h1',if_pos hv,h,if_neg (by decide),if_pos (by simp only[bH] at h3;omega)]
          rw[e]
          (refine eK ?_ ?_<;>with_reducible repeat' (first|exact trivial|(show _∧_;refine aK ?_ ?_)))
          exact gE rfl rfl rfl rfl
        · have e:dS l n v=(l++ [⟨dy n,v⟩],0):=by unfold dS;rw[if_pos h1',if_pos hv,h,if_neg (by decide),if_neg (by simp only[cR] at h3;omega)]
          rw[e]
          simp only[hs]
          refine iT.mk (l.map cV) [iI ⟨dy n,v⟩] ⟨rfl,hlm.symm,rfl⟩ ⟨rfl,rfl,rfl⟩ rfl (by simp;omega) (by simp;omega) ?_;with_reducible refine wK ?_
          (refine eK ?_ ?_<;>with_reducible repeat' (first|exact trivial|(show _∧_;refine aK ?_ ?_)))
          exact gE rfl rfl (AA l _ v) (by simp)
      · simp only[h]
        refine aX.yes (dJ (by(try simp only[ay]);omega)) ?_;with_reducible refine wK ?_
        have hk:=(aY ha).1
        have e:dS l n v=(l.set k ⟨dy n,v⟩,0):=by unfold dS;rw[if_pos h1',if_pos hv,h,if_pos (by omega),Int.toNat_natCast]
        rw[e]
        refine ee.mk k rfl hk ?_;with_reducible refine wK ?_
        obtain⟨an,av⟩:=a
        refine aT.mk (iI ⟨an,av⟩) (by rw[Nat.zero_add];exact iN ha) ?_;with_reducible refine wK ?_
        (refine eK ?_ ?_<;>with_reducible repeat' (first|exact trivial|(show _∧_;refine aK ?_ ?_)))
        simp only at hnm
        subst hnm
        exact gE rfl rfl (by rw[Nat.zero_add];exact Dw l k _ v) (by simp)
end Go.Proofs.Heir
namespace Go.Proofs.Heir
open Go.Am Go.RowKit Go.Lib
set_option maxRecDepth 100000
set_option maxHeartbeats 8000000
def pX (l:List AttrM)(k:Nat):List AttrM:=l.take k++l.drop (k+1)
def cz (l:List AttrM)(n:ByteArray):List AttrM×Bool:=if 0≤bV l n then(pX l (bV l n).toNat,true) else(l,false)
theorem we (l:List AttrM)(k:Nat):(l.map cV).take k++ (l.map cV).drop (k+1)=(pX l k).map cV:=by rw[pX,iq,List.map_take,List.map_drop]
theorem zB {l:List AttrM}{k:Nat}(hk:k<l.length):(pX l k).length=k+ (l.length- (k+1)):=by simp[pX];omega
theorem AP (l:List AttrM)(hl:l.length≤100000)(n:ByteArray):ak Tryz.prog 68 [] [cJ l,bS n] [] (.tup [cJ (cz l n).1,bC (cz l n).2]):=by
  have hlm:(l.map cV).length=l.length:=bW ..
  refine ak.aD (rvs:=[.tmp 4,.tmp 5]) G au Tryz.func68 rfl Tryz.ntmps68 rfl rfl ?_;with_reducible refine wD ?_
  refine af.lit [] (zU l hl n) LU ⟨rfl,rfl,trivial⟩ rfl rfl ?_;with_reducible refine wK ?_
  refine af.new 181 [] (BQ l hl) Jn ⟨rfl,trivial⟩ rfl rfl rfl (uf l) rfl ?_;with_reducible refine wK ?_
  rcases kz l n with h|⟨k,a,h,ha,hnm⟩
  · simp only[h]
    refine aX.yes rfl ?_;with_reducible refine wK ?_
    have e:cz l n=(l,false):=by unfold cz;rw[h,if_neg (by decide)]
    rw[e]
    (refine eK ?_ ?_<;>with_reducible repeat' (first|exact trivial|(show _∧_;refine aK ?_ ?_)))
    exact gE rfl rfl rfl rfl
  · simp only[h]
    have hk:=(aY ha).1
    refine aX.no (dx (by(try simp only[ay]);omega)) ?_;with_reducible refine wK ?_
    have e:cz l n=(pX l k,true):=by unfold cz;rw[h,if_pos (by omega),Int.toNat_natCast]
    rw[e]
    refine nK ?_;with_reducible refine wK ?_
    refine af.c7 (news:=[.dead,.live 2 ((pX l k).map cV) false]) [181,261] [] (C3 (rows:=l.map cV) (vC l) k (k+1) (by omega) (by omega)) LJ ⟨⟨rfl,hlm⟩,rfl,by show((k+1:Nat):Int)=(k:Int)+1;omega,trivial⟩ ⟨⟨rfl,.inl ⟨rfl,fW l⟩⟩,trivial⟩ rfl ⟨⟨rfl,rfl⟩,rfl⟩ rfl
      ⟨⟨rfl,.inl ⟨(we l k).symm,by rw[we];exact fW _⟩⟩,trivial⟩ rfl rfl ?_;with_reducible refine wK ?_
    (refine eK ?_ ?_<;>with_reducible repeat' (first|exact trivial|(show _∧_;refine aK ?_ ?_)))
    exact gE rfl rfl rfl (by rw[zB hk,hlm])
end Go.Proofs.Heir
namespace Go.Proofs.Heir
open Go.Am Go.RowKit Go.Lib
set_option maxRecDepth 100000

end Go.Proofs.Heir
namespace Go.Proofs.Heir
open Go.Am Go.RowKit Go.Lib
set_option maxRecDepth 100000
set_option maxHeartbeats 8000000
def xj (a b:AttrM):Bool:=(a.name.toList==b.name.toList)&&(a.value.toList==b.value.toList)
theorem attr_eq (a b:AttrM)(w:World):(Op.equalIn 10000 90 (.agg #[.string a.name,.string a.value]) (.agg #[.string b.name,.string b.value])).run Tryz.prog w=.ok (xj a b) w:=by
  have hS:Tryz.prog.underlying 90=some (.struct (Tryz.prog.fieldsOf 90)):=by kernel_rfl
  have hp:Tryz.prog.stoodInHeld 90=false:=by kernel_rfl
  have u9:=Tryz.underlying9
  have a9:=Tryz.isAgg9
  have z9:=Tryz.sizeOf9
  rw[show(10000:Nat)=9999+1 from rfl,run_equalIn_agg w 9999 90 _ _ hS hp]
  clear hS hp
  simp only[Program.fieldsOf,Tryz.underlying90]
  go_simp
  clear u9 a9 z9
  unfold xj
  by_cases h1:a.name.toList=b.name.toList<;>by_cases h2:a.value.toList=b.value.toList<;>simp[h1,h2]
theorem bytes_inj {a b:ByteArray}(h:a.toList=b.toList):a=b:=by
  rw[ByteArray.toList_eq,ByteArray.toList_eq] at h
  cases a;cases b
  simp only[ByteArray.mk.injEq]
  exact Array.toList_inj.1 h
theorem AT (a b:AttrM):xj a b=decide (a=b):=by
  rw[Bool.eq_iff_iff,bH]
  unfold xj
  simp only[bN,beq_iff_eq]
  constructor
  · rintro⟨h1,h2⟩
    cases a;cases b
    simp only at*
    rw[bytes_inj h1,bytes_inj h2]
  ·rintro rfl;simp
theorem Eb (a b:AttrM)(y z:Operand)(w:World):((do eqGuard .neq 90 y z (.agg #[.string a.name,.string a.value]) (.agg #[.string b.name,.string b.value]);binOp .neq 90 (.agg #[.string a.name,.string a.value]) (.agg #[.string b.name,.string b.value]):Sem Value)).run Tryz.prog w=.ok (.bool (!decide (a=b))) w:=by
  rw[Sem.run_bind,run_eqGuard_agg w .neq 90 y z _ _ (by kernel_rfl),Result.andThen_ok,run_neq_struct,attr_eq,AT];rfl
theorem HP (x y:List AttrM)(hx:x.length≤100000):ak Tryz.prog 146 [] [cJ x,cJ y] [] (bC (decide (x=y))):=by
  have hlx:(x.map cV).length=x.length:=bW ..
  have hly:(y.map cV).length=y.length:=bW ..
  refine ak.aD (rvs:=[.tmp 4]) G au Tryz.func146 rfl Tryz.ntmps146 rfl rfl ?_;with_reducible refine wD ?_
  refine aX.mk (fun h0=>?_) (fun h0=>?_)<;>(try simp only[ay] at h0)<;>with_reducible refine wK ?_
  · (refine eK ?_ ?_<;>with_reducible repeat' (first|exact trivial|(show _∧_;refine aK ?_ ?_)))
    have:x≠y:=by
      rintro rfl
      simp at h0
    exact dx this
  · have hxy:x.length=y.length:=by simp only[hlx,hly,Bool.not_eq_false',bH] at h0;omega
    refine bX.use G au (fun(k:Nat)=>[(0,cJ x),(1,cJ y),(5,ah k)]) (fun _=>[]) (fun k=>k≤x.length∧∀ (j:Nat),j<k→x[j]? =y[j]?) (fun k=>x.length-k) 0 ⟨Nat.zero_le _,fun j h=>by omega⟩
      ⟨⟨rfl,rfl⟩,⟨rfl,rfl,rfl,trivial⟩,trivial⟩ ?_
    rintro k ⟨hk,hok⟩
    with_reducible refine wK ?_
    refine aX.mk (fun h1=>?_) (fun h1=>?_)<;>(try simp only[ay] at h1)<;>with_reducible refine wK ?_
    · simp only[bH] at h1
      have hk':k<x.length:=by omega
      obtain⟨⟨an,av⟩,ha⟩:∃a,x[k]? =some a:=⟨_,bD hk'⟩
      obtain⟨⟨bn,bv⟩,hb⟩:∃a,y[k]? =some a:=⟨_,bD (by omega)⟩
      refine bg.mk k (iI ⟨an,av⟩) rfl (iN ha) ?_;with_reducible refine wK ?_
      refine bg.mk k (iI ⟨bn,bv⟩) rfl (iN hb) ?_;with_reducible refine wK ?_
      refine Iq.mk _ (fun y z w=>Eb ⟨an,av⟩ ⟨bn,bv⟩ y z w) ?_;with_reducible refine wK ?_
      refine dK ?_;with_reducible refine wK ?_
      refine aX.mk (fun h2=>?_) (fun h2=>?_)<;>(try simp only[ay] at h2)<;>with_reducible refine wK ?_
      · (refine eK ?_ ?_<;>with_reducible repeat' (first|exact trivial|(show _∧_;refine aK ?_ ?_)))
        have:x≠y:=by
          rintro rfl
          rw[ha] at hb;cases hb
          simp at h2
        exact dx this
      · have he:(⟨an,av⟩:AttrM)=⟨bn,bv⟩:=by simpa using h2
        refine nK ?_;with_reducible refine wK ?_
        refine bR.mk (k+1) ⟨by omega,fun j hj=>?_⟩ (by omega) ⟨⟨rfl,rfl⟩,⟨rfl,rfl,by show((k+1:Nat):Int)=(k:Int)+1;omega,trivial⟩,trivial⟩
        rcases Nat.lt_or_ge j k with h6|h6
        ·exact hok j h6
        · have:j=k:=by omega
          subst this
          rw[ha,hb,he]
    · (refine eK ?_ ?_<;>with_reducible repeat' (first|exact trivial|(show _∧_;refine aK ?_ ?_)))
      have hk2:k=x.length:=by simp only[hlx,cR] at h1;omega
      refine dJ (List.ext_getElem? fun j=>?_)
      rcases Nat.lt_or_ge j x.length with h6|h6
      ·exact hok j (by omega)
      ·rw[mD h6,mD (by omega)]



end Go.Proofs.Heir
namespace Go.Proofs.Heir
open Go Go.Am Go.RowKit Go.Lib
set_option maxRecDepth 100000
theorem l6 {l:List AttrM}(h:cn l=true):(l.map AttrM.name).Nodup:=by
  unfold cn at h;simp only[bN,bH] at h;exact h.2
theorem uc {l:List AttrM}{n:ByteArray}(h:∀a∈l,a.name≠n):uN l n=-1:=
  jB fun j x hx=>by unfold hasName;exact dx (h x (bO hx))
theorem o5 {l:List AttrM}(hn:(l.map AttrM.name).Nodup){i:Nat}{a:AttrM}(h:l[i]? =some a):uN l a.name=i:=(vT l).1 hn i a h
theorem mF (l:List AttrM)(n:ByteArray):(uN l n=-1∧∀a∈l,a.name≠n)∨∃ (k:Nat) (a:AttrM),uN l n=k∧l[k]? =some a∧a.name=n:=by
  by_cases hx:∃b∈l,b.name=n
  · right
    rcases ur (hasName n) l with h|⟨k,a,h1,h2,h3⟩
    · obtain⟨b,hb,e⟩:=hx
      exfalso
      unfold fU at h
      cases hf:l.findIdx? (hasName n) with
      |some i=>rw[hf] at h;simp only at h;omega
      | none=>
        rw[List.findIdx?_eq_none_iff] at hf
        have:=hf b hb
        unfold hasName at this;simp[e] at this
    ·exact⟨k,a,h1,h2,by unfold hasName at h3;simpa using h3⟩
  · have h:∀a∈l,a.name≠n:=fun a ha e=>hx ⟨a,ha,e⟩
    exact .inl ⟨uc h,h⟩
theorem B3 {n v:ByteArray}(hn:bJ n=true)(hv:v.size≤200):Hu ⟨dy n,v⟩=true:=by
  unfold Hu;simp only[AL,hn,FH,hv,decide_true,Bool.and_self]
theorem qC {l:List AttrM}(h1:l.length≤40)(h2:∀a∈l,Hu a=true)(h3:(l.map AttrM.name).Nodup):cn l=true:=by
  unfold cn
  rw[dJ h1,dJ h3,List.all_eq_true.2 h2];rfl
theorem oV {l:List AttrM}(h:cn l=true):l.length≤40∧(∀a∈l,Hu a=true)∧(l.map AttrM.name).Nodup:=by
  unfold cn at h;simp only[bN,bH,List.all_eq_true] at h;exact⟨h.1.1,h.1.2,h.2⟩
theorem kY {l:List AttrM}(hn:(l.map AttrM.name).Nodup){i j:Nat}{a b:AttrM}(ha:l[i]? =some a)(hb:l[j]? =some b)(e:a.name=b.name):i=j:=by
  have h1:=o5 hn ha
  have h2:=o5 hn hb
  rw[e] at h1;omega
theorem FG {l:List AttrM}(h:∀ (i j:Nat) (a b:AttrM),l[i]? =some a→l[j]? =some b→a.name=b.name→i=j):(l.map AttrM.name).Nodup:=by
  rw[vT]
  intro i a ha
  refine fJ ha (by unfold hasName;simp) fun j x hj hx=>?_
  unfold hasName
  rw[cR]
  intro e
  have:=h j i x a hx ha e
  omega
theorem Ic {l:List AttrM}(hn:(l.map AttrM.name).Nodup){a b:AttrM}(ha:a∈l)(hb:b∈l)(e:a.name=b.name):a=b:=by
  obtain⟨i,hi⟩:=List.getElem?_of_mem ha
  obtain⟨j,hj⟩:=List.getElem?_of_mem hb
  have:=kY hn hi hj e
  subst this;rw[hi] at hj;exact Option.some.inj hj
theorem sG {l:List AttrM}{k:Nat}(hk:k<l.length)(x:AttrM)(i:Nat):(l.set k x)[i]? =if i=k then some x else l[i]? :=by
  by_cases h:i=k
  ·subst h;simp[hk]
  ·rw[if_neg h,List.getElem?_set_ne (by omega)]
theorem rR {l:List AttrM}{k:Nat}{o:AttrM}(hn:(l.map AttrM.name).Nodup)(hk:l[k]? =some o)(v:ByteArray)(a:AttrM):a∈l.set k ⟨o.name,v⟩↔a=⟨o.name,v⟩∨(a∈l∧a.name≠o.name):=by
  have hkl:=(aY hk).1
  constructor
  · intro h
    obtain⟨i,hi⟩:=List.getElem?_of_mem h
    rw[sG hkl] at hi
    split at hi
    ·exact .inl (Option.some.inj hi).symm
    · rename_i hne
      exact .inr ⟨bO hi,fun e=>hne (kY hn hi hk e)⟩
  · rintro(rfl|⟨h1,h2⟩)
    ·exact bO (i:=k) (by rw[sG hkl,if_pos rfl])
    · obtain⟨i,hi⟩:=List.getElem?_of_mem h1
      refine bO (i:=i) ?_
      rw[sG hkl,if_neg,hi]
      rintro rfl
      rw[hi] at hk;cases hk;exact h2 rfl
theorem Dt {l:List AttrM}{k:Nat}{o:AttrM}(hk:l[k]? =some o)(v:ByteArray):(l.set k ⟨o.name,v⟩).map AttrM.name=l.map AttrM.name:=by
  apply List.ext_getElem?
  intro i
  have hkl:=(aY hk).1
  rw[fI,fI,sG hkl]
  split
  ·rename_i h;subst h;rw[hk];rfl
  ·rfl
structure KU (l:List AttrM) (n v:ByteArray) (m:List AttrM):Prop where
  right:cn m=true
  name:bJ n=true
  value:v.size≤200
  mem:∀a,a∈m↔a=⟨dy n,v⟩∨(a∈l∧a.name≠dy n)
theorem A1 {l:List AttrM}{n v:ByteArray}(h:(dS l n v).2=0):cn l=true∧KU l n v (dS l n v).1:=by
  unfold dS at h ⊢
  split at h
  · rename_i hE
    obtain⟨h1,h2,_⟩:=lK hE
    obtain⟨r1,r2,r3⟩:=oV h1
    refine⟨h1,?_⟩
    rw[if_pos hE]
    split at h
    · rename_i hv
      rw[if_pos hv]
      split at h
      · rename_i hP
        rw[if_pos hP]
        rw[jC h1 h2] at hP ⊢
        rcases mF l (dy n) with⟨e,_⟩|⟨k,o,e1,e2,e3⟩
        ·omega
        · rw[e1,Int.toNat_natCast]
          rw[←e3]
          refine⟨qC (by simpa using r1) (fun a ha=>?_) (by rw[Dt e2];exact r3),h2,hv,fun a=>by rw[e3,←e3];exact rR r3 e2 v a⟩
          rcases(rR r3 e2 v a).1 ha with rfl|⟨ha,_⟩
          ·rw[e3];exact B3 h2 hv
          ·exact r2 a ha
      · rename_i hP
        rw[if_neg hP]
        split at h
        ·cases h
        · rename_i hl
          rw[if_neg hl]
          rw[jC h1 h2] at hP
          have hno:∀a∈l,a.name≠dy n:=by
            rcases mF l (dy n) with⟨_,e⟩|⟨k,o,e1,_,_⟩
            ·exact e
            ·omega
          refine⟨qC (by simp;omega) (fun a ha=>?_) ?_,h2,hv,fun a=>?_⟩
          · rcases List.mem_append.1 ha with ha|ha
            ·exact r2 a ha
            ·simp at ha;subst ha;exact B3 h2 hv
          · rw[iq,List.nodup_append]
            refine⟨r3,by simp,fun x hx y hy=>?_⟩
            simp at hy;subst hy
            obtain⟨a,ha,rfl⟩:=List.mem_map.1 hx
            exact hno a ha
          · rw [List.mem_append]
            constructor
            · rintro(h|h)
              ·exact .inr ⟨h,hno a h⟩
              ·simp at h;exact .inl h
            · rintro(h|h)
              ·right;simp[h]
              ·exact .inl h.1
    ·cases h
  ·exact absurd h (by assumption)
theorem Cm {l:List AttrM}{n v:ByteArray}(hr:cn l=true)(hn:bJ n=true)(h:(⟨dy n,v⟩:AttrM)∈l):nX l n=v∧0≤bV l n:=by
  obtain⟨i,hi⟩:=List.getElem?_of_mem h
  have h1:=o5 (l6 hr) hi
  have h1:uN l (dy n)=i:=h1
  unfold nX
  rw[jC hr hn,h1]
  exact⟨by rw[if_pos (by omega),Int.toNat_natCast,hi];rfl,by omega⟩
theorem EX {l:List AttrM}{n:ByteArray}(h:cn l=true→bJ n=true→∀a∈l,a.name≠dy n):nX l n=DS∧¬0≤bV l n:=by
  have : bV l n=-1:=by
    cases hr:cn l with
    |false=>exact uQ (.inl hr)
    | true=>
      cases hn:bJ n with
      |false=>exact uQ (.inr hn)
      | true=>
        rw[jC hr hn]
        exact uc (h hr hn)
  unfold nX
  rw[this]
  exact⟨rfl,by omega⟩
theorem sr (l:List AttrM)(k i:Nat):(pX l k)[i]? =if i<k then l[i]? else l[i+1]? :=by
  unfold pX
  rw[List.getElem?_append,gh,List.getElem?_take,List.getElem?_drop]
  by_cases h:i<k
  · by_cases h2:i<l.length
    ·rw[if_pos (by omega),if_pos h,if_pos h]
    ·rw[if_neg (by omega),if_pos h,mD (by omega),mD (by omega)]
  · rw[if_neg (by omega),if_neg h]
    by_cases h2:k≤l.length
    ·congr 1;omega
    ·rw[mD (by omega),mD (by omega)]
theorem zJ {l:List AttrM}{k:Nat}{o:AttrM}(hn:(l.map AttrM.name).Nodup)(hk:l[k]? =some o)(a:AttrM):a∈pX l k↔a∈l∧a.name≠o.name:=by
  constructor
  · intro h
    obtain⟨i,hi⟩:=List.getElem?_of_mem h
    rw[sr] at hi
    split at hi
    ·exact⟨bO hi,fun e=>by have:=kY hn hi hk e;omega⟩
    ·exact⟨bO hi,fun e=>by have:=kY hn hi hk e;omega⟩
  · rintro⟨h1,h2⟩
    obtain⟨i,hi⟩:=List.getElem?_of_mem h1
    have hik:i≠k:=by rintro rfl;rw[hi] at hk;cases hk;exact h2 rfl
    by_cases h:i<k
    ·exact bO (i:=i) (by rw[sr,if_pos h,hi])
    · obtain⟨j,rfl⟩:∃j,i=j+1:=⟨i-1,by omega⟩
      exact bO (i:=j) (by rw[sr,if_neg (by omega),hi])
theorem CZ {l:List AttrM}{k:Nat}(hn:(l.map AttrM.name).Nodup):((pX l k).map AttrM.name).Nodup:=by
  refine FG fun i j a b ha hb e=>?_
  rw[sr] at ha hb
  split at ha<;>split at hb<;>(have:=kY hn ha hb e;omega)
theorem CL {l:List AttrM}{n:ByteArray}(h:0≤bV l n):cn (cz l n).1=true∧(cz l n).1.length+1=l.length∧∀a,a∈ (cz l n).1↔a∈l∧a.name≠dy n:=by
  obtain⟨hE,_⟩:=Di h
  obtain⟨h1,h2,_⟩:=lK hE
  obtain⟨r1,r2,r3⟩:=oV h1
  unfold cz
  rw[if_pos h]
  rw[jC h1 h2] at h ⊢
  rcases mF l (dy n) with⟨e,_⟩|⟨k,o,e1,e2,e3⟩
  ·omega
  · rw[e1,Int.toNat_natCast]
    have hk:=(aY e2).1
    have hm:=zJ r3 e2
    have hlen:=zB hk
    rw[e3] at hm
    refine⟨qC (by show(pX l k).length≤40;omega) (fun a ha=>r2 a ((hm a).1 ha).1) (CZ r3),by show(pX l k).length+1=_;omega,hm⟩
theorem FD (l:List AttrM)(n v:ByteArray):(dS l n v).1.length≤l.length+1:=by
  unfold dS;repeat' split
  all_goals simp
theorem rI (l:List AttrM)(n:ByteArray):(cz l n).1.length≤l.length:=by
  unfold cz;split
  ·simp[pX];omega
  ·simp
end Go.Proofs.Heir
namespace Go.Proofs.Heir
open Go Go.Am Go.RowKit Go.Lib
set_option maxRecDepth 100000
set_option maxHeartbeats 8000000
set_option maxHeartbeats 8000000
def gq (old new:List AttrM)(n:Int)(s:ByteArray):List aJ:=if 0≤bV old s∨0≤bV new s then[⟨4,n,0,0,dy s,decide (0≤bV old s),decide (0≤bV new s),nX old s,nX new s⟩] else[]
def jq (f:ForM)(n:Int)(s:ByteArray)(l:List AttrM):ForM×List aJ×Int:=(⟨iv f.nodes n l,f.most⟩,gq (nd f.nodes n).attrs l n s,0)
def jk (f:ForM)(n:Int):Int:=if(bt f&&ae f.nodes n)=true then(if(nd f.nodes n).kind=1 then 0 else 5) else 1
def je (f:ForM)(n:Int)(s v:ByteArray):ForM×List aJ×Int:=if jk f n≠0 then(f,[],jk f n) else if(dS (nd f.nodes n).attrs s v).2≠0 then(f,[],(dS (nd f.nodes n).attrs s v).2) else jq f n s (dS (nd f.nodes n).attrs s v).1
def fV (f:ForM)(n:Int)(s:ByteArray):ForM×List aJ×Int:=if jk f n≠0 then(f,[],jk f n) else if bJ s=false then(f,[],4) else jq f n s (cz (nd f.nodes n).attrs s).1
section
variable {l l' : List ai} {m : Int}
theorem RF.attrs (R:RF l m){n:Int}(hn:ae l n=true)(hk:(nd l n).kind=1):cn (nd l n).attrs=true:=by
  have h:=R.Gl n hn
  unfold fo at h
  rw[if_pos hk] at h
  simp only[bN] at h
  exact h.2
theorem RF.none (R:RF l m){n:Int}(hn:ae l n=true)(hk:(nd l n).kind≠1):(nd l n).attrs=[]∧(nd l n).name=⟨#[]⟩:=by
  rcases zM R.Kn hn with h|h
  ·exact absurd h hk
  ·exact⟨h.2.2,h.2.1⟩
theorem c9 (R:RF l m)(h:l.length≤60):bw l:=by
  have key:∀x∈l,x.kids.length≤60∧x.attrs.length≤60∧x.name.size≤300:=fun x hx=>by
    obtain⟨i,hi⟩:=List.getElem?_of_mem hx
    have hn:=iz hi
    have he:=cU hi
    have hk:=qf (n:=l.length) (R.dup i hn) (fun c hc=>bj (R.kid i hn c hc).1)
    rw[he] at hk
    refine⟨by omega,?_⟩
    by_cases e:x.kind=1
    · have ha:=R.attrs hn (by rw[he];exact e)
      rw[he] at ha
      have h1:=(oV ha).1
      refine⟨by omega,?_⟩
      have hN:=R.Gl i hn
      rw[he] at hN
      unfold fo at hN
      rw[if_pos e] at hN
      simp only[bN] at hN
      have h2:=hN.1.1.1.1
      unfold bJ ow at h2
      simp only[bN,bH] at h2
      have:x.name.size=x.name.data.toList.length:=by rw[Array.length_toList];rfl
      omega
    · have:=R.none hn (by rw[he];exact e)
      rw[he] at this
      rw[this.1,this.2]
      exact⟨by simp,by decide⟩
  exact⟨by omega,fun x hx=>(key x hx).1,fun x hx=>(key x hx).2.1,fun x hx=>(key x hx).2.2⟩
theorem elem_iff (R:RF l m){n:Int}(hn:ae l n=true):jk ⟨l,m⟩ n=if(nd l n).kind=1 then 0 else 5:=by
  unfold jk
  rw[if_pos (by rw[ck.2 R,hn];rfl)]
theorem Fj (R:RF l m)(hl:l'.length=l.length)(hs:∀x,ae l x=true→rO (nd l' x) (nd l x)){n:Int}(hn:ae l n=true):ei l' n=ei l n:=
  pP R hn (Ee hl R hs hn) fun x hx=>(hs x hx).kind
theorem GL {s:Int×Int}{x:aJ}(h:x.kind=4)(hb:¬ (s.1<0∨1<s.1)):kG s x=some s:=by
  unfold kG
  rw[if_neg (by omega),if_neg (by omega),if_neg (by omega)]
  exact if_neg hb
theorem E4 (R:RF l m){n:Int}{xs:List AttrM}(hn:ae l n=true)(hk:(nd l n).kind=1)(s:ByteArray):Told l (iv l n xs) (gq (nd l n).attrs xs n s):=by
  have S:=fun x (hx:ae l x=true)=>(s8 (xs:=xs) hn x hx).1
  refine⟨fun x hx=>?_,fun k hkt h1=>?_⟩
  · unfold gq at hx
    split at hx
    ·rw[gA.1 hx];exact⟨hn,hk⟩
    ·cases hx
  · rw [Fj R (gV ..) S hkt,(S k hkt).doc]
    have hb:¬ (zQ (ei l k)<0∨1<zQ (ei l k)):=by unfold zQ;split<;>omega
    unfold gq
    split
    · unfold bY
      rw[List.filter_cons]
      split
      · show(match kG (zQ (ei l k),(nd l k).doc) _ with|none=>none|some t=>runN t [])=_
        rw[GL rfl hb]
        rfl
      ·rfl
    ·rfl
theorem Cu (R:RF l m){n:Int}(hn:ae l n=true){s v:ByteArray}(he:(je ⟨l,m⟩ n s v).2.2=0):(nd l n).kind=1∧(dS (nd l n).attrs s v).2=0∧je ⟨l,m⟩ n s v=jq ⟨l,m⟩ n s (dS (nd l n).attrs s v).1∧cn (dS (nd l n).attrs s v).1=true:=by
  unfold je at he ⊢
  rw[elem_iff R hn] at he ⊢
  by_cases hk:(nd l n).kind=1
  · rw [if_pos hk] at he ⊢
    rw[if_neg (fun q=>q rfl)] at he ⊢
    show(nd l n).kind=1∧_
    by_cases h0:(dS (nd l n).attrs s v).2=0
    · rw[if_neg (fun q=>q h0)]
      exact⟨hk,h0,rfl,(A1 h0).2.right⟩
    ·rw[if_pos h0] at he;exact absurd he h0
  · rw[if_neg hk,if_pos (by decide)] at he
    cases he
theorem En (R:RF l m){n:Int}(hn:ae l n=true){s v:ByteArray}(he:(je ⟨l,m⟩ n s v).2.2≠0):je ⟨l,m⟩ n s v=(⟨l,m⟩,[],(je ⟨l,m⟩ n s v).2.2):=by
  unfold je at he ⊢
  rw[elem_iff R hn] at he ⊢
  by_cases hk:(nd l n).kind=1
  · rw[if_pos hk] at he ⊢
    rw[if_neg (fun q=>q rfl)] at he ⊢
    by_cases h0:(dS (nd l n).attrs s v).2=0
    ·rw[if_neg (fun q=>q h0)] at he;exact absurd rfl he
    ·rw[if_pos h0]
  ·rw[if_neg hk,if_pos (by decide)]
end
theorem HR {l:List AttrM}{n:ByteArray}(hr:cn l=true)(hn:bJ n=true){k:Nat}{a:AttrM}(h:l[k]? =some a)(e:a.name=dy n):bV l n=k:=by
  rw[jC hr hn,←e];exact o5 (l6 hr) h
theorem vY {l:List AttrM}{n v:ByteArray}(h:(dS l n v).2=0):(cn l=true∧bJ n=true∧v.size≤200)∧((∃ (k:Nat) (o:AttrM),bV l n=k∧l[k]? =some o∧o.name=dy n∧(dS l n v).1=l.set k ⟨dy n,v⟩)∨(¬0≤bV l n∧l.length≠40∧(dS l n v).1=l++ [⟨dy n,v⟩])):=by
  unfold dS at h ⊢
  by_cases hE:nq l n=0
  · obtain⟨h1,h2,_⟩:=lK hE
    rw[if_pos hE] at h ⊢
    by_cases hv:v.size≤200
    · rw [if_pos hv] at h ⊢
      refine⟨⟨h1,h2,hv⟩,?_⟩
      by_cases hP:0≤bV l n
      · rw[if_pos hP]
        rcases kz l n with e|⟨k,o,e1,e2,e3⟩
        ·omega
        ·exact .inl ⟨k,o,e1,e2,e3,by rw[e1,Int.toNat_natCast]⟩
      · rw[if_neg hP] at h ⊢
        by_cases hl:l.length=40
        ·rw[if_pos hl] at h;cases h
        ·rw[if_neg hl];exact .inr ⟨hP,hl,rfl⟩
    ·rw[if_neg hv] at h;cases h
  ·rw[if_neg hE] at h;exact absurd h hE
theorem JJ {l:List AttrM}{n v:ByteArray}(h:(dS l n v).2=0):∃k:Nat,(dS l n v).1[k]? =some ⟨dy n,v⟩:=by
  rcases(vY h).2 with⟨k,o,_,h2,_,h4⟩|⟨_,_,h4⟩
  · have:=(aY h2).1
    exact⟨k,by rw[h4,List.getElem?_set,if_pos rfl,if_pos this]⟩
  ·exact⟨l.length,by rw[h4,List.getElem?_append_right (Nat.le_refl _),Nat.sub_self];rfl⟩
section
variable {l l' : List ai} {m : Int}
end
end Go.Proofs.Heir
namespace Go.Proofs.Heir
open Go Go.Am Go.RowKit Go.Lib
set_option maxRecDepth 100000
set_option maxHeartbeats 8000000
set_option maxHeartbeats 2000000
section
variable {l l' : List ai} {m : Int}
end
def gd (l:List AttrM)(s:ByteArray):ByteArray×Bool:=match l.find? (hasName s) with
  |some a=>(a.value,true)
  |none=>(DS,false)
def fP (n:Int)(s:ByteArray)(t:ByteArray×Bool)(x:aJ):Option (ByteArray×Bool):=
  if x.node=n∧x.kind=4∧x.name=s then(if x.old≠t.1∨x.had≠t.2∨(x.had=false∧x.has=false)∨(x.has=false∧x.new≠DS) then none else some (x.new,x.has)) else some t
def cI (n:Int)(s:ByteArray):ByteArray×Bool→List aJ→Option (ByteArray×Bool)
  |t,[]=>some t
  | t,x::r=>match fP n s t x with
    |none=>none
    |some u=>cI n s u r
theorem mg (n:Int)(s:ByteArray):∀ (a b:List aJ) (t:ByteArray×Bool),cI n s t (a++b)=match cI n s t a with
    |none=>none
    |some u=>cI n s u b
  |[],b,t=>rfl
  | x::a,b,t=>by
    show(match fP n s t x with|none=>none|some u=>cI n s u (a++b))=match(match fP n s t x with|none=>none|some u=>cI n s u a) with|none=>none|some u=>cI n s u b
    cases fP n s t x with
    |none=>rfl
    |some u=>exact mg n s a b u
theorem ua {n:Int}{s:ByteArray}{t:ByteArray×Bool}:∀ {ns:List aJ},(∀x∈ns,x.kind≠4)→cI n s t ns=some t
  |[],_=>rfl
  | x ::r,h=>by
    have e:fP n s t x=some t:=by
      unfold fP
      rw[if_neg fun q=>h x gj q.2.1]
    show(match fP n s t x with|none=>none|some u=>cI n s u r)=_
    rw[e]
    exact ua fun y hy=>h y (eP _ hy)
theorem wq {l:List AttrM}(hr:cn l=true){a:AttrM}(h:a∈l):gd l a.name=(a.value,true):=by
  unfold gd
  cases e:l.find? (hasName a.name) with
  |none=>exact absurd (List.find?_eq_none.1 e a h) (by unfold hasName;simp)
  | some b=>
    have h1:=List.mem_of_find?_eq_some e
    have h2:b.name=a.name:=by
      have:=List.find?_some e
      unfold hasName at this
      exact of_decide_eq_true this
    rw[Ic (l6 hr) h1 h h2]
theorem th {l:List AttrM}{s:ByteArray}(h:∀a∈l,a.name≠s):gd l s=(DS,false):=by
  unfold gd
  have:l.find? (hasName s)=none:=List.find?_eq_none.2 fun a ha=>by
    unfold hasName
    simpa using h a ha
  rw[this]
theorem He {l m:List AttrM}{s:ByteArray}(hl:cn l=true)(hm:cn m=true)(h:∀a:AttrM,a.name=s→(a∈l↔a∈m)):gd l s=gd m s:=by
  by_cases c:∃a∈l,a.name=s
  · obtain⟨a,ha,e⟩:=c
    subst e
    rw[wq hl ha,wq hm ((h a rfl).1 ha)]
  ·rw[th (fun a ha e=>c ⟨a,ha,e⟩),th fun a ha e=>c ⟨a,(h a e).2 ha,e⟩]
theorem Bu {l:List AttrM}{s:ByteArray}(hl:cn l=true)(hs:bJ s=true):nX l s=(gd l (dy s)).1∧decide (0≤bV l s)=(gd l (dy s)).2:=by
  by_cases c:∃a∈l,a.name=dy s
  · obtain⟨a,ha,e⟩:=c
    have h1:=Cm (l:=l) (n:=s) (v:=a.value) hl hs (by rw[←e];exact ha)
    have h2:=wq hl ha
    rw[e] at h2
    rw[h2,h1.1,dJ h1.2];exact⟨rfl,rfl⟩
  · have h1:=EX (l:=l) (n:=s) fun _ _ a ha e=>c ⟨a,ha,e⟩
    rw[th (fun a ha e=>c ⟨a,ha,e⟩),h1.1,dx h1.2];exact⟨rfl,rfl⟩
theorem wJ {old new:List AttrM}{n k:Int}{s t:ByteArray}(ho:cn old=true)(hn:cn new=true)(hs:bJ s=true)(h:t≠dy s∨k≠n→k=n→gd new t=gd old t)(hc:new=old∨0≤bV old s∨0≤bV new s):
    cI k t (gd old t) (gq old new n s)=some (if k=n then gd new t else gd old t):=by
  obtain⟨g1,g2⟩:=Bu ho hs
  obtain⟨g3,g4⟩:=Bu hn hs
  unfold gq
  by_cases e:0≤bV old s∨0≤bV new s
  · rw [if_pos e]
    show(match fP k t (gd old t) _ with|none=>none|some u=>cI k t u [])=_
    unfold fP
    dsimp only
    by_cases c:n=k∧(4:Int)=4∧dy s=t
    · rw [if_pos c]
      obtain⟨rfl,_,rfl⟩:=c
      have hno:¬ (nX old s≠ (gd old (dy s)).1∨decide (0≤bV old s)≠ (gd old (dy s)).2∨(decide (0≤bV old s)=false∧decide (0≤bV new s)=false)∨(decide (0≤bV new s)=false∧nX new s≠DS)):=by
        rintro(q|q|⟨q1,q2⟩|⟨q1,q2⟩)
        ·exact q g1
        ·exact q g2
        · rcases e with e|e
          ·exact(of_decide_eq_false q1) e
          ·exact(of_decide_eq_false q2) e
        · refine q2 ?_
          unfold nX
          rw[if_neg (of_decide_eq_false q1)]
      rw[if_neg hno,if_pos rfl,g3,g4]
      rfl
    · rw[if_neg c]
      show some (gd old t)=_
      by_cases ek:k=n
      ·rw[if_pos ek,h (.inl fun q=>c ⟨ek.symm,rfl,q.symm⟩) ek]
      ·rw[if_neg ek]
  · rw[if_neg e]
    have:new=old:=hc.resolve_right e
    subst this
    show some _=_
    split<;>rfl
section
variable {l l' : List ai} {m : Int}
theorem oZ {p b:Int}:∀ (ks:List Int) {l:List ai},RF l m→ks.Nodup→(∀k∈ks,fD l k p b)→((nd l p).kind=0→ks.length≤1)→∀x,ae l x=true→gH (nd (ks.foldl (fun l k=>cG l k p b) l) x) (nd l x)
  |[],l,_,_,_,_,x,_=>.refl _
  | k ::ks,l,R,hd,h,h0,x,hx=>by
    rw[List.nodup_cons] at hd
    have C:=h k gj
    have L:=gJ R C
    have:=oZ (p:=p) (b:=b) ks (gC R C) hd.2 (fun j hj=>nR R C (h j (eP _ hj)) (fun e=>hd.1 (e▸hj)) (fun e=>by
      have q1:(k::ks).length≤1:=h0 e
      have q2:=List.length_pos_of_mem hj
      rw[List.length_cons] at q1;omega)) (fun e=>by
      rw[(L p C.tp).1.kind] at e
      have q1:(k::ks).length≤1:=h0 e
      rw[List.length_cons] at q1;omega) x (by rw[aV (fF ..)];exact hx)
    exact this.trans (L x hx).1
theorem yf (R:RF l m)(t:List aJ){n p b:Int}(C:nB l n p b)(x:Int)(hx:ae l x=true):gH (nd (dg (l,t) n p b).1 x) (nd l x):=by
  unfold dg
  rw[oO]
  by_cases h3:(nd l n).kind=3
  · have hpar:dn l n=(nd l n).kids:=by unfold dn;rw[if_pos h3]
    obtain⟨h1,h2,h4,h5⟩:=nu R C h3
    simp only[hpar,if_pos h3,gO]
    have hks:∀k∈ (nd l n).kids,ae l k=true:=fun k hk=>(R.kid n C.tn k hk).1
    have L:=iB (nd l n).kids R hks n (fun k hk=>.inl (R.kid n C.tn k hk).2.1)
    exact(oZ (nd l n).kids h1 (R.dup n C.tn) (fun k hk=>(h4 k hk).1) (fun e=>h5 (by rw[←(L p C.tp).1.kind];exact e)) x (by rw[aV h2];exact hx)).trans (L x hx).1
  · simp only[gL h3,if_neg h3]
    exact oZ [n] R (by simp) (fun k hk=>by rw[gA.1 hk];exact nG C h3) (fun _=>by simp) x hx
theorem rG {n:Int}{s:ByteArray}{t:ByteArray×Bool}:∀ {ns:List aJ},(∀x∈ns,x.node≠n)→cI n s t ns=some t
  |[],_=>rfl
  | x ::r,h=>by
    have e:fP n s t x=some t:=by
      unfold fP
      rw[if_neg fun q=>h x gj q.1]
    show(match fP n s t x with|none=>none|some u=>cI n s u r)=_
    rw[e]
    exact rG fun y hy=>h y (eP _ hy)
end
structure pU (f:ForM) (r:ForM×List aJ×Int):Prop where
  right:bt r.1=true
  len:r.1.nodes.length=f.nodes.length
  fail:r.2.2≠0→r.1=f∧r.2.1=[]
  told:Told f.nodes r.1.nodes r.2.1
  kind:∀x,ae f.nodes x=true→(nd r.1.nodes x).kind=(nd f.nodes x).kind
  chain:∀n,ae f.nodes n=true→∀t,bJ t=true→dy t=t→cI n t (gd (nd f.nodes n).attrs t) r.2.1=some (gd (nd r.1.nodes n).attrs t)
theorem pU.nil {f:ForM}(h:bt f=true)(e:Int):pU f (f,[],e):=⟨h,rfl,fun _=>⟨rfl,rfl⟩,.nil _,fun _ _=>rfl,fun _ _ _ _ _=>rfl⟩
section
variable {l : List ai} {m : Int}
theorem pU.move (R:RF l m){l':List ai}{ns:List aJ}(R':RF l' m)(hl:l'.length=l.length)(hs:∀x,ae l x=true→gH (nd l' x) (nd l x))(ht:Told l l' ns)(hn:ir ns):pU ⟨l,m⟩ (⟨l',m⟩,ns,0):=
  ⟨ck.2 R',hl,fun h=>absurd rfl h,ht,fun x hx=>(hs x hx).kind,fun n hn2 t _ _=>by
    rw[ua hn]
    show some _=some (gd (nd l' n).attrs t)
    rw[(hs n hn2).attrs]⟩
theorem Cw (R:RF l m)(n p child:Int):pU ⟨l,m⟩ (eC ⟨l,m⟩ n p child):=by
  by_cases h:mB ⟨l,m⟩ n p child=0
  · have ha:dN ⟨l,m⟩ n p child=true:=Classical.byContradiction fun q=>by
      unfold mB at h
      rw[if_neg q] at h;cases h
    obtain⟨⟨hn,hp⟩,hc⟩:=(nJ R).1 ha
    have ht:=h
    rw[xQ R hn hp hc] at ht
    have C:=w9 R hn hp hc ht
    have hb:eR ⟨l,m⟩ n p child=if child≠n then child else cw (nd l p).kids n:=by
      unfold eR
      rw[if_neg (fun q=>q h)]
    rw[←hb] at C
    have P:=jx R [] C
    obtain⟨ns,h1,h2,h3⟩:=yp R C []
    rw[List.nil_append] at h1
    have e:eC ⟨l,m⟩ n p child=(⟨(dg (l,[]) n p (eR ⟨l,m⟩ n p child)).1,m⟩,ns,0):=by
      unfold eC
      rw[if_pos h,←h1]
    rw[e]
    exact .move R P.1 P.2 (yf R [] C) h2 h3
  ·rw[rC h];exact .nil (ck.2 R) _
theorem CG (R:RF l m)(n:Int):pU ⟨l,m⟩ (dD ⟨l,m⟩ n):=by
  by_cases hn:ae l n=true
  · by_cases hp:(nd l n).parent=-1
    ·rw[o3 R hn hp];exact .nil (ck.2 R) _
    · have hkk:=(R.par n hn hp).1
      obtain⟨ns,h1,h2,h3⟩:=pV R hn hkk []
      have e:dD ⟨l,m⟩ n=(⟨aZ l n,m⟩,ns,0):=by
        unfold dD
        rw[if_pos (by rw[ck.2 R,hn];rfl),if_neg hp]
        dsimp only
        rw[h1];rfl
      rw[e]
      exact .move R (cZ R hn) (cm ..) (fun x hx=>(dH R hn x hx).1) h2 h3
  · have e:dD ⟨l,m⟩ n=(⟨l,m⟩,[],1):=by
      unfold dD
      rw[if_neg (by rw[bN];exact fun q=>hn q.2)]
    rw[e];exact .nil (ck.2 R) _
theorem AH (R:RF l m)(n p child:Int):pU ⟨l,m⟩ (replaceM ⟨l,m⟩ n p child):=by
  by_cases h:jY ⟨l,m⟩ n p child=0
  · have ha:dN ⟨l,m⟩ n p child=true:=Classical.byContradiction fun q=>by
      unfold jY at h
      rw[if_neg q] at h;cases h
    obtain⟨⟨hn,hp⟩,hc⟩:=(nJ R).1 ha
    have ht:=h
    unfold jY at ht
    rw[if_pos ha] at ht
    by_cases hc1:child=-1
    · exfalso
      by_cases c:(decide (child=-1)&&(decide (fg l p child child n=0)||oa l n p))=true
      ·rw[if_pos c] at ht;cases ht
      · rw[if_neg c] at ht
        rw[hc1] at c ht
        exact c (by rw[ht];simp)
    have hct:=hc.resolve_left hc1
    rw[if_neg (by simp[hc1])] at ht
    obtain⟨hch,C⟩:=tP R hn hp hct ht
    have R1:=cZ R hct
    have L:=dH R hct
    have T:=aV (cm l child)
    have hkk:(nd l child).kind=1∨(nd l child).kind=2:=by have:=(R.kid p hp child hch).2.2.2;omega
    obtain⟨n1,h1,h2,h3⟩:=pV R hct hkk []
    rw[List.nil_append] at h1
    have P:=jx R1 n1 C
    obtain⟨n2,k1,k2,k3⟩:=yp R1 C n1
    have e:replaceM ⟨l,m⟩ n p child=(⟨(dg (aZ l child,n1) n p (gZ l n p child)).1,m⟩,n1++n2,0):=by
      unfold replaceM
      rw[if_pos h]
      dsimp only
      rw[h1,←k1];rfl
    rw[e]
    exact .move R P.1 (P.2.trans (cm ..)) (fun x hx=>(yf R1 n1 C x (by rw[T];exact hx)).trans (L x hx).1) (h2.trans (cm ..) (fun x hx=>(L x hx).1.kind) k2) (h3.app k3)
  · have e:replaceM ⟨l,m⟩ n p child=(⟨l,m⟩,[],jY ⟨l,m⟩ n p child):=by unfold replaceM;rw[if_neg h]
    rw[e];exact .nil (ck.2 R) _
theorem qJ (R:RF l m){n:Int}{s:ByteArray}{xs:List AttrM}(hn:ae l n=true)(hk:(nd l n).kind=1)(hs:bJ s=true)(hx:cn xs=true)(hv:∀a:AttrM,a.name≠dy s→(a∈xs↔a∈ (nd l n).attrs))(hc:xs=(nd l n).attrs∨0≤bV (nd l n).attrs s∨0≤bV xs s):pU ⟨l,m⟩ (jq ⟨l,m⟩ n s xs):=by
  have S:=fun x (h:ae l x=true)=>s8 (xs:=xs) hn x h
  refine⟨ck.2 (Cz R hn hk hx),gV ..,fun h=>absurd rfl h,E4 R hn hk s,fun x h=>(S x h).1.kind,fun k hkt t ht1 ht2=>?_⟩
  show cI k t (gd (nd l k).attrs t) (gq (nd l n).attrs xs n s)=some (gd (nd (iv l n xs) k).attrs t)
  rw[(S k hkt).2.2]
  by_cases e:k=n
  · subst e
    rw[if_pos rfl]
    have ha:=R.attrs hkt hk
    have:=wJ (k:=k) (n:=k) (t:=t) ha hx hs (fun q _=>by
      rcases q with q|q
      ·exact He hx ha fun a e=>hv a (by rw[e];exact q)
      ·exact absurd rfl q) hc
    rw[if_pos rfl] at this
    exact this
  · rw[if_neg e]
    refine rG fun x hx2=>?_
    unfold gq at hx2
    split at hx2
    ·rw[gA.1 hx2];exact fun q=>e q.symm
    ·cases hx2
theorem IM (R:RF l m){n:Int}(hn:ae l n=true)(s v:ByteArray):pU ⟨l,m⟩ (je ⟨l,m⟩ n s v):=by
  by_cases he:(je ⟨l,m⟩ n s v).2.2=0
  · obtain⟨hk,h0,h1,h2⟩:=Cu R hn he
    obtain⟨_,S⟩:=A1 h0
    rw[h1]
    refine qJ R hn hk S.name h2 (fun a ha=>?_) (.inr (.inr (Cm h2 S.name ((S.mem _).2 (.inl rfl))).2))
    rw[S.mem]
    constructor
    · rintro(h|h)
      ·rw[h] at ha;exact absurd rfl ha
      ·exact h.1
    ·exact fun h=>.inr ⟨h,ha⟩
  ·rw[En R hn he];exact .nil (ck.2 R) _
theorem FA (R:RF l m){n:Int}(hn:ae l n=true)(s:ByteArray):pU ⟨l,m⟩ (fV ⟨l,m⟩ n s):=by
  unfold fV
  rw[elem_iff R hn]
  by_cases hk:(nd l n).kind=1
  · rw [if_pos hk,if_neg (show ¬ (0:Int)≠0 from fun q=>q rfl)]
    cases hs:bJ s with
    |false=>rw[if_pos rfl];exact .nil (ck.2 R) _
    | true=>
      rw[if_neg (show ¬true=false by decide)]
      have ha:=R.attrs hn hk
      dsimp only
      by_cases h:0≤bV (nd l n).attrs s
      · obtain⟨h1,_,h3⟩:=CL h
        exact qJ R hn hk hs h1 (fun a ha=>by rw[h3];exact⟨fun q=>q.1,fun q=>⟨q,ha⟩⟩) (.inr (.inl h))
      · have e:(cz (nd l n).attrs s).1=(nd l n).attrs:=by unfold cz;rw[if_neg h]
        rw[e]
        exact qJ R hn hk hs ha (fun a _=>Iff.rfl) (.inl rfl)
  · rw[if_neg hk,if_pos (show(5:Int)≠0 by decide)]
    exact .nil (ck.2 R) _
end
structure ia (f g:ForM) (ns:List aJ):Prop where
  right:bt g=true
  len:g.nodes.length=f.nodes.length
  told:Told f.nodes g.nodes ns
  kind:∀x,ae f.nodes x=true→(nd g.nodes x).kind=(nd f.nodes x).kind
  chain:∀n,ae f.nodes n=true→∀t,bJ t=true→dy t=t→cI n t (gd (nd f.nodes n).attrs t) ns=some (gd (nd g.nodes n).attrs t)
theorem ia.nil {f:ForM}(h:bt f=true):ia f f []:=⟨h,rfl,.nil _,fun _ _=>rfl,fun _ _ _ _ _=>rfl⟩
theorem ia.snoc {f g:ForM}{ns:List aJ}{r:ForM×List aJ×Int}(h:ia f g ns)(k:pU g r):ia f r.1 (ns++r.2.1):=by
  have T:=aV h.len
  refine⟨k.right,k.len.trans h.len,h.told.trans h.len h.kind k.told,fun x hx=>(k.kind x (by rw[T];exact hx)).trans (h.kind x hx),fun n hn t h1 h2=>?_⟩
  rw[mg,h.chain n hn t h1 h2]
  exact k.chain n (by rw[T];exact hn) t h1 h2
theorem ia.last {f g:ForM}{ns:List aJ}(h:ia f g ns){n:Int}(hn:ae f.nodes n=true)(h1:(nd f.nodes n).kind=1):runN (zQ (ei f.nodes n),(nd f.nodes n).doc) (bY n ns)=some (zQ (ei g.nodes n),(nd g.nodes n).doc):=h.told.run n hn h1
theorem F7 {n:Int}{x:aJ}{r:List aJ}{s:Int×Int}(hx:x.node=n):runN s (bY n (x::r))=match kG s x with
    |none=>none
    |some t=>runN t (bY n r):=by
  unfold bY
  rw[List.filter_cons,if_pos (by simpa using hx)];rfl
theorem E2 {n:Int}{x:aJ}{r:List aJ}{s:Int×Int}(hx:x.node≠n):runN s (bY n (x::r))=runN s (bY n r):=by
  unfold bY
  rw[List.filter_cons,if_neg (by simpa using hx)]
theorem zw {n:Int}{ns:List aJ}{s t:Int×Int}(h:runN s (bY n ns)=some t)(k:Nat):∃u,runN s (bY n (ns.take k))=some u∧runN u (bY n (ns.drop k))=some t:=by
  have e:bY n ns=bY n (ns.take k)++bY n (ns.drop k):=by rw[←ng,List.take_append_drop]
  rw[e,pS] at h
  cases hu:runN s (bY n (ns.take k)) with
  |none=>rw[hu] at h;cases h
  |some u=>rw[hu] at h;exact⟨u,rfl,h⟩
theorem Eg {n:Int}{ns:List aJ}{s t:Int×Int}(h:runN s (bY n ns)=some t){k:Nat}{x:aJ}(hx:ns[k]? =some x){u:Int×Int}(hu:runN s (bY n (ns.take k))=some u):
    (x.node=n→∃v,kG u x=some v∧runN s (bY n (ns.take (k+1)))=some v)∧(x.node≠n→runN s (bY n (ns.take (k+1)))=some u):=by
  have e:ns.take (k+1)=ns.take k++ [x]:=by rw[List.take_add_one,hx];rfl
  have e2:runN s (bY n (ns.take (k+1)))=runN u (bY n [x]):=by
    rw[e,ng,pS,hu]
  refine⟨fun hn=>?_,fun hn=>?_⟩
  · obtain⟨v,hv,_⟩:=zw h (k+1)
    rw[e2] at hv
    have e3:=F7 (s:=u) (r:=[]) hn
    cases hq:kG u x with
    |none=>rw[e3,hq] at hv;cases hv
    |some z=>exact⟨z,rfl,by rw[e2,e3,hq];rfl⟩
  ·rw[e2,E2 hn];rfl
theorem sV {n:Int}{s:ByteArray}{ns:List aJ}{a t:ByteArray×Bool}(h:cI n s a ns=some t)(k:Nat):∃u,cI n s a (ns.take k)=some u∧cI n s u (ns.drop k)=some t:=by
  rw[←List.take_append_drop k ns,mg] at h
  cases hu:cI n s a (ns.take k) with
  |none=>rw[hu] at h;cases h
  |some u=>rw[hu] at h;exact⟨u,rfl,h⟩
theorem Ah {n:Int}{s:ByteArray}{ns:List aJ}{a t:ByteArray×Bool}(h:cI n s a ns=some t){k:Nat}{x:aJ}(hx:ns[k]? =some x){u:ByteArray×Bool}(hu:cI n s a (ns.take k)=some u):∃v,fP n s u x=some v∧cI n s a (ns.take (k+1))=some v:=by
  have e:ns.take (k+1)=ns.take k++ [x]:=by rw[List.take_add_one,hx];rfl
  have e2:cI n s a (ns.take (k+1))=cI n s u [x]:=by rw[e,mg,hu]
  obtain⟨v,hv,_⟩:=sV h (k+1)
  rw[e2] at hv
  cases hq:fP n s u x with
  | none=>
    have:cI n s u [x]=none:=by
      show(match fP n s u x with|none=>none|some z=>cI n s z [])=none
      rw[hq]
    rw[this] at hv;cases hv
  | some z=>
    refine⟨z,rfl,?_⟩
    rw[e2]
    show(match fP n s u x with|none=>none|some z=>cI n s z [])=some z
    rw[hq];rfl
end Go.Proofs.Heir
