/- Models, plain laws and contracts of functions of the given program; conditions as stated in each theorem. By an AI agent. -/
import Derived.Test.YtkhjcnjicjgfiaaGreatDoorW23
import Derived.Test.YtkhjcnjicjgfiaaGreatDoorW17
import Derived.Test.YtkhjcnjicjgfiaaGreatDoorW15
import Derived.Test.YtkhjcnjicjgfiaaGreatDoorW11
import Derived.Test.YtkhjcnjicjgfiaaGreatDoorW19
import Derived.Test.YtkhjcnjicjgfiaaGreatDoorW18
set_option linter.unusedSimpArgs false
set_option linter.unusedVariables false
namespace Go.Proofs.Heir
open Go.Am Go.RowKit Go.Lib
set_option maxRecDepth 100000
set_option maxHeartbeats 8000000
set_option maxHeartbeats 4000000
theorem qb {α:Type}(A B:List α)(x:α)(q:Nat):(A++ [x]++B)[q]? =if q<A.length then A[q]? else if q=A.length then some x else B[q- (A.length+1)]? :=by
  rw[List.append_assoc,List.getElem?_append]
  split
  ·rfl
  · rename_i h
    by_cases hq:q=A.length
    ·subst hq;simp
    ·rw[if_neg hq,show[x]++B=x::B from rfl,show q-A.length=(q- (A.length+1))+1 from by omega,List.getElem?_cons_succ]
theorem mg (v:Value)(n:Nat)(hv:v.cells= #[v]):(Builtin.zeroCells v.cells n).size=n:=by simp[Builtin.zeroCells,hv]
theorem s6 (l:List Value)(Z:Array Value){q:Nat}(h:q<l.length):(l.toArray++Z)[q]? =l[q]? :=by
  rw[Array.getElem?_append,if_pos (by simpa using h)];simp
theorem tX (w:World)(c:Obj):(w.alloc c).drew=w.drew.alloc c:=rfl
theorem oD {rows:List AV}(hone:kW (flat rows)=true)(i:Nat)(x:Int)(hi:i≤rows.length)(hmany:rows.length≤100000):
    aj Tryz.prog 140 [.live 1 rows false,.live 1 [ah x] false] [.own 0 0 rows.length,ah i,.own 1 0 1] [.dead,.live 1 [ah x] false,.live 1 (rows.take i++ [ah x]++rows.drop i) false] (.own 2 0 (rows.length+1)):=by
  intro w W0 L vs hL hs hr
  obtain⟨v0,v1,v2,rfl⟩:∃v0 v1 v2,vs=[v0,v1,v2]:=by
    have:=hr.1
    match vs,this with
    |[a,b,c],_=>exact⟨a,b,c,rfl⟩
  have h1:=hr.2 1 _ v1 rfl rfl
  cases h1
  have h2:=hr.2 2 _ v2 rfl rfl
  have h0:=hr.2 0 _ v0 rfl rfl
  obtain⟨B,hB,hobj⟩:=hs.objs 0 1 rows false rfl
  obtain⟨B1,hB1,hobj1⟩:=hs.objs 1 1 [ah x] false rfl
  have hwd:=hobj.width
  have hwd1:=hobj1.width
  have hfl:=cU hobj.wide
  have hwide:bS 1 (rows.take i++ [ah x]++rows.drop i):=((hobj.wide.sub fun r hr=>List.mem_of_mem_take hr).append hobj1.wide).append (hobj.wide.sub fun r hr=>List.mem_of_mem_drop hr)
  have hlen:(rows.take i++ [ah x]++rows.drop i).length=rows.length+1:=by simp;omega
  have hfr:flat (rows.take i++ [ah x]++rows.drop i)=(flat rows).take i++ [ah x]++ (flat rows).drop i:=by
    rw[iW,iW,n8 hobj.wide,nW hobj.wide];simp[flat,Am.cells]
  cases h2 with
  | @own _ _ _ vc e1 n1 B1' b1 bv bp b2 b3 b4=>
  rw[hB1] at b1;cases b1
  obtain⟨D,e2,fz2,d1,d2,d3⟩:=hobj1.blk bv bp
  rw[d2 rfl] at d1
  rw[hwd1,Nat.zero_mul,Nat.add_zero]
  obtain⟨vx,k1,k2⟩:=hobj1.cell bp 0 (ah x) rfl
  cases k2
  have hx:w.cell? ⟨B1.b,B1.o,none⟩=some (.int .i64 x):=by simpa using k1
  have hfin:∀ (w1:World) (bn on cap:Nat) (sz:Nat) (e:TypeId),rows.length+1≤cap→w1.shape? bn=some (e,sz)→on+cap≤sz→
      cH (Wr W0 (bI L 2 ⟨bn,on,1,false,false⟩) (aJ [.dead,.live 1 [ah x] false,.live 1 (rows.take i++ [ah x]++rows.drop i) false])) (bI L 2 ⟨bn,on,1,false,false⟩) w1 (.own 2 0 (rows.length+1)) (.slice (some ⟨bn,on,none⟩) (rows.length+1) cap):=by
    intro w1 bn on cap sz e h1 h2 h3
    have :=cH.own (W:=Wr W0 (bI L 2 ⟨bn,on,1,false,false⟩) (aJ [.dead,.live 1 [ah x] false,.live 1 (rows.take i++ [ah x]++rows.drop i) false])) (μ:=bI L 2 ⟨bn,on,1,false,false⟩)
        (w:=w1) (t:=2) (off:=0) (len:=rows.length+1) (cap:=cap) (e:=e) (n:=sz) (B:=⟨bn,on,1,false,false⟩) (by simp[bI]) rfl rfl h1 h2 (by simp only[Nat.zero_add];omega)
    simpa using this
  have hgrown:∀ (k:Nat) (C2:Array Value) (cap:Nat),rows.length+1≤cap→C2.size=cap→
      (∀ (q:Nat) (c:AV),(flat (rows.take i++ [ah x]++rows.drop i))[q]? =some c→∃v,C2[q]? =some v∧cH (Wr W0 L (aJ [.live 1 rows false,.live 1 [ah x] false])) L w c v)→
      ∃ μ',cF Tryz.prog 0 w W0 L μ' (bare [.dead,.live 1 [ah x] false,.live 1 (rows.take i++ [ah x]++rows.drop i) false]) iM (({w with drawn:=k}:World).alloc (.cells C2 3))∧
        cH (Wr W0 μ' (aJ [.dead,.live 1 [ah x] false,.live 1 (rows.take i++ [ah x]++rows.drop i) false])) μ' (({w with drawn:=k}:World).alloc (.cells C2 3)) (.own 2 0 (rows.length+1)) (.slice (some ⟨w.heap.size,0,none⟩) (rows.length+1) cap):=by
    intro k C2 cap hcap hC2 hcell
    have hal:=(hs.drawn k).alloc (t:=2) (wd:=1) (rows:=rows.take i++ [ah x]++rows.drop i) (C:=C2) (e:=3) rfl hwide (by rw[hlen];omega) (fun q c hc=>by
      obtain⟨v,j1,j2⟩:=hcell q c hc
      exact⟨v,j1,j2.grow (Grow.drawn k)⟩)
    have hdr:=hal.drop (m':=aJ [.dead,.live 1 [ah x] false,.live 1 (rows.take i++ [ah x]++rows.drop i) false]) (fun t=>by
      match t with
      |0=>exact .inr (.inl ⟨rfl,by simp[bw,bare,aJ]⟩)
      |1=>exact .inl rfl
      |2=>exact .inl rfl
      |t+3=>exact .inl (by simp[bw,bare,aJ]))
    exact⟨_,hdr,hfin _ _ _ _ cap 3 hcap (by simp[World.shape?,World.alloc,hC2]) (by omega)⟩
  generalize hn:rows.length=n at h0 hi hmany hlen hfin hgrown hfl
  cases h0 with
  | @ownNil _ _ a B' a1=>
    have hr0:rows=[]:=pV.1 hn
    have hi0:i=0:=by omega
    subst hi0
    have hge:=grownCap_ge w (0+1) 0 3
    have hf:=qm a 0 0 B1.b B1.o vc x [] w (Nat.le_refl _) (by omega) (by omega) rfl (fun _=>rfl) (fun _ _ j v hj=>by simp at hj) hx
    obtain⟨g,hg⟩:∃g,grownCap w (0+1) 0 3=g:=⟨_,rfl⟩
    rw[hg] at hf hge
    refine hf.mono ?_
    rintro e' w' ⟨rfl,rfl⟩
    obtain⟨μ',g1,g2⟩:=hgrown (w.drawn+1) (([]++ [Value.int .i64 x]).toArray++Builtin.zeroCells (Value.int .i64 0).cells (g- (0+1))) g hge (by
        rw[Array.size_append,mg _ _ rfl];simp;omega) (fun q c hc=>by
        rw[hfr,hr0] at hc
        simp only[flat,List.flatMap_nil,List.take_nil,List.drop_nil,List.nil_append,List.append_nil] at hc
        have hq:q=0:=by have:=(aZ hc).1;simp at this;exact this
        subst hq
        cases hc
        exact⟨.int .i64 x,by rw[s6 _ _ (by simp)];rfl,.lit⟩)
    exact⟨_,μ',rfl,g1,g2⟩
  | @own _ _ _ cap e' n' B' a1 av ap a2 a3 a4=>
    rw[hB] at a1;cases a1
    obtain⟨C,e,fz,c1,c2,c3⟩:=hobj.blk av ap
    rw[c2 rfl] at c1
    have hn':C.size=n':=by simp[World.shape?,c1] at a3;exact a3.2
    rw[hwd,Nat.zero_mul,Nat.add_zero]
    rw[hwd,Nat.zero_add] at a4
    have hcell:∀ (q:Nat) (c:AV),(flat rows)[q]? =some c→∃v,C[B.o+q]? =some v∧cH (Wr W0 L (aJ [.live 1 rows false,.live 1 [ah x] false])) L w c v:=fun q c hq=>by
      obtain⟨v,k1,k2⟩:=hobj.cell ap q c hq
      exact⟨v,by simpa[World.cell?,c1] using k1,k2⟩
    have hne:B1.b≠B.b:=fun h=>hs.inj 1 0 1 [ah x] 1 rows false B1 B (by decide) rfl rfl hB1 hB bv av h
    obtain⟨cs,hcs⟩:∃cs,cs=(C.toList.drop B.o).take n:=⟨_,rfl⟩
    have hcl:cs.length=n:=by rw[hcs];simp;omega
    have hcg:∀j,j<n→cs[j]? =C[B.o+j]? :=fun j hj=>by rw[hcs,List.getElem?_take,if_pos hj,List.getElem?_drop,Array.getElem?_toList]
    have hcr:∀ (q:Nat) (c:AV),(flat rows)[q]? =some c→∃v,cs[q]? =some v∧cH (Wr W0 L (aJ [.live 1 rows false,.live 1 [ah x] false])) L w c v:=fun q c hq=>by
      obtain⟨v,k1,k2⟩:=hcell q c hq
      have:=(aZ hq).1
      exact⟨v,by rw[hcg q (by omega)];exact k1,k2⟩
    have h1c:∀v∈cs,v.oneCell'=true:=fun v hv=>by
      obtain⟨j,hj⟩:=List.getElem?_of_mem hv
      have hjl:j<n:=by have:=(aZ hj).1;omega
      obtain⟨v',k1,k2⟩:=hcr j _ (bH (by omega))
      rw[hj] at k1;cases k1
      exact k2.one (List.all_eq_true.1 hone _ (List.getElem_mem _))
    -- what the new list holds
    have hall:∀ (q:Nat) (c:AV),(flat (rows.take i++ [ah x]++rows.drop i))[q]? =some c→∃v,(cs.take i++ [Value.int .i64 x]++cs.drop i)[q]? =some v∧cH (Wr W0 L (aJ [.live 1 rows false,.live 1 [ah x] false])) L w c v:=fun q c hc=>by
      rw[hfr,qb,gd,hfl,Nat.min_eq_left (by omega)] at hc
      rw[qb,gd,hcl,Nat.min_eq_left (by omega)]
      split at hc
      · rename_i hq
        rw[if_pos hq,List.getElem?_take,if_pos hq]
        rw[List.getElem?_take,if_pos hq] at hc
        exact hcr q c hc
      · rename_i hq
        rw[if_neg hq]
        split at hc
        · rename_i hq2
          cases hc
          exact⟨_,by rw[if_pos hq2],.lit⟩
        · rename_i hq2
          rw[if_neg hq2]
          rw[List.getElem?_drop] at hc ⊢
          exact hcr _ c hc
    have hst:(⟨(bare [.live 1 rows false,.live 1 [ah x] false]).slots,bw (bare [.live 1 rows false,.live 1 [ah x] false]).mem [(2,.live 1 (rows.take i++ [ah x]++rows.drop i) false),(0,.dead)]⟩:aD)=bare [.dead,.live 1 [ah x] false,.live 1 (rows.take i++ [ah x]++rows.drop i) false]:=by
      unfold bare
      congr 1
      funext t
      match t with
      |0=>rfl
      |1=>rfl
      |2=>rfl
      |t+3=>simp[bw,aJ]
    have hplace:∀ (k:Nat) (C2:Array Value),n+1≤cap→C2.size=C.size→(∀q,q<n+1→C2[B.o+q]? =(cs.take i++ [Value.int .i64 x]++cs.drop i)[q]?)→
        ∃μ',cF Tryz.prog 0 w W0 L μ' (bare [.dead,.live 1 [ah x] false,.live 1 (rows.take i++ [ah x]++rows.drop i) false]) iM (({w with drawn:=k}:World).setRow B.b C2)∧
        cH (Wr W0 μ' (aJ [.dead,.live 1 [ah x] false,.live 1 (rows.take i++ [ah x]++rows.drop i) false])) μ' (({w with drawn:=k}:World).setRow B.b C2) (.own 2 0 (n+1)) (.slice (some ⟨B.b,B.o,none⟩) (n+1) cap):=by
      intro k C2 hroom hsz hq
      have hre:=(hs.drawn k).reuse (t:=0) (tn:=2) (off:=0) (rows':=rows.take i++ [ah x]++rows.drop i) (C':=C2) rfl hB av rfl c1 hsz hwide (by rw[hlen];omega) (fun q c hc=>by
        obtain⟨v,k1,k2⟩:=hall q c hc
        have hl:q<n+1:=by have:=(aZ hc).1;rw[cU hwide,hlen] at this;omega
        refine⟨v,?_,k2.grow (Grow.drawn k)⟩
        rw[Nat.zero_mul,Nat.add_zero,hq q hl];exact k1)
      rw[hst] at hre
      simp only[Nat.zero_mul,Nat.add_zero] at hre
      exact⟨_,hre,hfin _ _ _ cap C.size e hroom (by simp[World.shape?,setRow_heap ({w with drawn:=k}:World) B.b C C2 e (0,0) c1,hsz]) (by omega)⟩
    by_cases hin:i=n
    · subst hin
      have hlist:cs.take i++ [Value.int .i64 x]++cs.drop i=cs++ [Value.int .i64 x]:=by rw[qV (by omega),List.drop_eq_nil_of_le (by omega),List.append_nil]
      by_cases hroom:i+1≤cap
      · refine(Gg B.b B.o cap i B1.b B1.o vc x C e w c1 (by omega) hroom hx hmany).mono ?_
        rintro e2 w' ⟨rfl,rfl⟩
        obtain⟨C2,s1,s2,s3⟩:=gr B.b e (0,0) [Value.int .i64 x] (B.o+i) C w c1 (by simp;omega)
        obtain⟨μ',g1,g2⟩:=hplace w.drawn C2 hroom s2 (fun q hq=>by
          rw[s3,hlist,List.getElem?_append,hcl]
          by_cases h:q<i
          ·rw[if_neg (by omega),if_pos h,hcg q h]
          ·rw[if_pos (by simp;omega),if_neg h];congr 1;omega)
        rw[s1]
        exact⟨_,μ',rfl,g1,g2⟩
      · have hge:=grownCap_ge w (i+1) cap 3
        have hf:=qm (some ⟨B.b,B.o,none⟩) i cap B1.b B1.o vc x cs w a2 (by omega) hmany hcl (fun h=>by cases h) (fun a ha j v hj=>by
          cases ha
          have hjl:j<i:=by have:=(aZ hj).1;omega
          rw[hcg j hjl] at hj
          rw[Addr.add_lit];simpa[World.cell?,c1] using hj) hx
        obtain⟨g,hg⟩:∃g,grownCap w (i+1) cap 3=g:=⟨_,rfl⟩
        rw[hg] at hf hge
        refine hf.mono ?_
        rintro e2 w' ⟨rfl,rfl⟩
        obtain⟨μ',g1,g2⟩:=hgrown (w.drawn+1) ((cs++ [Value.int .i64 x]).toArray++Builtin.zeroCells (Value.int .i64 0).cells (g- (i+1))) g hge (by
            rw[Array.size_append,mg _ _ rfl];simp[hcl];omega) (fun q c hc=>by
            obtain⟨v,k1,k2⟩:=hall q c hc
            refine⟨v,?_,k2⟩
            rw[hlist] at k1
            have hl:=(aZ k1).1
            rw[s6 _ _ hl]
            exact k1)
        exact⟨_,μ',rfl,g1,g2⟩
    · have hlt :i<n:=by omega
      have hcd:(cs.drop i).length=n-i:=by rw[List.length_drop,hcl]
      by_cases hroom:n+1≤cap
      · refine (A5 B.b B.o cap n i B1.b B1.o vc x cs C e w c1 (by omega) hroom hlt hx hmany hcl (fun j v hj=>by
            have hjl:j<n:=by have:=(aZ hj).1;omega
            rw[hcg j hjl] at hj;exact hj) h1c hne e2 D.size (by simp[World.shape?,d1]) (by simp[World.frozen?,d1]) (by simp[World.frozen?,d1])).mono ?_
        rintro e3 w' ⟨rfl,rfl⟩
        obtain⟨C1,s1,s2,s3⟩:=gr B.b e (0,0) (cs.drop i) (B.o+ (i+1)) C w.drew c1 (by rw[hcd];omega)
        obtain⟨C2,t1,t2,t3⟩:=gr B.b e (0,0) [Value.int .i64 x] (B.o+i) C1 (w.drew.setRow B.b C1) (setRow_heap w.drew B.b C C1 e (0,0) c1) (by simp;omega)
        obtain ⟨μ',g1,g2⟩:=hplace (w.drawn+1) C2 hroom (by rw[t2,s2]) (fun q hq=>by
          rw[t3,qb,gd,hcl,Nat.min_eq_left (by omega)]
          by_cases h:q<i
          ·rw[if_neg (by omega),if_pos h,s3,if_neg (by omega),List.getElem?_take,if_pos h,hcg q (by omega)]
          · rw [if_neg h]
            by_cases h2:q=i
            ·rw[if_pos (by simp;omega),if_pos h2];subst h2;simp
            · rw[if_neg (by simp;omega),if_neg h2,s3,if_pos (by rw[hcd];omega)]
              congr 1;omega)
        rw[s1,t1,setRow_setRow]
        exact⟨_,μ',rfl,g1,g2⟩
      · have hge:=grownCap_ge w (n+1) cap 3
        obtain⟨g,hg⟩:∃g,grownCap w (n+1) cap 3=g:=⟨_,rfl⟩
        have hf:=DE B.b B.o n cap i B1.b B1.o vc x cs w hlt a2 (by omega) hmany hcl (fun j v hj=>by
            have hjl:j<n:=by have:=(aZ hj).1;omega
            rw[hcg j hjl] at hj
            simpa[World.cell?,c1] using hj) hx h1c
        rw[hg] at hf hge
        refine hf.mono ?_
        rintro e3 w' ⟨rfl,rfl⟩
        obtain⟨A,hA⟩:∃A,A=(cs.take i).toArray++Builtin.zeroCells (Value.int .i64 0).cells (n+1-i)++Builtin.zeroCells (Value.int .i64 0).cells (g- (n+1)):=⟨_,rfl⟩
        have hAs:A.size=g:=by rw[hA,Array.size_append,Array.size_append,mg _ _ rfl,mg _ _ rfl];simp[hcl];omega
        rw[←hA,tX]
        obtain⟨C1,s1,s2,s3⟩:=mS w.drew A 3 [Value.int .i64 x] i (by simp;omega)
        have s1':(w.drew.alloc (.cells A 3)).setCells w.heap.size i [Value.int .i64 x]=w.drew.alloc (.cells C1 3):=s1
        rw[s1',tX]
        obtain⟨C2,t1,t2,t3⟩:=mS w.drew.drew C1 3 (cs.drop i) (i+1) (by rw[hcd];omega)
        have t1':(w.drew.drew.alloc (.cells C1 3)).setCells w.heap.size (i+1) (cs.drop i)=w.drew.drew.alloc (.cells C2 3):=t1
        rw[t1']
        obtain ⟨μ',g1,g2⟩:=hgrown (w.drawn+1+1) C2 g hge (by rw[t2,s2,hAs]) (fun q c hc=>by
            obtain⟨v,k1,k2⟩:=hall q c hc
            refine⟨v,?_,k2⟩
            rw[←k1]
            have hl:q<n+1:=by have:=(aZ hc).1;rw[cU hwide,hlen] at this;omega
            rw[t3,qb,gd,hcl,Nat.min_eq_left (by omega)]
            by_cases h:q<i
            ·rw[if_neg (by omega),if_pos h,s3,if_neg (by omega),hA,Array.append_assoc,s6 _ _ (by rw[gd,hcl];omega)]
            · rw[if_neg h]
              by_cases h2:q=i
              ·rw[if_neg (by omega),if_pos h2,s3,if_pos (by simp;omega)];subst h2;simp
              ·rw[if_pos (by rw[hcd];omega),if_neg h2])
        exact⟨_,μ',rfl,g1,g2⟩
end Go.Proofs.Heir
namespace Go.Proofs.Heir
open Go Go.Am Go.RowKit Go.Lib
set_option maxRecDepth 100000

end Go.Proofs.Heir
namespace Go.Proofs.Heir
open Go Go.Am Go.RowKit Go.Lib
set_option maxRecDepth 100000
set_option maxHeartbeats 8000000
set_option maxHeartbeats 2000000
def F5 (l:List AttrM)(s:ByteArray):ByteArray×Bool:=match l.find? (hasName s) with
  |some a=>(a.value,true)
  |none=>(Kc,false)
def wO (n:Int)(s:ByteArray)(t:ByteArray×Bool)(x:aO):Option (ByteArray×Bool):=
  if x.node=n∧x.kind=4∧x.name=s then(if x.old≠t.1∨x.had≠t.2∨(x.had=false∧x.has=false)∨(x.has=false∧x.new≠Kc) then none else some (x.new,x.has)) else some t
def sY (n:Int)(s:ByteArray):ByteArray×Bool→List aO→Option (ByteArray×Bool)
  |t,[]=>some t
  | t,x::r=>match wO n s t x with
    |none=>none
    |some u=>sY n s u r
theorem uJ {n:Int}{s:ByteArray}{t:ByteArray×Bool}:∀ {ns:List aO},(∀x∈ns,x.kind≠4)→sY n s t ns=some t
  |[],_=>rfl
  | x ::r,h=>by
    have e:wO n s t x=some t:=by
      unfold wO
      rw[if_neg fun q=>h x gE q.2.1]
    show(match wO n s t x with|none=>none|some u=>sY n s u r)=_
    rw[e]
    exact uJ fun y hy=>h y (fJ _ hy)
section
variable {l l' : List ai} {m : Int}
end
structure Dp (f:ForM) (r:ForM×List aO×Int):Prop where
  right:bC r.1=true
  len:r.1.nodes.length=f.nodes.length
  fail:r.2.2≠0→r.1=f∧r.2.1=[]
  told:Told f.nodes r.1.nodes r.2.1
  kind:∀x,af f.nodes x=true→(nd r.1.nodes x).kind=(nd f.nodes x).kind
  chain:∀n,af f.nodes n=true→∀t,cm t=true→dQ t=t→sY n t (F5 (nd f.nodes n).attrs t) r.2.1=some (F5 (nd r.1.nodes n).attrs t)
theorem Dp.nil {f:ForM}(h:bC f=true)(e:Int):Dp f (f,[],e):=⟨h,rfl,fun _=>⟨rfl,rfl⟩,.nil _,fun _ _=>rfl,fun _ _ _ _ _=>rfl⟩
section
variable {l : List ai} {m : Int}
theorem Dp.move (R:RF l m){l':List ai}{ns:List aO}(R':RF l' m)(hl:l'.length=l.length)(hs:∀x,af l x=true→iy (nd l' x) (nd l x))(ht:Told l l' ns)(hn:tO ns):Dp ⟨l,m⟩ (⟨l',m⟩,ns,0):=
  ⟨dB.2 R',hl,fun h=>absurd rfl h,ht,fun x hx=>(hs x hx).kind,fun n hn2 t _ _=>by
    rw[uJ hn]
    show some _=some (F5 (nd l' n).attrs t)
    rw[(hs n hn2).attrs]⟩
end
@[reducible] def ei (y : ai) (t : Nat) : AV := .agg [ah y.kind, cn y.name, cn y.is, cn y.data, cO y.attrs, ah y.parent, .own t 0 y.kids.length, ah y.host, ah y.under, ah y.doc]
def dG (y:ai)(t:Nat):AV:=ei y t
def dZ (a ta b tb i:Nat)(y:ai):AV:=if i=a then dG y ta else if i=b then dG y tb else bM y
def aR (l:List ai)(a ta b tb:Nat):List AV:=l.mapIdx fun i y=>dZ a ta b tb i y
@[reducible] def aV (l : List ai) (a ta b tb : Nat) : MS := .live 10 (aR l a ta b tb) false
section
variable {l : List ai} {a ta b tb i : Nat} {y : ai}
theorem ck:(aR l a ta b tb).length=l.length:=List.length_mapIdx ..
theorem cQ (h:l[i]? =some y):(aR l a ta b tb)[i]? =some (dZ a ta b tb i y):=by
  unfold aR
  rw[List.getElem?_mapIdx,h];rfl
theorem qD (y:ai)(h:i<l.length):(aR l a ta b tb).set i (dZ a ta b tb i y)=aR (l.set i y) a ta b tb:=by
  apply List.ext_getElem?
  intro j
  unfold aR
  rw[List.getElem?_set,List.getElem?_mapIdx,List.getElem?_mapIdx,List.getElem?_set,List.length_mapIdx]
  by_cases e:i=j
  · subst e
    rw[if_pos rfl,if_pos rfl,if_pos h,if_pos h];rfl
  ·rw[if_neg e,if_neg e]
theorem c8 (ha:i≠a)(hb:i≠b):dZ a ta b tb i y=aG y:=by unfold dZ;rw[if_neg ha,if_neg hb];rfl
theorem Eb:dZ a ta b tb a y=ei y ta:=by unfold dZ;rw[if_pos rfl];rfl
theorem Em (h:b≠a):dZ a ta b tb b y=ei y tb:=by unfold dZ;rw[if_neg h,if_pos rfl];rfl
theorem Ag:(cells (dZ a ta b tb i y)).length=10:=by
  unfold dZ
  split
  ·rfl
  ·split<;>rfl
theorem lT:bS 10 (aR l a ta b tb):=bS.jj fun x hx=>by
  obtain⟨j,hj⟩:=List.getElem?_of_mem hx
  unfold aR at hj
  rw[List.getElem?_mapIdx] at hj
  cases e:l[j]? with
  |none=>rw[e] at hj;cases hj
  |some z=>rw[e] at hj;cases hj;exact Ag
theorem lB {j:Nat}{x:AV}(h:(aR l a ta b tb)[j]? =some x):∃z,l[j]? =some z∧x=dZ a ta b tb j z:=by
  unfold aR at h
  rw[List.getElem?_mapIdx] at h
  cases e:l[j]? with
  |none=>rw[e] at h;cases h
  |some z=>rw[e] at h;cases h;exact⟨z,rfl,rfl⟩
end
section
variable {m : ML} {fz : Nat → Bool} {tab : List (Nat × Nat)} {l : List ai} {a ta b tb t n : Nat}
theorem kE (x:ai):bG (bM x)=true:=by
  show bG (.agg [ah x.kind,cn x.name,cn x.is,cn x.data,cO x.attrs,ah x.parent,bY x.kids,ah x.host,ah x.under,ah x.doc])=true
  rfl
theorem Gn {cs ex:List Int}{ro:Bool}(h1:eM m t=.live 1 ((cs++ex).map bJ) ro)(h2:fz t=true):xq m fz (MF tab fz m n) (bY cs) t 0 cs.length:=
  .cut h1 h2 (by simp) (by rw[List.drop_zero,gm,List.take_append_of_le_length (by simp),qV (by simp)]) (aa cs)
theorem tw {ro ra rb:Bool}{ea eb:List Int}{k:Nat}(hm:eM m t=.live 10 (aR l a ta b tb) ro)(hf:fz t=true)(ha:∀y,l[a]? =some y→eM m ta=.live 1 ((y.kids++ea).map bJ) ra∧fz ta=true)(hb:∀y,l[b]? =some y→eM m tb=.live 1 ((y.kids++eb).map bJ) rb∧fz tb=true):xq m fz (MF tab fz m (k+2)) (oU l) t 0 l.length:=by
  have hk:∀ (u:Nat) (e:List Int) (r:Bool) (y:ai),eM m u=.live 1 ((y.kids++e).map bJ) r→fz u=true→MF tab fz m (k+2) (bM y) (dG y u):=fun u e r y q1 q2=>
    ⟨rfl,rfl,rfl,rfl,jt _ _ rfl,rfl,Gn q1 q2,rfl,rfl,rfl,trivial⟩
  refine⟨10,_,ro,l.map bM,hm,hf,rfl,by rw[ck];omega,gJ bM kE l,by rw[List.drop_zero,qV (by rw[ck];omega),ck,bP],fun i x z hx hz=>?_⟩
  rw[List.drop_zero,qV (by rw[ck];omega)] at hz
  obtain⟨y,hy,rfl⟩:=lB hz
  rw[fZ,hy] at hx
  cases hx
  show MF tab fz m (k+2) (bM y) (dZ a ta b tb i y)
  unfold dZ
  by_cases e:i=a
  · rw[if_pos e]
    subst e
    exact hk ta ea ra y (ha y hy).1 (ha y hy).2
  · rw [if_neg e]
    by_cases c:i=b
    · rw[if_pos c]
      subst c
      exact hk tb eb rb y (hb y hy).1 (hb y hy).2
    ·rw[if_neg c];exact jt _ _ (kE y)
end
theorem zQ {R:AV→AV→Prop}:∀ {a b:List AV},gj R a b→yd R a b
  |[],[],_=>trivial
  |x::a,y::b,h=>⟨h.2 0 x y rfl rfl,zQ ⟨by have:=h.1;simpa using this,fun i p q h1 h2=>h.2 (i+1) p q (by simpa using h1) (by simpa using h2)⟩⟩
  |[],_::_,h=>by have:=h.1;simp at this
  |_::_,[],h=>by have:=h.1;simp at this
theorem qL {w:Nat}:∀ {a b:List AV},a.length=b.length→bS w a→bS w b→oz a b=true
  |[],[],_,_,_=>rfl
  | x ::a,y::b,hl,ha,hb=>by
    have e:rZ (fu (dx x)) (fu (dx y))=true:=by
      rw[eF,cW,cW,fE,fE,ha.tail.1,hb.tail.1]
      exact Nat.beq_refl _
    simp only[oz,e]
    exact qL (by simpa using hl) ha.tail.2 hb.tail.2
  |[],_::_,hl,_,_=>by simp at hl
  |_::_,[],hl,_,_=>by simp at hl
theorem CD {f:AV→AV}:∀ {a b:List AV},a.length=b.length→(∀ (i:Nat) x y,a[i]? =some x→b[i]? =some y→x=f y)→a=eC f b
  |[],[],_,_=>rfl
  | x::a,y::b,hl,h=>by
    show x::a=f y::eC f b
    rw[←h 0 x y rfl rfl,←CD (by simpa using hl) fun i p q h1 h2=>h (i+1) p q (by simpa using h1) (by simpa using h2)]
  |[],_::_,hl,_=>by simp at hl
  |_::_,[],hl,_=>by simp at hl
theorem Cu {p:AV→Bool}:∀ {a:List AV},(∀x∈a,p x=true)→jo p a=true
  |[],_=>rfl
  | x::a,h=>by
    simp only[jo,h x gE]
    exact Cu fun y hy=>h y (fJ _ hy)
section
variable {l : List ai} {a ta b tb ta0 tb0 n : Nat} {names : List Nat}
theorem Dc (h1:iE names ta0=some ta)(h2:iE names tb0=some tb):aR l a ta b tb=eC (oN names 12) (aR l a ta0 b tb0):=by
  refine CD (by rw[ck,ck]) fun i x y hx hy=>?_
  obtain⟨z,hz,rfl⟩:=lB hx
  obtain⟨z2,hz2,rfl⟩:=lB hy
  rw[hz] at hz2;cases hz2
  have key:∀u u0:Nat,iE names u0=some u→dG z u=oN names 12 (dG z u0):=fun u u0 h=>by
    show ei z u=oN names 12 (ei z u0)
    simp only[ei,oN,eC,h]
  unfold dZ
  split
  ·exact key _ _ h1
  · split
    ·exact key _ _ h2
    ·rfl
theorem FR (h1:ta<n)(h2:tb<n):jo (zA 12 n) (aR l a ta b tb)=true:=by
  refine Cu fun x hx=>?_
  obtain⟨j,hj⟩:=List.getElem?_of_mem hx
  obtain⟨z,_,rfl⟩:=lB hj
  have key:∀u:Nat,u<n→zA 12 n (dG z u)=true:=fun u h=>by
    have hb:Nat.ble (u+1) n=true:=by rw[Nat.ble_eq];exact h
    show zA 12 n (ei z u)=true
    simp[ei,zA,jo,bG,hb]
  unfold dZ
  split
  ·exact key _ h1
  · split
    ·exact key _ h2
    · show zA 12 n (aG z)=true
      simp[zA,jo,bG]
end
end Go.Proofs.Heir
namespace Go.Proofs.Heir
open Go Go.Am Go.RowKit Go.Lib
set_option maxRecDepth 100000
set_option maxHeartbeats 8000000
section
variable {l : List ai} {a b ta tb : Nat} {y : ai}
theorem At:aR l l.length ta l.length tb=l.map bM:=by
  apply List.ext_getElem?
  intro i
  unfold aR
  rw[List.getElem?_mapIdx,fZ]
  cases h:l[i]? with
  |none=>rfl
  | some y=>
    have:=(aZ h).1
    show some (dZ l.length ta l.length tb i y)=some (bM y)
    unfold dZ
    rw[if_neg (by omega),if_neg (by omega)]
theorem gP {a' b':Nat}{x:AV}{k:Nat}(h:∀i z,l[i]? =some z→dZ a ta b tb i z=if i=k then x else dZ a' ta b' tb i z):(aR l a' ta b' tb).set (0+k) x=aR l a ta b tb:=by
  apply List.ext_getElem?
  intro j
  unfold aR
  rw[Nat.zero_add,List.getElem?_set,List.getElem?_mapIdx,List.getElem?_mapIdx,List.length_mapIdx]
  cases e:l[j]? with
  | none=>
    have:¬k<l.length∨k≠j:=by
      by_cases c:k=j
      ·subst c;left;rw[List.getElem?_eq_none_iff] at e;omega
      ·exact .inr c
    rcases this with c|c
    · by_cases d:k=j
      ·rw[if_pos d,if_neg c];rfl
      ·rw[if_neg d];rfl
    ·rw[if_neg c];rfl
  | some z=>
    have:=(aZ e).1
    show _=some (dZ a ta b tb j z)
    rw[h j z e]
    by_cases d:k=j
    ·subst d;rw[if_pos rfl,if_pos this,if_pos rfl]
    ·rw[if_neg d,if_neg (fun q=>d q.symm)];rfl
theorem bF {m:ML}{fz:Nat→Bool}{tab:List (Nat×Nat)}{ta' tb' k:Nat}(h1:a<l.length→o4 tab ta'=some ta)(h2:b<l.length→o4 tab tb'=some tb):gj (MF tab fz m (k+2)) (aR l a ta' b tb') (aR l a ta b tb):=
  ⟨by rw[ck,ck],fun i x z hx hz=>by
    obtain⟨y,hy,rfl⟩:=lB hx
    obtain⟨y2,hy2,rfl⟩:=lB hz
    rw[hy] at hy2;cases hy2
    have hi:=(aZ hy).1
    have key:∀u u':Nat,o4 tab u'=some u→MF tab fz m (k+2) (dG y u') (dG y u):=fun u u' h=>by
      have hw:MF tab fz m (k+1) (.own u' 0 y.kids.length) (.own u 0 y.kids.length):=by simp[MF,h]
      exact⟨rfl,rfl,rfl,rfl,jt _ _ rfl,rfl,hw,rfl,rfl,rfl,trivial⟩
    unfold dZ
    by_cases e:i=a
    ·rw[if_pos e,if_pos e];exact key _ _ (h1 (e▸hi))
    · rw[if_neg e,if_neg e]
      by_cases c:i=b
      ·rw[if_pos c,if_pos c];exact key _ _ (h2 (c▸hi))
      ·rw[if_neg c,if_neg c];exact jt _ _ (kE y)⟩
end
@[reducible] def aF (l : List Int) : MS := .live 1 (l.map bJ) false
theorem mR (l:List Int):jT [aF l]:=⟨bS.jj fun x hx=>by
  obtain⟨a,_,rfl⟩:=List.mem_map.1 hx;rfl,aa l,trivial⟩
theorem BO (l:List Int)(hl:l.length≤100000):aj Tryz.prog 72 [] [bY l] [aF l] (.own 0 0 l.length):=by
  have hlm:(l.map bJ).length=l.length:=bP ..
  refine aj.aA (rvs:=[.tmp 2]) G ak Tryz.func72 rfl Tryz.ntmps72 rfl rfl ?_;with_reducible refine wD ?_
  refine nD.mk (fun h=>?_) (fun _=>?_)<;>with_reducible refine wK ?_
  · obtain rfl:l=[]:=by simpa using h
    (refine eK ?_ ?_<;>with_reducible repeat' (first|exact trivial|(show _∧_;refine aK ?_ ?_)))
    all_goals first|rfl|trivial
  · refine dO.mk [] (l.map bJ) ⟨rfl,rfl,rfl⟩ ⟨rfl,rfl,rfl⟩ (kX bJ (fun _=>rfl) l) (by simp;omega) (by simp;omega) ?_;with_reducible refine wK ?_
    (refine eK ?_ ?_<;>with_reducible repeat' (first|exact trivial|(show _∧_;refine aK ?_ ?_)))
    ·exact hlm.symm
    ·exact cq (aa l)
@[reducible] def Lq (m : Int) (l : List ai) (a b : Nat) (ka kb : List Int) : Bool → Bool → ML
  |false,false=>[(120,aT m l.length 74 (.own 93 0 0)),(93,.live 9 [] false),(74,aV l l.length 81 l.length 91)]
  |true,false=>[(120,aT m l.length 74 (.own 93 0 0)),(93,.live 9 [] false),(81,aF ka),(74,aV l a 81 l.length 91)]
  |false,true=>[(120,aT m l.length 74 (.own 93 0 0)),(93,.live 9 [] false),(91,aF kb),(74,aV l l.length 81 b 91)]
  |true,true=>[(120,aT m l.length 74 (.own 93 0 0)),(93,.live 9 [] false),(81,aF ka),(91,aF kb),(74,aV l a 81 b 91)]
theorem I7 (f:ForM)(hs:bq f.nodes){a b:Nat}{ya yb:ai}(hab:a≠b)(ha:f.nodes[a]? =some ya)(hb:f.nodes[b]? =some yb):
    aj Tryz.prog 121 [] [aN f] [aT f.most f.nodes.length 4 (.own 3 0 0),aF ya.kids,aF yb.kids,.live 9 [] false,aV f.nodes a 1 b 2] (.ptr 0 0 0):=by
  have h137:=sS f.nodes (by have:=hs.len;omega)
  have h60:=hs.len
  have hv:∀ (k:Nat) (y:ai),f.nodes[k]? =some y→aj Tryz.prog 72 [] [bY y.kids] [] (bY y.kids):=fun k y hy=>EM y.kids (by have:=hs.kids y (bV hy);omega)
  have ho:∀ (k:Nat) (y:ai),f.nodes[k]? =some y→aj Tryz.prog 72 [] [bY y.kids] [aF y.kids] (.own 0 0 y.kids.length):=fun k y hy=>BO y.kids (by have:=hs.kids y (bV hy);omega)
  have hlm:(f.nodes.map bM).length=f.nodes.length:=bP ..
  obtain⟨l,m⟩:=f
  simp only at h137 h60 hv ho hlm ha hb
  have hal:=(aZ ha).1
  have hbl:=(aZ hb).1
  refine aj.fW [(1,81),(2,91),(3,93)] (rvs:=[.tmp 2]) G ak Tryz.func121 rfl Tryz.ntmps121 rfl rfl ?_;with_reducible refine wD ?_
  repeat' (first
    |refine gK ?_
    | ((first
      |((with_reducible show ae _ _ 137 _ _ _ _);refine ae.new 71 [] h137 Jp ⟨rfl,trivial⟩ rfl rfl rfl (oB l) rfl ?_)
      |((with_reducible show aB _ _ _ _);refine dK ?_))<;>with_reducible refine wK ?_)
    |((with_reducible show(_∧_)∧_∧_);(refine eK ?_ ?_<;>with_reducible repeat' (first|exact trivial|(show _∧_;refine aK ?_ ?_)))))
  refine bE.j4 3 120 93 9 0 2 (.agg [.own 71 0 l.length,ah m,.lit (.slice none 0 0)]) (.agg [.own 71 0 l.length,ah m,.own 93 0 0]) rfl rfl rfl rfl rfl rfl ?_
  show bE _ _ _ _ [(10,_),(71,ef l),(120,aT m l.length 71 (.own 93 0 0)),(93,.live 9 [] false)]
  refine bE.use G ak (fun(s:Nat×Bool×Bool)=>[(3,.ptr 120 0 0),(18,ah l.length),(19,ah s.1)])
    (fun s=>Lq m l a b ya.kids yb.kids s.2.1 s.2.2)
    (fun s=>s.1≤l.length∧s.2.1=decide (a<s.1)∧s.2.2=decide (b<s.1)) (fun s=>l.length-s.1) (0,false,false) ⟨Nat.zero_le _,by simp,by simp⟩ ?_ ?_
  · (refine fK ?_;(with_reducible repeat' (first|exact trivial|(show _∧_;refine aK ?_ ?_)));(all_goals try rfl))
    all_goals first
      |(refine cast (congrArg (fun x=>gj _ x _) (At (l:=l) (ta:=81) (tb:=91)).symm) ?_;exact .refl (aQ _))
      |exact .inl rfl
      |exact⟨.refl rfl,rfl⟩
      |trace_state
  rintro⟨k,da,db⟩ ⟨hk,hda,hdb⟩
  dsimp only at hk hda hdb
  cases da<;>cases db
  · have ha' : k≤a:=by simpa using hda
    have hb':k≤b:=by simpa using hdb
    with_reducible show tP _ _ _ _ _ _ [(120,aT m l.length 74 (.own 93 0 0)),(93,.live 9 [] false),(74,aV l l.length 81 l.length 91)] _
    with_reducible refine wK ?_
    refine aM.mk (fun h1=>?_) (fun h1=>?_)<;>(try simp only[aq] at h1)<;>with_reducible refine wK ?_
    · have hkl:k<l.length:=by simp only[aP,aq] at h1;omega
      by_cases ea:k=a
      · subst ea
        have hc:=ho k ya ha
        have hr:(aR l l.length 81 l.length 91).set (0+k) (dG ya 81)=aR l k 81 l.length 91:=gP fun i z hz=>by
          have:=(aZ hz).1
          by_cases e:i=k
          ·subst e;rw[ha] at hz;cases hz;unfold dZ;simp<;>omega
          · unfold dZ;rw[if_neg e];repeat' split
            all_goals first|rfl|omega
        have hg:(aR l l.length 81 l.length 91)[k]? =some (aG ya):=by rw[cQ ha,c8 (by omega) (by omega)]
        obtain⟨y1,y2,y3,y4,y5,y6,y7,y8,y9,y10⟩:=ya
        simp only at hc
        repeat' (first
    |refine gK ?_
    | ((first
      |((with_reducible show fM _ _ _ _ _);refine fM.mk k rfl (by first|exact hkl|(rw[ck];exact hkl)) ?_)
      |((with_reducible show bu _ _ _ _ _);first|refine bu.mk (aG ⟨y1,y2,y3,y4,y5,y6,y7,y8,y9,y10⟩) (by first|exact hg|(rw[Nat.zero_add];exact hg)) ?_|refine bu.mk _ rfl ?_)
      |((with_reducible show ae _ _ 72 _ _ _ _);refine ae.new 81 [] hc Gs ⟨rfl,trivial⟩ rfl rfl rfl (mR _) rfl ?_)
      |((with_reducible show aB _ _ _ _);refine dK ?_))<;>with_reducible refine wK ?_)
    | ((with_reducible show(_∧_)∧_∧_);(refine eK ?_ ?_<;>with_reducible repeat' (first|exact trivial|(show _∧_;refine aK ?_ ?_)))))
        refine aW.mk (k+1,true,false) ⟨by dsimp only;omega,by dsimp only;first|(simp;done)|(simp;omega),by dsimp only;first|(simp;done)|(simp;omega)⟩ (by dsimp only;omega) ?_
        (refine fK ?_;(with_reducible repeat' (first|exact trivial|(show _∧_;refine aK ?_ ?_)));(all_goals try rfl))
        all_goals first
          |(refine cast (congrArg (gj _ _) hr.symm) ?_;exact bF (fun h=>by first|(exfalso;omega)|rfl) (fun h=>by first|(exfalso;omega)|rfl))
          |exact .inl rfl
          |exact⟨.refl rfl,rfl⟩
          |exact⟨.refl (aa _),aa _⟩
          |(simp;done)
          |trace_state
      · skip
        by_cases eb:k=b
        · subst eb
          have hc:=ho k yb hb
          have hr:(aR l l.length 81 l.length 91).set (0+k) (dG yb 91)=aR l l.length 81 k 91:=gP fun i z hz=>by
            have:=(aZ hz).1
            by_cases e:i=k
            ·subst e;rw[hb] at hz;cases hz;unfold dZ;simp<;>omega
            · unfold dZ;rw[if_neg e];repeat' split
              all_goals first|rfl|omega
          have hg:(aR l l.length 81 l.length 91)[k]? =some (aG yb):=by rw[cQ hb,c8 (by omega) (by omega)]
          obtain⟨y1,y2,y3,y4,y5,y6,y7,y8,y9,y10⟩:=yb
          simp only at hc
          repeat' (first
    |refine gK ?_
    | ((first
      |((with_reducible show fM _ _ _ _ _);refine fM.mk k rfl (by first|exact hkl|(rw[ck];exact hkl)) ?_)
      |((with_reducible show bu _ _ _ _ _);first|refine bu.mk (aG ⟨y1,y2,y3,y4,y5,y6,y7,y8,y9,y10⟩) (by first|exact hg|(rw[Nat.zero_add];exact hg)) ?_|refine bu.mk _ rfl ?_)
      |((with_reducible show ae _ _ 72 _ _ _ _);refine ae.new 91 [] hc Gs ⟨rfl,trivial⟩ rfl rfl rfl (mR _) rfl ?_)
      |((with_reducible show aB _ _ _ _);refine dK ?_))<;>with_reducible refine wK ?_)
    | ((with_reducible show(_∧_)∧_∧_);(refine eK ?_ ?_<;>with_reducible repeat' (first|exact trivial|(show _∧_;refine aK ?_ ?_)))))
          refine aW.mk (k+1,false,true) ⟨by dsimp only;omega,by dsimp only;first|(simp;done)|(simp;omega),by dsimp only;first|(simp;done)|(simp;omega)⟩ (by dsimp only;omega) ?_
          (refine fK ?_;(with_reducible repeat' (first|exact trivial|(show _∧_;refine aK ?_ ?_)));(all_goals try rfl))
          all_goals first
            |(refine cast (congrArg (gj _ _) hr.symm) ?_;exact bF (fun h=>by first|(exfalso;omega)|rfl) (fun h=>by first|(exfalso;omega)|rfl))
            |exact .inl rfl
            |exact⟨.refl rfl,rfl⟩
            |exact⟨.refl (aa _),aa _⟩
            |(simp;done)
            |trace_state
        · skip
          obtain⟨y,hy⟩:∃y,l[k]? =some y:=⟨_,bH hkl⟩
          have hc:=hv k y hy
          have hr:(aR l l.length 81 l.length 91).set (0+k) (bM y)=aR l l.length 81 l.length 91:=gP fun i z hz=>by
            have:=(aZ hz).1
            by_cases e:i=k
            ·subst e;rw[hy] at hz;cases hz;rw[if_pos rfl,c8 (by omega) (by omega)];rfl
            ·rw[if_neg e]
          have hg:(aR l l.length 81 l.length 91)[k]? =some (aG y):=by rw[cQ hy,c8 (by omega) (by omega)]
          obtain⟨y1,y2,y3,y4,y5,y6,y7,y8,y9,y10⟩:=y
          simp only at hc
          repeat' (first
    |refine gK ?_
    | ((first
      |((with_reducible show fM _ _ _ _ _);refine fM.mk k rfl (by first|exact hkl|(rw[ck];exact hkl)) ?_)
      |((with_reducible show bu _ _ _ _ _);first|refine bu.mk (aG ⟨y1,y2,y3,y4,y5,y6,y7,y8,y9,y10⟩) (by first|exact hg|(rw[Nat.zero_add];exact hg)) ?_|refine bu.mk _ rfl ?_)
      |((with_reducible show ae _ _ 72 _ _ _ _);refine ae.val [] hc Gs ⟨rfl,trivial⟩ rfl rfl rfl ?_)
      |((with_reducible show aB _ _ _ _);refine dK ?_))<;>with_reducible refine wK ?_)
    |((with_reducible show(_∧_)∧_∧_);(refine eK ?_ ?_<;>with_reducible repeat' (first|exact trivial|(show _∧_;refine aK ?_ ?_)))))
          refine aW.mk (k+1,false,false) ⟨by dsimp only;omega,by dsimp only;first|(simp;done)|(simp;omega),by dsimp only;first|(simp;done)|(simp;omega)⟩ (by dsimp only;omega) ?_
          (refine fK ?_;(with_reducible repeat' (first|exact trivial|(show _∧_;refine aK ?_ ?_)));(all_goals try rfl))
          all_goals first
            |(refine cast (congrArg (gj _ _) hr.symm) ?_;exact bF (fun h=>by first|(exfalso;omega)|rfl) (fun h=>by first|(exfalso;omega)|rfl))
            |exact .inl rfl
            |exact⟨.refl rfl,rfl⟩
            |exact⟨.refl (aa _),aa _⟩
            |(simp;done)
            |trace_state
    · have hjl:k=l.length:=by simp only[cj,aq] at h1;omega
      exfalso;omega
  · have ha' :k≤a:=by simpa using hda
    have hb':b<k:=by simpa using hdb
    with_reducible show tP _ _ _ _ _ _ [(120,aT m l.length 74 (.own 93 0 0)),(93,.live 9 [] false),(91,aF yb.kids),(74,aV l l.length 81 b 91)] _
    with_reducible refine wK ?_
    refine aM.mk (fun h1=>?_) (fun h1=>?_)<;>(try simp only[aq] at h1)<;>with_reducible refine wK ?_
    · have hkl:k<l.length:=by simp only[aP,aq] at h1;omega
      by_cases ea:k=a
      · subst ea
        have hc:=ho k ya ha
        have hr:(aR l l.length 81 b 91).set (0+k) (dG ya 81)=aR l k 81 b 91:=gP fun i z hz=>by
          have:=(aZ hz).1
          by_cases e:i=k
          ·subst e;rw[ha] at hz;cases hz;unfold dZ;simp<;>omega
          · unfold dZ;rw[if_neg e];repeat' split
            all_goals first|rfl|omega
        have hg:(aR l l.length 81 b 91)[k]? =some (aG ya):=by rw[cQ ha,c8 (by omega) (by omega)]
        obtain⟨y1,y2,y3,y4,y5,y6,y7,y8,y9,y10⟩:=ya
        simp only at hc
        repeat' (first
    |refine gK ?_
    | ((first
      |((with_reducible show fM _ _ _ _ _);refine fM.mk k rfl (by first|exact hkl|(rw[ck];exact hkl)) ?_)
      |((with_reducible show bu _ _ _ _ _);first|refine bu.mk (aG ⟨y1,y2,y3,y4,y5,y6,y7,y8,y9,y10⟩) (by first|exact hg|(rw[Nat.zero_add];exact hg)) ?_|refine bu.mk _ rfl ?_)
      |((with_reducible show ae _ _ 72 _ _ _ _);refine ae.new 81 [] hc Gs ⟨rfl,trivial⟩ rfl rfl rfl (mR _) rfl ?_)
      |((with_reducible show aB _ _ _ _);refine dK ?_))<;>with_reducible refine wK ?_)
    | ((with_reducible show(_∧_)∧_∧_);(refine eK ?_ ?_<;>with_reducible repeat' (first|exact trivial|(show _∧_;refine aK ?_ ?_)))))
        refine aW.mk (k+1,true,true) ⟨by dsimp only;omega,by dsimp only;first|(simp;done)|(simp;omega),by dsimp only;first|(simp;done)|(simp;omega)⟩ (by dsimp only;omega) ?_
        (refine fK ?_;(with_reducible repeat' (first|exact trivial|(show _∧_;refine aK ?_ ?_)));(all_goals try rfl))
        all_goals first
          |(refine cast (congrArg (gj _ _) hr.symm) ?_;exact bF (fun h=>by first|(exfalso;omega)|rfl) (fun h=>by first|(exfalso;omega)|rfl))
          |exact .inl rfl
          |exact⟨.refl rfl,rfl⟩
          |exact⟨.refl (aa _),aa _⟩
          |(simp;done)
          |trace_state
      · skip
        obtain⟨y,hy⟩:∃y,l[k]? =some y:=⟨_,bH hkl⟩
        have hc:=hv k y hy
        have hr:(aR l l.length 81 b 91).set (0+k) (bM y)=aR l l.length 81 b 91:=gP fun i z hz=>by
          have:=(aZ hz).1
          by_cases e:i=k
          ·subst e;rw[hy] at hz;cases hz;rw[if_pos rfl,c8 (by omega) (by omega)];rfl
          ·rw[if_neg e]
        have hg:(aR l l.length 81 b 91)[k]? =some (aG y):=by rw[cQ hy,c8 (by omega) (by omega)]
        obtain⟨y1,y2,y3,y4,y5,y6,y7,y8,y9,y10⟩:=y
        simp only at hc
        repeat' (first
    |refine gK ?_
    | ((first
      |((with_reducible show fM _ _ _ _ _);refine fM.mk k rfl (by first|exact hkl|(rw[ck];exact hkl)) ?_)
      |((with_reducible show bu _ _ _ _ _);first|refine bu.mk (aG ⟨y1,y2,y3,y4,y5,y6,y7,y8,y9,y10⟩) (by first|exact hg|(rw[Nat.zero_add];exact hg)) ?_|refine bu.mk _ rfl ?_)
      |((with_reducible show ae _ _ 72 _ _ _ _);refine ae.val [] hc Gs ⟨rfl,trivial⟩ rfl rfl rfl ?_)
      |((with_reducible show aB _ _ _ _);refine dK ?_))<;>with_reducible refine wK ?_)
    | ((with_reducible show(_∧_)∧_∧_);(refine eK ?_ ?_<;>with_reducible repeat' (first|exact trivial|(show _∧_;refine aK ?_ ?_)))))
        refine aW.mk (k+1,false,true) ⟨by dsimp only;omega,by dsimp only;first|(simp;done)|(simp;omega),by dsimp only;first|(simp;done)|(simp;omega)⟩ (by dsimp only;omega) ?_
        (refine fK ?_;(with_reducible repeat' (first|exact trivial|(show _∧_;refine aK ?_ ?_)));(all_goals try rfl))
        all_goals first
          |(refine cast (congrArg (gj _ _) hr.symm) ?_;exact bF (fun h=>by first|(exfalso;omega)|rfl) (fun h=>by first|(exfalso;omega)|rfl))
          |exact .inl rfl
          |exact⟨.refl rfl,rfl⟩
          |exact⟨.refl (aa _),aa _⟩
          |(simp;done)
          |trace_state
    · have hjl:k=l.length:=by simp only[cj,aq] at h1;omega
      exfalso;omega
  · have ha' :a<k:=by simpa using hda
    have hb':k≤b:=by simpa using hdb
    with_reducible show tP _ _ _ _ _ _ [(120,aT m l.length 74 (.own 93 0 0)),(93,.live 9 [] false),(81,aF ya.kids),(74,aV l a 81 l.length 91)] _
    with_reducible refine wK ?_
    refine aM.mk (fun h1=>?_) (fun h1=>?_)<;>(try simp only[aq] at h1)<;>with_reducible refine wK ?_
    · have hkl:k<l.length:=by simp only[aP,aq] at h1;omega
      by_cases eb:k=b
      · subst eb
        have hc:=ho k yb hb
        have hr:(aR l a 81 l.length 91).set (0+k) (dG yb 91)=aR l a 81 k 91:=gP fun i z hz=>by
          have:=(aZ hz).1
          by_cases e:i=k
          ·subst e;rw[hb] at hz;cases hz;unfold dZ;simp<;>omega
          · unfold dZ;rw[if_neg e];repeat' split
            all_goals first|rfl|omega
        have hg:(aR l a 81 l.length 91)[k]? =some (aG yb):=by rw[cQ hb,c8 (by omega) (by omega)]
        obtain⟨y1,y2,y3,y4,y5,y6,y7,y8,y9,y10⟩:=yb
        simp only at hc
        repeat' (first
    |refine gK ?_
    | ((first
      |((with_reducible show fM _ _ _ _ _);refine fM.mk k rfl (by first|exact hkl|(rw[ck];exact hkl)) ?_)
      |((with_reducible show bu _ _ _ _ _);first|refine bu.mk (aG ⟨y1,y2,y3,y4,y5,y6,y7,y8,y9,y10⟩) (by first|exact hg|(rw[Nat.zero_add];exact hg)) ?_|refine bu.mk _ rfl ?_)
      |((with_reducible show ae _ _ 72 _ _ _ _);refine ae.new 91 [] hc Gs ⟨rfl,trivial⟩ rfl rfl rfl (mR _) rfl ?_)
      |((with_reducible show aB _ _ _ _);refine dK ?_))<;>with_reducible refine wK ?_)
    | ((with_reducible show(_∧_)∧_∧_);(refine eK ?_ ?_<;>with_reducible repeat' (first|exact trivial|(show _∧_;refine aK ?_ ?_)))))
        refine aW.mk (k+1,true,true) ⟨by dsimp only;omega,by dsimp only;first|(simp;done)|(simp;omega),by dsimp only;first|(simp;done)|(simp;omega)⟩ (by dsimp only;omega) ?_
        (refine fK ?_;(with_reducible repeat' (first|exact trivial|(show _∧_;refine aK ?_ ?_)));(all_goals try rfl))
        all_goals first
          |(refine cast (congrArg (gj _ _) hr.symm) ?_;exact bF (fun h=>by first|(exfalso;omega)|rfl) (fun h=>by first|(exfalso;omega)|rfl))
          |exact .inl rfl
          |exact⟨.refl rfl,rfl⟩
          |exact⟨.refl (aa _),aa _⟩
          |(simp;done)
          |trace_state
      · skip
        obtain⟨y,hy⟩:∃y,l[k]? =some y:=⟨_,bH hkl⟩
        have hc:=hv k y hy
        have hr:(aR l a 81 l.length 91).set (0+k) (bM y)=aR l a 81 l.length 91:=gP fun i z hz=>by
          have:=(aZ hz).1
          by_cases e:i=k
          ·subst e;rw[hy] at hz;cases hz;rw[if_pos rfl,c8 (by omega) (by omega)];rfl
          ·rw[if_neg e]
        have hg:(aR l a 81 l.length 91)[k]? =some (aG y):=by rw[cQ hy,c8 (by omega) (by omega)]
        obtain⟨y1,y2,y3,y4,y5,y6,y7,y8,y9,y10⟩:=y
        simp only at hc
        repeat' (first
    |refine gK ?_
    | ((first
      |((with_reducible show fM _ _ _ _ _);refine fM.mk k rfl (by first|exact hkl|(rw[ck];exact hkl)) ?_)
      |((with_reducible show bu _ _ _ _ _);first|refine bu.mk (aG ⟨y1,y2,y3,y4,y5,y6,y7,y8,y9,y10⟩) (by first|exact hg|(rw[Nat.zero_add];exact hg)) ?_|refine bu.mk _ rfl ?_)
      |((with_reducible show ae _ _ 72 _ _ _ _);refine ae.val [] hc Gs ⟨rfl,trivial⟩ rfl rfl rfl ?_)
      |((with_reducible show aB _ _ _ _);refine dK ?_))<;>with_reducible refine wK ?_)
    | ((with_reducible show(_∧_)∧_∧_);(refine eK ?_ ?_<;>with_reducible repeat' (first|exact trivial|(show _∧_;refine aK ?_ ?_)))))
        refine aW.mk (k+1,true,false) ⟨by dsimp only;omega,by dsimp only;first|(simp;done)|(simp;omega),by dsimp only;first|(simp;done)|(simp;omega)⟩ (by dsimp only;omega) ?_
        (refine fK ?_;(with_reducible repeat' (first|exact trivial|(show _∧_;refine aK ?_ ?_)));(all_goals try rfl))
        all_goals first
          |(refine cast (congrArg (gj _ _) hr.symm) ?_;exact bF (fun h=>by first|(exfalso;omega)|rfl) (fun h=>by first|(exfalso;omega)|rfl))
          |exact .inl rfl
          |exact⟨.refl rfl,rfl⟩
          |exact⟨.refl (aa _),aa _⟩
          |(simp;done)
          |trace_state
    · have hjl:k=l.length:=by simp only[cj,aq] at h1;omega
      exfalso;omega
  · have ha':a<k:=by simpa using hda
    have hb':b<k:=by simpa using hdb
    with_reducible show tP _ _ _ _ _ _ [(120,aT m l.length 74 (.own 93 0 0)),(93,.live 9 [] false),(81,aF ya.kids),(91,aF yb.kids),(74,aV l a 81 b 91)] _
    with_reducible refine wK ?_
    refine aM.mk (fun h1=>?_) (fun h1=>?_)<;>(try simp only[aq] at h1)<;>with_reducible refine wK ?_
    · have hkl:k<l.length:=by simp only[aP,aq] at h1;omega
      obtain⟨y,hy⟩:∃y,l[k]? =some y:=⟨_,bH hkl⟩
      have hc:=hv k y hy
      have hr:(aR l a 81 b 91).set (0+k) (bM y)=aR l a 81 b 91:=gP fun i z hz=>by
        have:=(aZ hz).1
        by_cases e:i=k
        ·subst e;rw[hy] at hz;cases hz;rw[if_pos rfl,c8 (by omega) (by omega)];rfl
        ·rw[if_neg e]
      have hg:(aR l a 81 b 91)[k]? =some (aG y):=by rw[cQ hy,c8 (by omega) (by omega)]
      obtain⟨y1,y2,y3,y4,y5,y6,y7,y8,y9,y10⟩:=y
      simp only at hc
      repeat' (first
    |refine gK ?_
    | ((first
      |((with_reducible show fM _ _ _ _ _);refine fM.mk k rfl (by first|exact hkl|(rw[ck];exact hkl)) ?_)
      |((with_reducible show bu _ _ _ _ _);first|refine bu.mk (aG ⟨y1,y2,y3,y4,y5,y6,y7,y8,y9,y10⟩) (by first|exact hg|(rw[Nat.zero_add];exact hg)) ?_|refine bu.mk _ rfl ?_)
      |((with_reducible show ae _ _ 72 _ _ _ _);refine ae.val [] hc Gs ⟨rfl,trivial⟩ rfl rfl rfl ?_)
      |((with_reducible show aB _ _ _ _);refine dK ?_))<;>with_reducible refine wK ?_)
    | ((with_reducible show(_∧_)∧_∧_);(refine eK ?_ ?_<;>with_reducible repeat' (first|exact trivial|(show _∧_;refine aK ?_ ?_)))))
      refine aW.mk (k+1,true,true) ⟨by dsimp only;omega,by dsimp only;first|(simp;done)|(simp;omega),by dsimp only;first|(simp;done)|(simp;omega)⟩ (by dsimp only;omega) ?_
      (refine fK ?_;(with_reducible repeat' (first|exact trivial|(show _∧_;refine aK ?_ ?_)));(all_goals try rfl))
      all_goals first
        |(refine cast (congrArg (gj _ _) hr.symm) ?_;exact bF (fun h=>by first|(exfalso;omega)|rfl) (fun h=>by first|(exfalso;omega)|rfl))
        |exact .inl rfl
        |exact⟨.refl rfl,rfl⟩
        |exact⟨.refl (aa _),aa _⟩
        |(simp;done)
        |trace_state
    · have hjl:k=l.length:=by simp only[cj,aq] at h1;omega
      subst hjl
      repeat' (first
    |refine gK ?_
    |(((with_reducible show aB _ _ _ _);refine dK ?_)<;>with_reducible refine wK ?_)
    | ((with_reducible show(_∧_)∧_∧_);(refine eK ?_ ?_<;>with_reducible repeat' (first|exact trivial|(show _∧_;refine aK ?_ ?_)))))
      all_goals first|rfl|exact .inl rfl|exact⟨.refl rfl,rfl⟩|exact bF (fun _=>rfl) (fun _=>rfl)|exact⟨.refl (aa _),aa _⟩|exact cq (aa _)|trace_state
@[reducible] def aU (l : List aO) : MS := .live 9 (l.map dN) false
theorem DO (l:List aO):kW (flat (l.map dN))=true:=kX dN (fun _=>rfl) l
theorem ay (l:List aO):bz (l.map dN)=true:=gJ dN (fun _=>rfl) l
theorem nc {l:List Int}{k:Nat}{e:Int}(h:l[k]? =some e):(l.map bJ)[k]? =some (ah e):=by rw[fZ,h];rfl
section
variable {l : List ai} {m : Int} {a b ta tb : Nat} {ka kb : List Int}
theorem bR {tab:List (Nat×Nat)}{T:List Nat}{ml:ML}{ta' tb':Nat}(h1:a<l.length→o4 tab ta'=some ta)(h2:b<l.length→o4 tab tb'=some tb):sI tab T ml (aR l a ta' b tb') (aR l a ta b tb):=
  .inr ⟨zQ (bF h1 h2),qL (by rw[ck,ck]) lT lT⟩
theorem bL {names:List Nat}{n ta0 tb0:Nat}{p:Prop}(h1:iE names ta0=some ta)(h2:iE names tb0=some tb)(i1:ta0<n)(i2:tb0<n):
    p∨(aR l a ta b tb=eC (oN names 12) (aR l a ta0 b tb0)∧jo (zA 12 n) (aR l a ta0 b tb0)=true∧oz (aR l a ta b tb) (aR l a ta0 b tb0)=true):=
  .inr ⟨Dc h1 h2,FR i1 i2,qL (by rw[ck,ck]) lT lT⟩
theorem zN (hka:∀y,l[a]? =some y→y.kids=ka)(hkb:∀y,l[b]? =some y→y.kids=kb){rest:List AV}(hr:bz rest=true):
    yd (MF [] (KR [0,1,2]) [(0,aV l a 1 b 2),(1,aF ka),(2,aF kb)] 12) (aN ⟨l,m⟩::rest) (.agg [.own 0 0 l.length,ah m]::rest):=
  ⟨⟨tw (ra:=false) (rb:=false) (ea:=[]) (eb:=[]) rfl rfl (fun y hy=>by rw[List.append_nil,hka y hy];exact⟨rfl,rfl⟩) (fun y hy=>by rw[List.append_nil,hkb y hy];exact⟨rfl,rfl⟩),rfl,trivial⟩,cq hr⟩
theorem mZ {f:FuncId}{rest:List AV}{res:AV}(hka:∀y,l[a]? =some y→y.kids=ka)(hkb:∀y,l[b]? =some y→y.kids=kb)(h:aj Tryz.prog f [] (aN ⟨l,m⟩::rest) [] res)(hp:ku res=true)(hr:bz rest=true):
    aj Tryz.prog f [aV l a 1 b 2,aF ka,aF kb] (.agg [.own 0 0 l.length,ah m]::rest) [aV l a 1 b 2,aF ka,aF kb] res:=
  aj.LH [(0,aV l a 1 b 2),(1,aF ka),(2,aF kb)] [0,1,2] (eO [aV l a 1 b 2,aF ka,aF kb]) h hp (zN hka hkb hr)
theorem mL {f:FuncId}{rest:List AV}{es ex:List Int}(hka:∀y,l[a]? =some y→y.kids=ka)(hkb:∀y,l[b]? =some y→y.kids=kb)(h:aj Tryz.prog f [] (aN ⟨l,m⟩::rest) [aF (es++ex)] (.own 0 0 es.length))(hr:bz rest=true):
    aj Tryz.prog f [aV l a 1 b 2,aF ka,aF kb] (.agg [.own 0 0 l.length,ah m]::rest) [aV l a 1 b 2,aF ka,aF kb,aF (es++ex)] (.own 3 0 es.length):=by
  have hx:∀r∈ (es++ex).map bJ,∃e:Int,r=ah e:=fun r hr=>by
    obtain⟨e,_,rfl⟩:=List.mem_map.1 hr
    exact⟨e,rfl⟩
  exact aj.G6 [(0,aV l a 1 b 2),(1,aF ka),(2,aF kb)] [0,1,2] (eO [aV l a 1 b 2,aF ka,aF kb]) h (fun c hc=>by
    unfold flat at hc
    obtain⟨r,h1,h2⟩:=List.mem_flatMap.1 hc
    obtain⟨e,rfl⟩:=hx r h1
    cases je.1 h2
    rfl) (fun r hr cs e=>by
    obtain⟨i,rfl⟩:=hx r hr
    cases e) (zN hka hkb hr)
end
def dF (x:aO)(k:Int):aO:={x with node:=k}
@[reducible] def El (x : aO) (k : Int) : AV := .agg [ah x.kind, ah k, ah x.src, ah x.dst, cn x.name, bA x.had, bA x.has, cn x.old, cn x.new]
theorem qv {l:List ai}{m n:Int}{a b:Nat}{ka kb es ex:List Int}{ns:List aO}{x:aO}(hka:∀y,l[a]? =some y→y.kids=ka)(hkb:∀y,l[b]? =some y→y.kids=kb)(he:es.length≤1000)(hn:ns.length≤100000)
    (h191:aj Tryz.prog 34 [] [aN ⟨l,m⟩,ah n] [aF (es++ex)] (.own 0 0 es.length)):
    aj Tryz.prog 141 [aT m l.length 4 (.own 3 0 ns.length),aF ka,aF kb,aU ns,aV l a 1 b 2] [.ptr 0 0 0,ah n,lz x]
      [aT m l.length 4 (.own 5 0 (ns.length+es.length)),aF ka,aF kb,.dead,aV l a 1 b 2,aU (ns++es.map (dF x))] (.tup []):=by
  have hle:(es.map bJ).length=es.length:=bP ..
  refine aj.fW [(5,93)] (rvs:=[]) G ak Tryz.func141 rfl Tryz.ntmps141 rfl rfl ?_;with_reducible refine wD ?_
  refine ae.dy (news:=[aV l a 1 b 2,aF ka,aF kb,aF (es++ex)]) [4,1,2,111] [] (mL hka hkb h191 rfl) Nw ⟨⟨⟨rfl,rfl⟩,rfl,trivial⟩,rfl,trivial⟩ ⟨⟨rfl,bR (fun _=>rfl) (fun _=>rfl)⟩,⟨rfl,.inl ⟨rfl,aa _⟩⟩,⟨rfl,.inl ⟨rfl,aa _⟩⟩,trivial⟩ rfl ⟨⟨rfl,rfl⟩,rfl⟩ rfl ⟨⟨rfl,bL rfl rfl (by decide) (by decide)⟩,⟨rfl,.inl ⟨rfl,aa _⟩⟩,⟨rfl,.inl ⟨rfl,aa _⟩⟩,⟨rfl,.inl ⟨rfl,aa _⟩⟩,trivial⟩ rfl rfl ?_;with_reducible refine wK ?_
  refine bE.Fs G ak (fun(s:Nat×Int)=>[(0,.ptr 0 0 0),(5,.ptr 50 0 0),(13,.own 111 0 es.length),(14,ah es.length),(15,ah s.1)])
    (fun s=>[(0,aT m l.length 4 (.own 93 0 (ns.length+s.1))),(1,aF ka),(2,aF kb),(3,.dead),(4,aV l a 1 b 2),(111,aF (es++ex)),(50,.live 9 [El x s.2] false),(93,aU (ns++ (es.take s.1).map (dF x)))])
    (fun s=>s.1≤es.length) (fun s=>es.length-s.1) (0,x.node) [(93,3)] (Nat.zero_le _) ?_ ?_
  · (refine fK ?_;(with_reducible repeat' (first|exact trivial|(show _∧_;refine aK ?_ ?_)));(all_goals try rfl))
    all_goals first
      |(exact⟨.refl (aa _),aa _⟩)
      |(exact cast (congrArg (fun z=>qK _ z _) (show ns.map dN=(ns++ (es.take 0).map (dF x)).map dN by simp)) ⟨.refl (ay _),ay _⟩)
      |(exact bF (fun _=>rfl) (fun _=>rfl))
      |trace_state
  rintro⟨k,c⟩ hk
  dsimp only at hk
  with_reducible refine wK ?_
  refine aM.mk (fun h1=>?_) (fun h1=>?_)<;>(try simp only[aq] at h1)<;>with_reducible refine wK ?_
  · have hkl:k<es.length:=by simp only[aP,aq] at h1;omega
    obtain⟨e,hy⟩:∃e,es[k]? =some e:=⟨_,bH hkl⟩
    have hy2:(es++ex)[k]? =some e:=by rw[List.getElem?_append_left hkl];exact hy
    repeat' (first
    |refine gK ?_
    | ((first
      |((with_reducible show fM _ _ _ _ _);refine fM.mk k rfl (by first|exact hkl|(simp;omega)) ?_)
      |((with_reducible show bu _ _ _ _ _);refine bu.mk (ah e) (by first|exact nc hy2|(rw[Nat.zero_add];exact nc hy2)) ?_)
      |((with_reducible show dO _ _ _ _ _ _ _ _ _ _);refine dO.mk ((ns++ (es.take k).map (dF x)).map dN) [El x e] ⟨rfl,(by simp;omega),rfl⟩ ⟨rfl,rfl,rfl⟩ rfl (by simp;omega) (by simp;omega) ?_)
      |((with_reducible show aB _ _ _ _);refine dK ?_))<;>with_reducible refine wK ?_)
    |((with_reducible show(_∧_)∧_∧_);(refine eK ?_ ?_<;>with_reducible repeat' (first|exact trivial|(show _∧_;refine aK ?_ ?_)))))
    have ht:es.take (k+1)=es.take k++ [e]:=by rw[List.take_add_one,hy];rfl
    have hrow:(ns++ (es.take k).map (dF x)).map dN++ [El x e]=(ns++ (es.take (k+1)).map (dF x)).map dN:=by
      rw[ht,gm,gm,gm,gm,List.append_assoc];rfl
    refine nn.mk (k+1,e) [(93,281)] (by dsimp only;omega) (by dsimp only;omega) ?_
    (refine fK ?_;(with_reducible repeat' (first|exact trivial|(show _∧_;refine aK ?_ ?_)));(all_goals try rfl))
    all_goals first
      |exact⟨.refl (aa _),aa _⟩
      |exact bF (fun _=>rfl) (fun _=>rfl)
      |exact cast (congrArg (fun z=>qK _ z _) hrow) ⟨.refl (by rw[hrow];exact ay _),by rw[hrow];exact ay _⟩
      |(refine⟨⟨⟨rfl,rfl⟩,rfl,⟨rfl,?_⟩,trivial⟩,trivial⟩;simp;omega)
      |(simp;omega)
      |trace_state
  · have hjl:k=es.length:=by simp only[cj,aq] at h1;omega
    subst hjl
    repeat' (first
    |refine gK ?_
    |(((with_reducible show aB _ _ _ _);refine dK ?_)<;>with_reducible refine wK ?_)
    |((with_reducible show(_∧_)∧_∧_);(refine eK ?_ ?_<;>with_reducible repeat' (first|exact trivial|(show _∧_;refine aK ?_ ?_)))))
    all_goals first|rfl|exact .inl rfl|exact⟨.refl rfl,rfl⟩|exact bF (fun _=>rfl) (fun _=>rfl)|exact⟨.refl (aa _),aa _⟩|(rw[qV (Nat.le_refl _)];exact⟨.refl (ay _),ay _⟩)|trace_state
end Go.Proofs.Heir
