/- Models, plain laws and contracts of functions of the given program; conditions as stated in each theorem. By an AI agent. -/
import Derived.Test.YtkhjcnjicjgfiaaGreatDoorW24
import Derived.Test.YtkhjcnjicjgfiaaGreatDoorW16
set_option linter.unusedSimpArgs false
set_option linter.unusedVariables false
namespace Go.Proofs.Heir
open Go Go.Am Go.RowKit Go.Lib
set_option maxRecDepth 100000
set_option maxHeartbeats 8000000
section
variable {l : List ai} {a b ta tb ta' n i : Nat} {y : ai}
theorem oP (y':ai)(h:a<l.length):(aR l a ta b tb).set a (dG y' ta')=aR (l.set a y') a ta' b tb:=by
  apply List.ext_getElem?
  intro j
  unfold aR
  rw[List.getElem?_set,List.getElem?_mapIdx,List.getElem?_mapIdx,List.getElem?_set,List.length_mapIdx]
  by_cases e:a=j
  · subst e
    rw[if_pos rfl,if_pos rfl,if_pos h,if_pos h]
    show some _=some (dZ a ta' b tb a y')
    rw[Eb];rfl
  · rw [if_neg e,if_neg e]
    cases l[j]? with
    |none=>rfl
    | some z=>
      show some (dZ a ta b tb j z)=some (dZ a ta' b tb j z)
      unfold dZ
      have hja:¬j=a:=fun q=>e q.symm
      rw[if_neg hja,if_neg hja]
theorem um (y':ai)(hb:b<l.length)(hab:b≠a):(aR l a ta b tb).set b (dG y' tb)=aR (l.set b y') a ta b tb:=by
  have:=qD (l:=l) (a:=a) (ta:=ta) (b:=b) (tb:=tb) y' hb
  rw[Em hab] at this;exact this
theorem oI (y':ai)(h:i<l.length)(ha:i≠a)(hb:i≠b):(aR l a ta b tb).set i (bM y')=aR (l.set i y') a ta b tb:=by
  have:=qD (l:=l) (a:=a) (ta:=ta) (b:=b) (tb:=tb) y' h
  rw[c8 ha hb] at this;exact this
theorem BJ (h:l[a]? =some y):(aR l a ta b tb)[a]? =some (ei y ta):=by rw[cQ h,Eb]
theorem tJ (h:l[b]? =some y)(hab:b≠a):(aR l a ta b tb)[b]? =some (ei y tb):=by rw[cQ h,Em hab]
theorem FG (h:l[i]? =some y)(ha:i≠a)(hb:i≠b):(aR l a ta b tb)[i]? =some (aG y):=by rw[cQ h,c8 ha hb]
end
@[reducible] def my : aO := ⟨2, 0, 0, 0, ByteArray.empty, false, false, ByteArray.empty, ByteArray.empty⟩
theorem nv {f:FuncId}{rest:List AV}{res:AV}{ks:List Int}(h:aj Tryz.prog f [] (bY ks::rest) [] res)(hp:ku res=true)(hr:bz rest=true):
    aj Tryz.prog f [aF ks] (.own 0 0 ks.length::rest) [aF ks] res:=
  aj.LH [(0,aF ks)] [0] (eO [aF ks]) h hp ⟨bX rfl rfl rfl rfl,cq hr⟩
theorem Le {l:List ai}{m:Int}{a b n i:Nat}{ka kb es ex:List Int}{ns:List aO}{ya y:ai}{conn:Bool}{told:List aO}(htold:told=if conn then es.map (dF my) else[])(hL:l.length≤1000)(ha:l[a]? =some ya)(hb:∀z,l[b]? =some z→z.kids=kb)(hy:l[n]? =some y)(hna:n≠a)(hnb:n≠b)(hka:ya.kids=ka)(hp:y.parent=a)(hi:i<ka.length)(hk:ka.length≤1000)(he:es.length≤1000)(hn:ns.length≤100000)
    (h21:aj Tryz.prog 35 [] [aN ⟨l,m⟩,ah n] [] (bA conn)) (h191:aj Tryz.prog 34 [] [aN ⟨l,m⟩,ah n] [aF (es++ex)] (.own 0 0 es.length)) (h79:aj Tryz.prog 73 [] [bY ka,ah n] [] (ah i))
    (h188:aj Tryz.prog 145 [aF ka] [.own 0 0 ka.length,ah i,ah (i+1:Nat)] [.dead,aF (ka.take i++ka.drop (i+1))] (.own 1 0 (ka.take i++ka.drop (i+1)).length)):
    aj Tryz.prog 79 [aT m l.length 4 (.own 3 0 ns.length),aF ka,aF kb,aU ns,aV l a 1 b 2] [.ptr 0 0 0,ah n]
      [aT m l.length 4 (.own 6 0 (ns++told).length),.dead,aF kb,.dead,aV ((l.set a {ya with kids:=ka.take i++ka.drop (i+1)}).set n {y with parent:=-1}) a 5 b 2,aF (ka.take i++ka.drop (i+1)),aU (ns++told)] (.tup []):=by
  have hal:=(aZ ha).1
  have hnl:=(aZ hy).1
  have hA:∀z,l[a]? =some z→z.kids=ka:=fun z hz=>by rw[ha] at hz;cases hz;exact hka
  have t21:=mZ (rest:=[ah n]) hA hb h21 rfl rfl
  have t164:=qv (x:=my) hA hb he hn h191
  have t79:=nv (rest:=[ah n]) h79 rfl rfl
  have hne:a≠n:=fun e=>hna e.symm
  obtain⟨k2,hk2⟩:∃k2,k2=ka.take i++ka.drop (i+1):=⟨_,rfl⟩
  rw[←hk2] at h188 ⊢
  have hrow:∀u,((aR l a 1 b 2).set a (dG {ya with kids:=k2} u)).set n (bM {y with parent:=-1})=aR ((l.set a {ya with kids:=k2}).set n {y with parent:=-1}) a u b 2:=fun u=>by
    rw[oP _ hal,oI _ (by rw[List.length_set];exact hnl) hna hnb]
  have g1:(aR l a 1 b 2)[n]? =some (aG y):=FG hy hna hnb
  have g2:(aR l a 1 b 2)[a]? =some (ei ya 1):=BJ ha
  have g3:∀x,((aR l a 1 b 2).set a x)[n]? =some (aG y):=fun x=>by rw[List.getElem?_set,if_neg hne];exact g1
  have g4:∀x,((aR l a 1 b 2).set (0+a) x)[0+n]? =some (aG y):=fun x=>by rw[Nat.zero_add,Nat.zero_add];exact g3 x
  have hrow':((aR l a 1 b 2).set (0+a) (dG {ya with kids:=k2} 511)).set (0+n) (bM {y with parent:=-1})=aR ((l.set a {ya with kids:=k2}).set n {y with parent:=-1}) a 511 b 2:=by rw[Nat.zero_add,Nat.zero_add];exact hrow 511
  have hlr:(aR l a 1 b 2).length=l.length:=ck
  obtain⟨y1,y2,y3,y4,y5,y6,y7,y8,y9,y10⟩:=y
  obtain⟨z1,z2,z3,z4,z5,z6,z7,z8,z9,z10⟩:=ya
  dsimp only at hp hka
  subst hp;subst hka
  have hpa:¬ ((a:Int)=-1):=by omega
  refine aj.fW [(5,511)] (rvs:=[]) G ak Tryz.func79 rfl Tryz.ntmps79 rfl rfl ?_;with_reducible refine wD ?_
  (have fct:=hpa;(repeat' (first
    |refine pF ?_
    | ((first
      |((with_reducible show aM _ _ _ _);(refine aM.mk (fun hp=>?_) (fun hp=>?_)<;>(try simp only[aq,aP,cj,Bool.not_eq_true',Bool.not_eq_false',Decidable.not_not,Int.not_lt,Int.not_le] at hp)))
      |((with_reducible show fM _ _ _ _ _);first|refine fM.mk n rfl (by first|exact hnl|(simp;omega)) ?_|refine fM.mk a rfl (by first|exact hal|(simp;omega)) ?_)
      |((with_reducible show bu _ _ _ _ _);refine bu.mk _ (by first|exact g4 _|exact g1|exact g2|exact g3 _|(rw[Nat.zero_add];first|exact g1|exact g2|exact g3 _)) ?_)
      |((with_reducible show ae _ _ 35 _ _ _ _);refine ae.dy (news:=[aV l a 1 b 2,aF z7,aF kb]) [4,1,2] [] t21 Lc ⟨⟨⟨rfl,rfl⟩,rfl,trivial⟩,rfl,trivial⟩ ⟨⟨rfl,bR (fun _=>rfl) (fun _=>rfl)⟩,⟨rfl,.inl ⟨rfl,aa _⟩⟩,⟨rfl,.inl ⟨rfl,aa _⟩⟩,trivial⟩ rfl ⟨⟨rfl,rfl⟩,rfl⟩ rfl ⟨⟨rfl,bL rfl rfl (by decide) (by decide)⟩,⟨rfl,.inl ⟨rfl,aa _⟩⟩,⟨rfl,.inl ⟨rfl,aa _⟩⟩,trivial⟩ rfl rfl ?_)
      |((with_reducible show ae _ _ 141 _ _ _ _);refine ae.dy (news:=[aT m l.length 4 (.own 133 0 (ns.length+es.length)),aF z7,aF kb,.dead,aV l a 1 b 2,aU (ns++es.map (dF my))]) [0,1,2,3,4,133] [] t164 DU ⟨⟨rfl,rfl⟩,rfl,⟨rfl,rfl,rfl,rfl,rfl,rfl,rfl,rfl,rfl,trivial⟩,trivial⟩ ⟨⟨rfl,.inr ⟨⟨⟨⟨rfl,rfl⟩,rfl,⟨rfl,rfl⟩,trivial⟩,trivial⟩,rfl⟩⟩,⟨rfl,.inl ⟨rfl,aa _⟩⟩,⟨rfl,.inl ⟨rfl,aa _⟩⟩,⟨rfl,.inl ⟨rfl,ay _⟩⟩,⟨rfl,bR (fun _=>rfl) (fun _=>rfl)⟩,trivial⟩ rfl ⟨⟨rfl,rfl⟩,rfl⟩ rfl ⟨⟨rfl,.inr ⟨rfl,rfl,rfl⟩⟩,⟨rfl,.inl ⟨rfl,aa _⟩⟩,⟨rfl,.inl ⟨rfl,aa _⟩⟩,⟨rfl,bL rfl rfl (by decide) (by decide)⟩,⟨rfl,.inl ⟨rfl,ay _⟩⟩,trivial⟩ rfl rfl ?_)
      |((with_reducible show ae _ _ 73 _ _ _ _);refine ae.dy (news:=[aF z7]) [1] [] t79 GQ ⟨⟨rfl,rfl⟩,rfl,trivial⟩ ⟨⟨rfl,.inl ⟨rfl,aa _⟩⟩,trivial⟩ rfl ⟨⟨rfl,rfl⟩,rfl⟩ rfl ⟨⟨rfl,.inl ⟨rfl,aa _⟩⟩,trivial⟩ rfl rfl ?_)
      |((with_reducible show ae _ _ 145 _ _ _ _);refine ae.dy (news:=[.dead,aF k2]) [1,511] [] h188 K1 ⟨⟨rfl,rfl⟩,rfl,by show((i+1:Nat):Int)=(i:Int)+1;omega,trivial⟩ ⟨⟨rfl,.inl ⟨rfl,aa _⟩⟩,trivial⟩ rfl ⟨⟨rfl,rfl⟩,rfl⟩ rfl ⟨⟨rfl,.inl ⟨rfl,aa _⟩⟩,trivial⟩ rfl rfl ?_)
      |((with_reducible show aB _ _ _ _);refine dK ?_))<;>with_reducible refine wK ?_)
    |((with_reducible show(_∧_)∧_∧_);(refine eK ?_ ?_<;>with_reducible repeat' (first|exact trivial|(show _∧_;refine aK ?_ ?_))))));all_goals clear fct)
  all_goals first
    |exact⟨.refl (aa _),aa _⟩
    |exact cast (congrArg (gj _ _) hrow'.symm) (bF (fun _=>rfl) (fun _=>rfl))
    | (have ht:told=es.map (dF my):=by rw[htold,hp];rfl
       subst ht
       first|exact⟨.refl (ay _),ay _⟩|(simp;done))
    | (have ht:told=[]:=by rw[htold,hp];rfl
       subst ht
       first|exact cast (congrArg (fun z=>qK _ z _) (show ns.map dN=(ns++ []).map dN by simp)) ⟨.refl (ay _),ay _⟩|(simp;done))
    |trace_state
theorem DM {l:List ai}{m:Int}{a b n:Nat}{ka kb:List Int}{ns:List aO}{y:ai}(hy:l[n]? =some y)(hr:∃q,dZ a 1 b 2 n y=.agg [ah y.kind,cn y.name,cn y.is,cn y.data,cO y.attrs,ah y.parent,q,ah y.host,ah y.under,ah y.doc])(hp:y.parent=-1):
    aj Tryz.prog 79 [aT m l.length 4 (.own 3 0 ns.length),aF ka,aF kb,aU ns,aV l a 1 b 2] [.ptr 0 0 0,ah n]
      [aT m l.length 4 (.own 6 0 ns.length),.dead,aF kb,.dead,aV l a 5 b 2,aF ka,aU ns] (.tup []):=by
  have hnl:=(aZ hy).1
  obtain⟨q,hq⟩:=hr
  have g1:(aR l a 1 b 2)[n]? =some (.agg [ah y.kind,cn y.name,cn y.is,cn y.data,cO y.attrs,ah y.parent,q,ah y.host,ah y.under,ah y.doc]):=by rw[cQ hy,hq]
  obtain⟨y1,y2,y3,y4,y5,y6,y7,y8,y9,y10⟩:=y
  dsimp only at hp g1
  subst hp
  have hlr:(aR l a 1 b 2).length=l.length:=ck
  refine aj.fW [(5,1)] (rvs:=[]) G ak Tryz.func79 rfl Tryz.ntmps79 rfl rfl ?_;with_reducible refine wD ?_
  (have fct:=hnl;(repeat' (first
    |refine pF ?_
    | ((first
      |((with_reducible show aM _ _ _ _);(refine aM.mk (fun hp=>?_) (fun hp=>?_)<;>(try simp only[aq,aP,cj,Bool.not_eq_true',Bool.not_eq_false',Decidable.not_not,Int.not_lt,Int.not_le] at hp)))
      |((with_reducible show fM _ _ _ _ _);refine fM.mk n rfl (by first|exact hnl|(simp;omega)) ?_)
      |((with_reducible show bu _ _ _ _ _);refine bu.mk _ (by first|exact g1|(rw[Nat.zero_add];exact g1)) ?_)
      |((with_reducible show aB _ _ _ _);refine dK ?_))<;>with_reducible refine wK ?_)
    |((with_reducible show(_∧_)∧_∧_);(refine eK ?_ ?_<;>with_reducible repeat' (first|exact trivial|(show _∧_;refine aK ?_ ?_))))));all_goals clear fct)
  all_goals first
    |exact⟨.refl (aa _),aa _⟩
    |exact⟨.refl (ay _),ay _⟩
    |exact bF (fun _=>rfl) (fun _=>rfl)
    |trace_state
theorem IX {l:List ai}{m:Int}{a b i:Nat}{ka kb es ex:List Int}{ns:List aO}{ya y:ai}{conn:Bool}{told:List aO}(htold:told=if conn then es.map (dF my) else[])(hL:l.length≤1000)(ha:l[a]? =some ya)(hb:∀z,l[b]? =some z→z.kids=kb)(hy:l[b]? =some y)(hna:b≠a)(hka:ya.kids=ka)(hp:y.parent=a)(hi:i<ka.length)(hk:ka.length≤1000)(he:es.length≤1000)(hn:ns.length≤100000)
    (h21:aj Tryz.prog 35 [] [aN ⟨l,m⟩,ah b] [] (bA conn)) (h191:aj Tryz.prog 34 [] [aN ⟨l,m⟩,ah b] [aF (es++ex)] (.own 0 0 es.length)) (h79:aj Tryz.prog 73 [] [bY ka,ah b] [] (ah i))
    (h188:aj Tryz.prog 145 [aF ka] [.own 0 0 ka.length,ah i,ah (i+1:Nat)] [.dead,aF (ka.take i++ka.drop (i+1))] (.own 1 0 (ka.take i++ka.drop (i+1)).length)):
    aj Tryz.prog 79 [aT m l.length 4 (.own 3 0 ns.length),aF ka,aF kb,aU ns,aV l a 1 b 2] [.ptr 0 0 0,ah b]
      [aT m l.length 4 (.own 6 0 (ns++told).length),.dead,aF kb,.dead,aV ((l.set a {ya with kids:=ka.take i++ka.drop (i+1)}).set b {y with parent:=-1}) a 5 b 2,aF (ka.take i++ka.drop (i+1)),aU (ns++told)] (.tup []):=by
  have hal:=(aZ ha).1
  have hnl:=(aZ hy).1
  have hA:∀z,l[a]? =some z→z.kids=ka:=fun z hz=>by rw[ha] at hz;cases hz;exact hka
  have t21:=mZ (rest:=[ah b]) hA hb h21 rfl rfl
  have t164:=qv (x:=my) hA hb he hn h191
  have t79:=nv (rest:=[ah b]) h79 rfl rfl
  have hne:a≠b:=fun e=>hna e.symm
  obtain⟨k2,hk2⟩:∃k2,k2=ka.take i++ka.drop (i+1):=⟨_,rfl⟩
  rw[←hk2] at h188 ⊢
  have hrow:∀u,((aR l a 1 b 2).set a (dG {ya with kids:=k2} u)).set b (dG {y with parent:=-1} 2)=aR ((l.set a {ya with kids:=k2}).set b {y with parent:=-1}) a u b 2:=fun u=>by
    rw[oP _ hal,um _ (by rw[List.length_set];exact hnl) hna]
  have g1:(aR l a 1 b 2)[b]? =some (ei y 2):=tJ hy hna
  have g2:(aR l a 1 b 2)[a]? =some (ei ya 1):=BJ ha
  have g3:∀x,((aR l a 1 b 2).set a x)[b]? =some (ei y 2):=fun x=>by rw[List.getElem?_set,if_neg hne];exact g1
  have g4:∀x,((aR l a 1 b 2).set (0+a) x)[0+b]? =some (ei y 2):=fun x=>by rw[Nat.zero_add,Nat.zero_add];exact g3 x
  have hrow':((aR l a 1 b 2).set (0+a) (dG {ya with kids:=k2} 511)).set (0+b) (dG {y with parent:=-1} 2)=aR ((l.set a {ya with kids:=k2}).set b {y with parent:=-1}) a 511 b 2:=by rw[Nat.zero_add,Nat.zero_add];exact hrow 511
  have hlr:(aR l a 1 b 2).length=l.length:=ck
  obtain⟨y1,y2,y3,y4,y5,y6,y7,y8,y9,y10⟩:=y
  obtain⟨z1,z2,z3,z4,z5,z6,z7,z8,z9,z10⟩:=ya
  dsimp only at hp hka
  subst hp;subst hka
  have hpa:¬ ((a:Int)=-1):=by omega
  refine aj.fW [(5,511)] (rvs:=[]) G ak Tryz.func79 rfl Tryz.ntmps79 rfl rfl ?_;with_reducible refine wD ?_
  (have fct:=hpa;(repeat' (first
    |refine pF ?_
    | ((first
      |((with_reducible show aM _ _ _ _);(refine aM.mk (fun hp=>?_) (fun hp=>?_)<;>(try simp only[aq,aP,cj,Bool.not_eq_true',Bool.not_eq_false',Decidable.not_not,Int.not_lt,Int.not_le] at hp)))
      |((with_reducible show fM _ _ _ _ _);first|refine fM.mk b rfl (by first|exact hnl|(simp;omega)) ?_|refine fM.mk a rfl (by first|exact hal|(simp;omega)) ?_)
      |((with_reducible show bu _ _ _ _ _);refine bu.mk _ (by first|exact g4 _|exact g1|exact g2|exact g3 _|(rw[Nat.zero_add];first|exact g1|exact g2|exact g3 _)) ?_)
      |((with_reducible show ae _ _ 35 _ _ _ _);refine ae.dy (news:=[aV l a 1 b 2,aF z7,aF kb]) [4,1,2] [] t21 Lc ⟨⟨⟨rfl,rfl⟩,rfl,trivial⟩,rfl,trivial⟩ ⟨⟨rfl,bR (fun _=>rfl) (fun _=>rfl)⟩,⟨rfl,.inl ⟨rfl,aa _⟩⟩,⟨rfl,.inl ⟨rfl,aa _⟩⟩,trivial⟩ rfl ⟨⟨rfl,rfl⟩,rfl⟩ rfl ⟨⟨rfl,bL rfl rfl (by decide) (by decide)⟩,⟨rfl,.inl ⟨rfl,aa _⟩⟩,⟨rfl,.inl ⟨rfl,aa _⟩⟩,trivial⟩ rfl rfl ?_)
      |((with_reducible show ae _ _ 141 _ _ _ _);refine ae.dy (news:=[aT m l.length 4 (.own 133 0 (ns.length+es.length)),aF z7,aF kb,.dead,aV l a 1 b 2,aU (ns++es.map (dF my))]) [0,1,2,3,4,133] [] t164 DU ⟨⟨rfl,rfl⟩,rfl,⟨rfl,rfl,rfl,rfl,rfl,rfl,rfl,rfl,rfl,trivial⟩,trivial⟩ ⟨⟨rfl,.inr ⟨⟨⟨⟨rfl,rfl⟩,rfl,⟨rfl,rfl⟩,trivial⟩,trivial⟩,rfl⟩⟩,⟨rfl,.inl ⟨rfl,aa _⟩⟩,⟨rfl,.inl ⟨rfl,aa _⟩⟩,⟨rfl,.inl ⟨rfl,ay _⟩⟩,⟨rfl,bR (fun _=>rfl) (fun _=>rfl)⟩,trivial⟩ rfl ⟨⟨rfl,rfl⟩,rfl⟩ rfl ⟨⟨rfl,.inr ⟨rfl,rfl,rfl⟩⟩,⟨rfl,.inl ⟨rfl,aa _⟩⟩,⟨rfl,.inl ⟨rfl,aa _⟩⟩,⟨rfl,bL rfl rfl (by decide) (by decide)⟩,⟨rfl,.inl ⟨rfl,ay _⟩⟩,trivial⟩ rfl rfl ?_)
      |((with_reducible show ae _ _ 73 _ _ _ _);refine ae.dy (news:=[aF z7]) [1] [] t79 GQ ⟨⟨rfl,rfl⟩,rfl,trivial⟩ ⟨⟨rfl,.inl ⟨rfl,aa _⟩⟩,trivial⟩ rfl ⟨⟨rfl,rfl⟩,rfl⟩ rfl ⟨⟨rfl,.inl ⟨rfl,aa _⟩⟩,trivial⟩ rfl rfl ?_)
      |((with_reducible show ae _ _ 145 _ _ _ _);refine ae.dy (news:=[.dead,aF k2]) [1,511] [] h188 K1 ⟨⟨rfl,rfl⟩,rfl,by show((i+1:Nat):Int)=(i:Int)+1;omega,trivial⟩ ⟨⟨rfl,.inl ⟨rfl,aa _⟩⟩,trivial⟩ rfl ⟨⟨rfl,rfl⟩,rfl⟩ rfl ⟨⟨rfl,.inl ⟨rfl,aa _⟩⟩,trivial⟩ rfl rfl ?_)
      |((with_reducible show aB _ _ _ _);refine dK ?_))<;>with_reducible refine wK ?_)
    |((with_reducible show(_∧_)∧_∧_);(refine eK ?_ ?_<;>with_reducible repeat' (first|exact trivial|(show _∧_;refine aK ?_ ?_))))));all_goals clear fct)
  all_goals first
    |exact⟨.refl (aa _),aa _⟩
    |exact cast (congrArg (gj _ _) hrow'.symm) (bF (fun _=>rfl) (fun _=>rfl))
    | (have ht:told=es.map (dF my):=by rw[htold,hp];rfl
       subst ht
       first|exact⟨.refl (ay _),ay _⟩|(simp;done))
    | (have ht:told=[]:=by rw[htold,hp];rfl
       subst ht
       first|exact cast (congrArg (fun z=>qK _ z _) (show ns.map dN=(ns++ []).map dN by simp)) ⟨.refl (ay _),ay _⟩|(simp;done))
    |trace_state
@[reducible] def yp (y : ai) (q : AV) : AV := .agg [ah y.kind, cn y.name, cn y.is, cn y.data, cO y.attrs, ah y.parent, q, ah y.host, ah y.under, ah y.doc]
theorem iG (a ta b tb i:Nat)(y:ai):∃q,∀y':ai,y'.kids=y.kids→dZ a ta b tb i y'=yp y' q:=by
  by_cases h:i=a
  ·exact⟨.own ta 0 y.kids.length,fun y' e=>by unfold dZ;rw[if_pos h,←e];rfl⟩
  · by_cases c:i=b
    ·exact⟨.own tb 0 y.kids.length,fun y' e=>by unfold dZ;rw[if_neg h,if_pos c,←e];rfl⟩
    ·exact⟨bY y.kids,fun y' e=>by unfold dZ;rw[if_neg h,if_neg c,←e];rfl⟩
def jw (d:Int)(l:List ai)(k:Nat):List ai:=match l[k]? with
  |some y=>l.set k {y with doc:=d}
  |none=>l
theorem yG (d:Int)(l:List ai)(k:Nat):(jw d l k).length=l.length:=by
  unfold jw
  split
  ·exact List.length_set ..
  ·rfl
theorem qT (d:Int):∀ (ks:List Nat) (l:List ai),(ks.foldl (jw d) l).length=l.length
  |[],_=>rfl
  |k::r,l=>(qT d r (jw d l k)).trans (yG d l k)
theorem C4 (d:Int)(l:List ai)(k i:Nat)(y:ai)(h:(jw d l k)[i]? =some y):∃z,l[i]? =some z∧z.kids=y.kids:=by
  unfold jw at h
  split at h
  · rename_i z hz
    rw[List.getElem?_set] at h
    split at h
    · rename_i e
      subst e
      split at h
      ·cases h;exact⟨z,hz,rfl⟩
      ·cases h
    ·exact⟨y,h,rfl⟩
  ·exact⟨y,h,rfl⟩
theorem oC (d:Int):∀ (ks:List Nat) (l:List ai) (i:Nat) (y:ai),(ks.foldl (jw d) l)[i]? =some y→∃z,l[i]? =some z∧z.kids=y.kids
  |[],_,_,y,h=>⟨y,h,rfl⟩
  | k::r,l,i,y,h=>by
    obtain⟨z,h1,h2⟩:=oC d r (jw d l k) i y h
    obtain⟨z2,h3,h4⟩:=C4 d l k i z h1
    exact⟨z2,h3,h4.trans h2⟩
def Cy (l:List Nat):List Int:=l.map Int.ofNat
theorem Hw {l:List Nat}{j k:Nat}(h:l[j]? =some k):((Cy l).map bJ)[j]? =some (ah (k:Int)):=by
  unfold Cy
  rw[fZ,fZ,h];rfl
theorem ID (l:List Nat):(Cy l).length=l.length:=bP ..
@[reducible] def xI (was d : Int) : aO := ⟨3, 0, was, d, ByteArray.empty, false, false, ByteArray.empty, ByteArray.empty⟩
theorem Jy {l l1 l2:List ai}{m d:Int}{a b n:Nat}{ka kb k1 es ex:List Int}{all:List Nat}{ns n1:List aO}{y:ai}(hl1:l1.length=l.length)(hy:l1[n]? =some y)(hd:y.doc≠d)(hall:∀k∈all,k<l1.length)(hal:all.length≤1000)(hl2:l2=all.foldl (jw d) l1)(hk1:∀y,l1[a]? =some y→y.kids=k1)(hkb:∀y,l1[b]? =some y→y.kids=kb)(he:es.length≤1000)(hn:n1.length≤100000)
    (h161:aj Tryz.prog 79 [aT m l.length 4 (.own 3 0 ns.length),aF ka,aF kb,aU ns,aV l a 1 b 2] [.ptr 0 0 0,ah n] [aT m l.length 4 (.own 6 0 n1.length),.dead,aF kb,.dead,aV l1 a 5 b 2,aF k1,aU n1] (.tup []))
    (h104:aj Tryz.prog 82 [] [aN ⟨l1,m⟩,ah n] [aF (Cy all)] (.own 0 0 (Cy all).length))
    (h191:aj Tryz.prog 34 [] [aN ⟨l2,m⟩,ah n] [aF (es++ex)] (.own 0 0 es.length)):
    aj Tryz.prog 139 [aT m l.length 4 (.own 3 0 ns.length),aF ka,aF kb,aU ns,aV l a 1 b 2] [.ptr 0 0 0,ah n,ah d]
      [aT m l.length 4 (.own 6 0 (n1.length+es.length)),.dead,aF kb,.dead,aV l2 a 5 b 2,aF k1,aU (n1++es.map (dF (xI y.doc d)))] (.tup []):=by
  have hnl:=(aZ hy).1
  have hl2l:l2.length=l.length:=by rw[hl2,qT,hl1]
  have t104:=mL (m:=m) (ex:=[]) (rest:=[ah n]) hk1 hkb (by rw[List.append_nil];exact h104) rfl
  rw[List.append_nil] at t104
  have t164:=qv (m:=m) (n:=n) (ns:=n1) (x:=xI y.doc d) (fun z hz=>by rw[hl2] at hz;obtain⟨w,h1,h2⟩:=oC d _ _ _ _ hz;rw[←h2];exact hk1 w h1) (fun z hz=>by rw[hl2] at hz;obtain⟨w,h1,h2⟩:=oC d _ _ _ _ hz;rw[←h2];exact hkb w h1) he hn h191
  rw[hl1] at t104
  rw[hl2l] at t164
  obtain⟨q,hq⟩:=iG a 151 b 2 n y
  have g1:(aR l1 a 151 b 2)[n]? =some (yp y q):=by rw[cQ hy,hq y rfl]
  have hlr:∀x:List ai,(aR x a 151 b 2).length=x.length:=fun x=>ck
  have hmem:∀ (j:Nat) (k:Nat),all[j]? =some k→k<l1.length:=fun j k h=>hall k (bV h)
  generalize hy0:y.doc=w0 at hd
  obtain⟨y1,y2,y3,y4,y5,y6,y7,y8,y9,y10⟩:=y
  dsimp only at g1 hy0 t164
  subst hy0
  refine aj.fW [(5,151)] (rvs:=[]) G ak Tryz.func139 rfl Tryz.ntmps139 rfl rfl ?_;with_reducible refine wD ?_
  (have fct:=hd;(repeat' (first
    |refine gF ?_
    | ((first
      |((with_reducible show ae _ _ 79 _ _ _ _);refine ae.dy (news:=[aT m l.length 4 (.own 163 0 n1.length),.dead,aF kb,.dead,aV l1 a 151 b 2,aF k1,aU n1]) [0,1,2,3,4,151,163] [] h161 KW ⟨⟨rfl,rfl⟩,rfl,trivial⟩ ⟨⟨rfl,.inr ⟨⟨⟨⟨rfl,rfl⟩,rfl,⟨rfl,rfl⟩,trivial⟩,trivial⟩,rfl⟩⟩,⟨rfl,.inl ⟨rfl,aa _⟩⟩,⟨rfl,.inl ⟨rfl,aa _⟩⟩,⟨rfl,.inl ⟨rfl,ay _⟩⟩,⟨rfl,bR (fun _=>rfl) (fun _=>rfl)⟩,trivial⟩ rfl ⟨⟨rfl,rfl⟩,rfl⟩ rfl ⟨⟨rfl,.inr ⟨rfl,rfl,rfl⟩⟩,⟨rfl,.inl ⟨rfl,aa _⟩⟩,⟨rfl,bL rfl rfl (by decide) (by decide)⟩,⟨rfl,.inl ⟨rfl,aa _⟩⟩,⟨rfl,.inl ⟨rfl,ay _⟩⟩,trivial⟩ rfl rfl ?_)
      |((with_reducible show fM _ _ _ _ _);refine fM.mk n rfl (by first|exact hnl|omega) ?_)
      |((with_reducible show bu _ _ _ _ _);refine bu.mk _ (by first|exact g1|(rw[Nat.zero_add];exact g1)) ?_)
      |((with_reducible show ae _ _ 82 _ _ _ _);refine ae.dy (news:=[aV l1 a 151 b 2,aF k1,aF kb,aF (Cy all)]) [4,151,2,171] [] t104 Nd ⟨⟨⟨rfl,rfl⟩,rfl,trivial⟩,rfl,trivial⟩ ⟨⟨rfl,bR (fun _=>rfl) (fun _=>rfl)⟩,⟨rfl,.inl ⟨rfl,aa _⟩⟩,⟨rfl,.inl ⟨rfl,aa _⟩⟩,trivial⟩ rfl ⟨⟨rfl,rfl⟩,rfl⟩ rfl ⟨⟨rfl,bL rfl rfl (by decide) (by decide)⟩,⟨rfl,.inl ⟨rfl,aa _⟩⟩,⟨rfl,.inl ⟨rfl,aa _⟩⟩,⟨rfl,.inl ⟨rfl,aa _⟩⟩,trivial⟩ rfl rfl ?_)
      |((with_reducible show aB _ _ _ _);refine dK ?_))<;>with_reducible refine wK ?_)
    |((with_reducible show(_∧_)∧_∧_);(refine eK ?_ ?_<;>with_reducible repeat' (first|exact trivial|(show _∧_;refine aK ?_ ?_))))));all_goals clear fct)
  refine bE.use G ak (fun(j:Nat)=>[(0,.ptr 0 0 0),(1,ah n),(2,ah d),(6,ah y10),(29,.own 171 0 (Cy all).length),(30,ah (Cy all).length),(31,ah j)])
    (fun j=>[(0,aT m l.length 4 (.own 163 0 n1.length)),(1,.dead),(2,aF kb),(3,.dead),(4,aV ((all.take j).foldl (jw d) l1) a 151 b 2),(163,aU n1),(151,aF k1),(171,aF (Cy all))])
    (fun j=>j≤all.length) (fun j=>all.length-j) 0 (Nat.zero_le _) ?_ ?_
  · (refine fK ?_;(with_reducible repeat' (first|exact trivial|(show _∧_;refine aK ?_ ?_)));(all_goals try rfl))
    all_goals first
      |exact⟨.refl (aa _),aa _⟩
      |exact⟨.refl (ay _),ay _⟩
      |exact bF (l:=l1) (fun _=>rfl) (fun _=>rfl)
      |trace_state
  intro j hj
  have hti:=ID all
  with_reducible refine wK ?_
  refine aM.mk (fun h1=>?_) (fun h1=>?_)<;>(try simp only[aq] at h1)<;>with_reducible refine wK ?_
  · have hjl:j<all.length:=by simp only[aP,aq] at h1;omega
    obtain⟨k,hk⟩:∃k,all[j]? =some k:=⟨_,bH hjl⟩
    obtain⟨lj,hlj⟩:∃lj,lj=(all.take j).foldl (jw d) l1:=⟨_,rfl⟩
    have hljl:lj.length=l.length:=by rw[hlj,qT,hl1]
    have hkl:k<lj.length:=by have:=hmem j k hk;omega
    obtain⟨z,hz⟩:∃z,lj[k]? =some z:=⟨_,bH hkl⟩
    obtain⟨p,hp⟩:=iG a 151 b 2 k z
    have gz:(aR lj a 151 b 2)[k]? =some (yp z p):=by rw[cQ hz,hp z rfl]
    have hnext:(all.take (j+1)).foldl (jw d) l1=lj.set k {z with doc:=d}:=by
      rw[List.take_add_one,hk,List.foldl_append,←hlj]
      show jw d lj k=_
      unfold jw;rw[hz]
    have hrow:(aR lj a 151 b 2).set (0+k) (yp {z with doc:=d} p)=aR ((all.take (j+1)).foldl (jw d) l1) a 151 b 2:=by
      rw[hnext,Nat.zero_add,←hp {z with doc:=d} rfl,qD _ hkl]
    have hkr:k< (aR lj a 151 b 2).length:=by rw[ck];exact hkl
    have hge:=Hw hk
    rw[←hlj]
    obtain⟨z1,z2,z3,z4,z5,z6,z7,z8,z9,z10⟩:=z
    repeat' (first
    |refine gK ?_
    | ((first
      |((with_reducible show fM _ _ _ _ _);first|refine fM.mk j rfl (by first|omega|(simp;omega)) ?_|refine fM.mk k rfl (by first|exact hkl|omega) ?_)
      |((with_reducible show bu _ _ _ _ _);first|refine bu.mk (ah (k:Int)) (by first|exact hge|(rw[Nat.zero_add];exact hge)) ?_|refine bu.mk _ (by first|exact gz|(rw[Nat.zero_add];exact gz)) ?_)
      |((with_reducible show aB _ _ _ _);refine dK ?_))<;>with_reducible refine wK ?_)
    |((with_reducible show(_∧_)∧_∧_);(refine eK ?_ ?_<;>with_reducible repeat' (first|exact trivial|(show _∧_;refine aK ?_ ?_)))))
    refine aW.mk (j+1) (by omega) (by omega) ?_
    (refine fK ?_;(with_reducible repeat' (first|exact trivial|(show _∧_;refine aK ?_ ?_)));(all_goals try rfl))
    all_goals first
      |exact⟨.refl (aa _),aa _⟩
      |exact⟨.refl (ay _),ay _⟩
      |exact cast (congrArg (gj _ _) hrow.symm) (bF (fun _=>rfl) (fun _=>rfl))
      |trace_state
  · have hjl:j=all.length:=by simp only[cj,aq] at h1;omega
    subst hjl
    obtain rfl:l2=(all.take all.length).foldl (jw d) l1:=by rw[List.take_length];exact hl2
    repeat' (first
    |refine gK ?_
    | ((first
      |((with_reducible show ae _ _ 141 _ _ _ _);refine ae.dy (news:=[aT m l.length 4 (.own 173 0 (n1.length+es.length)),aF k1,aF kb,.dead,aV ((all.take all.length).foldl (jw d) l1) a 151 b 2,aU (n1++es.map (dF (xI y10 d)))]) [0,151,2,163,4,173] [] t164 DU ⟨⟨rfl,rfl⟩,rfl,⟨rfl,rfl,rfl,rfl,rfl,rfl,rfl,rfl,rfl,trivial⟩,trivial⟩ ⟨⟨rfl,.inr ⟨⟨⟨⟨rfl,rfl⟩,rfl,⟨rfl,rfl⟩,trivial⟩,trivial⟩,rfl⟩⟩,⟨rfl,.inl ⟨rfl,aa _⟩⟩,⟨rfl,.inl ⟨rfl,aa _⟩⟩,⟨rfl,.inl ⟨rfl,ay _⟩⟩,⟨rfl,bR (fun _=>rfl) (fun _=>rfl)⟩,trivial⟩ rfl ⟨⟨rfl,rfl⟩,rfl⟩ rfl ⟨⟨rfl,.inr ⟨rfl,rfl,rfl⟩⟩,⟨rfl,.inl ⟨rfl,aa _⟩⟩,⟨rfl,.inl ⟨rfl,aa _⟩⟩,⟨rfl,bL rfl rfl (by decide) (by decide)⟩,⟨rfl,.inl ⟨rfl,ay _⟩⟩,trivial⟩ rfl rfl ?_)
      |((with_reducible show aB _ _ _ _);refine dK ?_))<;>with_reducible refine wK ?_)
    |((with_reducible show(_∧_)∧_∧_);(refine eK ?_ ?_<;>with_reducible repeat' (first|exact trivial|(show _∧_;refine aK ?_ ?_)))))
    all_goals first
      |exact⟨.refl (aa _),aa _⟩
      |exact⟨.refl (ay _),ay _⟩
      |exact bF (fun _=>rfl) (fun _=>rfl)
      |(simp;done)
      |trace_state
theorem Db {l l1:List ai}{m d:Int}{a b n:Nat}{ka kb k1:List Int}{ns n1:List aO}{y:ai}(hl1:l1.length=l.length)(hy:l1[n]? =some y)(hd:y.doc=d)
    (h161:aj Tryz.prog 79 [aT m l.length 4 (.own 3 0 ns.length),aF ka,aF kb,aU ns,aV l a 1 b 2] [.ptr 0 0 0,ah n] [aT m l.length 4 (.own 6 0 n1.length),.dead,aF kb,.dead,aV l1 a 5 b 2,aF k1,aU n1] (.tup [])):
    aj Tryz.prog 139 [aT m l.length 4 (.own 3 0 ns.length),aF ka,aF kb,aU ns,aV l a 1 b 2] [.ptr 0 0 0,ah n,ah d]
      [aT m l.length 4 (.own 6 0 n1.length),.dead,aF kb,.dead,aV l1 a 5 b 2,aF k1,aU n1] (.tup []):=by
  have hnl:=(aZ hy).1
  obtain⟨q,hq⟩:=iG a 151 b 2 n y
  have g1:(aR l1 a 151 b 2)[n]? =some (yp y q):=by rw[cQ hy,hq y rfl]
  have hlr:∀x:List ai,(aR x a 151 b 2).length=x.length:=fun x=>ck
  obtain⟨y1,y2,y3,y4,y5,y6,y7,y8,y9,y10⟩:=y
  dsimp only at g1 hd
  subst hd
  refine aj.fW [(5,151)] (rvs:=[]) G ak Tryz.func139 rfl Tryz.ntmps139 rfl rfl ?_;with_reducible refine wD ?_
  repeat' (first
    |refine gK ?_
    | ((first
      |((with_reducible show ae _ _ 79 _ _ _ _);refine ae.dy (news:=[aT m l.length 4 (.own 163 0 n1.length),.dead,aF kb,.dead,aV l1 a 151 b 2,aF k1,aU n1]) [0,1,2,3,4,151,163] [] h161 KW ⟨⟨rfl,rfl⟩,rfl,trivial⟩ ⟨⟨rfl,.inr ⟨⟨⟨⟨rfl,rfl⟩,rfl,⟨rfl,rfl⟩,trivial⟩,trivial⟩,rfl⟩⟩,⟨rfl,.inl ⟨rfl,aa _⟩⟩,⟨rfl,.inl ⟨rfl,aa _⟩⟩,⟨rfl,.inl ⟨rfl,ay _⟩⟩,⟨rfl,bR (fun _=>rfl) (fun _=>rfl)⟩,trivial⟩ rfl ⟨⟨rfl,rfl⟩,rfl⟩ rfl ⟨⟨rfl,.inr ⟨rfl,rfl,rfl⟩⟩,⟨rfl,.inl ⟨rfl,aa _⟩⟩,⟨rfl,bL rfl rfl (by decide) (by decide)⟩,⟨rfl,.inl ⟨rfl,aa _⟩⟩,⟨rfl,.inl ⟨rfl,ay _⟩⟩,trivial⟩ rfl rfl ?_)
      |((with_reducible show fM _ _ _ _ _);refine fM.mk n rfl (by first|exact hnl|omega) ?_)
      |((with_reducible show bu _ _ _ _ _);refine bu.mk _ (by first|exact g1|(rw[Nat.zero_add];exact g1)) ?_)
      |((with_reducible show aB _ _ _ _);refine dK ?_))<;>with_reducible refine wK ?_)
    |((with_reducible show(_∧_)∧_∧_);(refine eK ?_ ?_<;>with_reducible repeat' (first|exact trivial|(show _∧_;refine aK ?_ ?_)))))
  all_goals first
    |exact⟨.refl (aa _),aa _⟩
    |exact⟨.refl (ay _),ay _⟩
    |exact bF (fun _=>rfl) (fun _=>rfl)
    |trace_state
end Go.Proofs.Heir
namespace Go.Proofs.Heir
open Go Go.Am Go.RowKit Go.Lib
set_option maxRecDepth 100000
set_option maxHeartbeats 16000000 in
/-- shade.All -/
theorem Bz (f:ForM)(hs:bq f.nodes)(n:Int)(e0:(bC f&&af f.nodes n)=true):aj Tryz.prog 82 [] [aN f,ah n] [iv (lX f n)] (.own 0 0 (lX f n).length):=by
  have h86:=wQ f hs [n] (by simp)
  have e1:(bC f&& !decide (0≤fU (fun n=> !af f.nodes n) [n]))=(bC f&&af f.nodes n):=by
    congr 1
    unfold fU
    cases h:af f.nodes n<;>simp[List.findIdx?_cons,h]
  rw[e1] at h86
  obtain⟨l,m⟩:=f
  unfold lX
  simp only at h86 e0 ⊢
  rw[if_pos e0]
  have hlm:(l.map bM).length=l.length:=bP ..
  refine aj.aA (rvs:=[.tmp 4]) G ak Tryz.func82 rfl Tryz.ntmps82 rfl rfl ?_;delta List.toArray;((with_reducible conv=>whnf);(with_reducible conv=>congr<;>reduce);repeat((first|(with_reducible refine bh.mk ?_)|(with_reducible refine bf.mk ?_));(with_reducible conv=>whnf);(with_reducible conv=>congr<;>reduce)))
  rw[e0] at h86
  refine ae.lit [141] h86 G2 ⟨⟨rfl,rfl,trivial⟩,bX (l:=[n]) rfl rfl rfl rfl,trivial⟩ rfl rfl ?_;((with_reducible conv=>whnf);(with_reducible conv=>congr<;>reduce);repeat((first|(with_reducible refine bh.mk ?_)|(with_reducible refine bf.mk ?_));(with_reducible conv=>whnf);(with_reducible conv=>congr<;>reduce)))
  obtain⟨hr,hn⟩:bC ⟨l,m⟩=true∧af l n=true:=by simpa using e0
  have T:=U.jz hr
  have hol:=U.jx T l.length hn
  simp only at T hol
  repeat' (first|(first|((with_reducible show aM _ _ _ _);first|refine aM.ff ?_|refine aM.tt ?_|refine aM.no (by first|rfl|assumption|exact nf (by assumption)|exact nt (by assumption)|((try simp only[aq]);first|(simp[];done)|(simp[];omega))) ?_|refine aM.yes (by first|rfl|assumption|exact nf (by assumption)|exact nt (by assumption)|((try simp only[aq]);first|(simp[];done)|(simp[];omega))) ?_)|((with_reducible show aY _ _ _ _);refine aY.mk (by(try simp only[aq]);omega) ?_)|((with_reducible show aB _ _ _ _);refine aB.mk (by kernel_rfl) (by kernel_rfl) (by kernel_rfl) ?_))<;>((with_reducible conv=>whnf);(with_reducible conv=>congr<;>reduce);repeat((first|(with_reducible refine bh.mk ?_)|(with_reducible refine bf.mk ?_));(with_reducible conv=>whnf);(with_reducible conv=>congr<;>reduce)))|((with_reducible show(_∧_)∧_∧_);refine⟨⟨rfl,rfl⟩,?_,?_⟩<;>(with_reducible conv=>whnf)<;>repeat' (first|(with_reducible exact trivial)|(with_reducible refine And.intro ?_ ?_<;>with_reducible conv=>whnf))))
  refine bE.ghost 5 51 1 rfl rfl ?_
  refine bE.use G ak (fun(i:List Int×List Int×List Int)=>[(2,.ptr 20 0 0),(5,.own 51 0 i.1.length),(6,.ptr 60 0 0)])
    (fun i=>[(20,.live 2 [aN ⟨l,m⟩] false),(51,iv i.1),(60,.live 1 [.own 181 0 i.2.1.length] false),(181,iv (i.2.1++i.2.2))])
    (fun i=>U.bQ l l.length n=i.1++U.rest l i.2.1∧∀c∈i.2.1,af l c=true) (fun i=>l.length-i.1.length) ([],[n],[]) ⟨by simp[U.rest],fun c hc=>by rw[je] at hc;subst hc;exact hn⟩
    (by refine⟨⟨rfl,rfl⟩,⟨⟨rfl,rfl⟩,⟨rfl,rfl⟩,⟨rfl,rfl⟩,trivial⟩,⟨⟨rfl,rfl,trivial⟩,trivial⟩,⟨.refl rfl,aa _⟩,⟨⟨rfl,rfl⟩,trivial⟩,⟨.refl rfl,aa _⟩,trivial⟩) ?_
  rintro⟨out,st,sp⟩ ⟨ho,hst⟩
  simp only at ho hst
  ((with_reducible conv=>whnf);(with_reducible conv=>congr<;>reduce);repeat((first|(with_reducible refine bh.mk ?_)|(with_reducible refine bf.mk ?_));(with_reducible conv=>whnf);(with_reducible conv=>congr<;>reduce)))
  have hoL:=congrArg List.length ho
  rw[jN] at hoL
  have hol':out.length=(out.map bJ).length:=(bP ..).symm
  have hrl:=U.yC T hst
  have hl60:=hs.len
  simp only at hl60
  obtain h|⟨st',t,h⟩:=List.eq_nil_or_concat st<;>(try rw[List.concat_eq_append] at h)<;>subst h
  · repeat' (first|(first|((with_reducible show aM _ _ _ _);first|refine aM.ff ?_|refine aM.tt ?_|refine aM.no (by first|rfl|assumption|exact nf (by assumption)|exact nt (by assumption)|((try simp only[aq]);first|(simp[];done)|(simp[];omega))) ?_|refine aM.yes (by first|rfl|assumption|exact nf (by assumption)|exact nt (by assumption)|((try simp only[aq]);first|(simp[];done)|(simp[];omega))) ?_)|((with_reducible show aY _ _ _ _);refine aY.mk (by(try simp only[aq]);omega) ?_)|((with_reducible show aB _ _ _ _);refine aB.mk (by kernel_rfl) (by kernel_rfl) (by kernel_rfl) ?_))<;>((with_reducible conv=>whnf);(with_reducible conv=>congr<;>reduce);repeat((first|(with_reducible refine bh.mk ?_)|(with_reducible refine bf.mk ?_));(with_reducible conv=>whnf);(with_reducible conv=>congr<;>reduce)))|((with_reducible show(_∧_)∧_∧_);refine⟨⟨rfl,rfl⟩,?_,?_⟩<;>(with_reducible conv=>whnf)<;>repeat' (first|(with_reducible exact trivial)|(with_reducible refine And.intro ?_ ?_<;>with_reducible conv=>whnf))))
    all_goals have ho':U.bQ l l.length n=out:=by rw[ho];simp[U.rest]
    all_goals clear ho hoL
    all_goals subst ho'
    all_goals first|rfl|exact cq (aa _)
  · have ht :=hst t (by simp)
    have hlen:(st'++ [t]).length=st'.length+1:=by simp
    obtain⟨k,x,rfl,hx,hnx⟩:=aI.1 ht
    rw[hlen]
    rw[hlen] at hrl
    repeat' (first|(first|((with_reducible show aM _ _ _ _);first|refine aM.ff ?_|refine aM.tt ?_|refine aM.no (by first|rfl|assumption|exact nf (by assumption)|exact nt (by assumption)|((try simp only[aq]);first|(simp[];done)|(simp[];omega))) ?_|refine aM.yes (by first|rfl|assumption|exact nf (by assumption)|exact nt (by assumption)|((try simp only[aq]);first|(simp[];done)|(simp[];omega))) ?_)|((with_reducible show aY _ _ _ _);refine aY.mk (by(try simp only[aq]);omega) ?_)|((with_reducible show aB _ _ _ _);refine aB.mk (by kernel_rfl) (by kernel_rfl) (by kernel_rfl) ?_))<;>((with_reducible conv=>whnf);(with_reducible conv=>congr<;>reduce);repeat((first|(with_reducible refine bh.mk ?_)|(with_reducible refine bf.mk ?_));(with_reducible conv=>whnf);(with_reducible conv=>congr<;>reduce)))|((with_reducible show(_∧_)∧_∧_);refine⟨⟨rfl,rfl⟩,?_,?_⟩<;>(with_reducible conv=>whnf)<;>repeat' (first|(with_reducible exact trivial)|(with_reducible refine And.intro ?_ ?_<;>with_reducible conv=>whnf))))
    refine fM.mk st'.length (by(try simp only[aq]);omega) (by omega) ?_;((with_reducible conv=>whnf);(with_reducible conv=>congr<;>reduce);repeat((first|(with_reducible refine bh.mk ?_)|(with_reducible refine bf.mk ?_));(with_reducible conv=>whnf);(with_reducible conv=>congr<;>reduce)))
    refine bu.mk (ah (k:Int)) (by rw[Nat.zero_add,fZ,List.append_assoc,List.getElem?_append_right (Nat.le_refl _),Nat.sub_self];rfl) ?_;((with_reducible conv=>whnf);(with_reducible conv=>congr<;>reduce);repeat((first|(with_reducible refine bh.mk ?_)|(with_reducible refine bf.mk ?_));(with_reducible conv=>whnf);(with_reducible conv=>congr<;>reduce)))
    repeat' (first|(first|((with_reducible show aM _ _ _ _);first|refine aM.ff ?_|refine aM.tt ?_|refine aM.no (by first|rfl|assumption|exact nf (by assumption)|exact nt (by assumption)|((try simp only[aq]);first|(simp[];done)|(simp[];omega))) ?_|refine aM.yes (by first|rfl|assumption|exact nf (by assumption)|exact nt (by assumption)|((try simp only[aq]);first|(simp[];done)|(simp[];omega))) ?_)|((with_reducible show aY _ _ _ _);refine aY.mk (by(try simp only[aq]);omega) ?_)|((with_reducible show aB _ _ _ _);refine aB.mk (by kernel_rfl) (by kernel_rfl) (by kernel_rfl) ?_))<;>((with_reducible conv=>whnf);(with_reducible conv=>congr<;>reduce);repeat((first|(with_reducible refine bh.mk ?_)|(with_reducible refine bf.mk ?_));(with_reducible conv=>whnf);(with_reducible conv=>congr<;>reduce)))|((with_reducible show(_∧_)∧_∧_);refine⟨⟨rfl,rfl⟩,?_,?_⟩<;>(with_reducible conv=>whnf)<;>repeat' (first|(with_reducible exact trivial)|(with_reducible refine And.intro ?_ ?_<;>with_reducible conv=>whnf))))
    refine ve.mk 0 st'.length rfl (by(try simp only[aq]);omega) (by omega) ?_;((with_reducible conv=>whnf);(with_reducible conv=>congr<;>reduce);repeat((first|(with_reducible refine bh.mk ?_)|(with_reducible refine bf.mk ?_));(with_reducible conv=>whnf);(with_reducible conv=>congr<;>reduce)))
    repeat' (first|(first|((with_reducible show aM _ _ _ _);first|refine aM.ff ?_|refine aM.tt ?_|refine aM.no (by first|rfl|assumption|exact nf (by assumption)|exact nt (by assumption)|((try simp only[aq]);first|(simp[];done)|(simp[];omega))) ?_|refine aM.yes (by first|rfl|assumption|exact nf (by assumption)|exact nt (by assumption)|((try simp only[aq]);first|(simp[];done)|(simp[];omega))) ?_)|((with_reducible show aY _ _ _ _);refine aY.mk (by(try simp only[aq]);omega) ?_)|((with_reducible show aB _ _ _ _);refine aB.mk (by kernel_rfl) (by kernel_rfl) (by kernel_rfl) ?_))<;>((with_reducible conv=>whnf);(with_reducible conv=>congr<;>reduce);repeat((first|(with_reducible refine bh.mk ?_)|(with_reducible refine bf.mk ?_));(with_reducible conv=>whnf);(with_reducible conv=>congr<;>reduce)))|((with_reducible show(_∧_)∧_∧_);refine⟨⟨rfl,rfl⟩,?_,?_⟩<;>(with_reducible conv=>whnf)<;>repeat' (first|(with_reducible exact trivial)|(with_reducible refine And.intro ?_ ?_<;>with_reducible conv=>whnf))))
    refine dO.mk (out.map bJ) [ah (k:Int)] ⟨rfl,hol',rfl⟩ ⟨rfl,rfl,rfl⟩ rfl (by simp;omega) (by simp;omega) ?_;((with_reducible conv=>whnf);(with_reducible conv=>congr<;>reduce);repeat((first|(with_reducible refine bh.mk ?_)|(with_reducible refine bf.mk ?_));(with_reducible conv=>whnf);(with_reducible conv=>congr<;>reduce)))
    repeat' (first|(first|((with_reducible show aM _ _ _ _);first|refine aM.ff ?_|refine aM.tt ?_|refine aM.no (by first|rfl|assumption|exact nf (by assumption)|exact nt (by assumption)|((try simp only[aq]);first|(simp[];done)|(simp[];omega))) ?_|refine aM.yes (by first|rfl|assumption|exact nf (by assumption)|exact nt (by assumption)|((try simp only[aq]);first|(simp[];done)|(simp[];omega))) ?_)|((with_reducible show aY _ _ _ _);refine aY.mk (by(try simp only[aq]);omega) ?_)|((with_reducible show aB _ _ _ _);refine aB.mk (by kernel_rfl) (by kernel_rfl) (by kernel_rfl) ?_))<;>((with_reducible conv=>whnf);(with_reducible conv=>congr<;>reduce);repeat((first|(with_reducible refine bh.mk ?_)|(with_reducible refine bf.mk ?_));(with_reducible conv=>whnf);(with_reducible conv=>congr<;>reduce)))|((with_reducible show(_∧_)∧_∧_);refine⟨⟨rfl,rfl⟩,?_,?_⟩<;>(with_reducible conv=>whnf)<;>repeat' (first|(with_reducible exact trivial)|(with_reducible refine And.intro ?_ ?_<;>with_reducible conv=>whnf))))
    obtain⟨a1,a2,a3,a4,a5,a6,a7,a8,a9,a10⟩:=x
    refine aH.mk k (aG ⟨a1,a2,a3,a4,a5,a6,a7,a8,a9,a10⟩) rfl (az hx) ?_;((with_reducible conv=>whnf);(with_reducible conv=>congr<;>reduce);repeat((first|(with_reducible refine bh.mk ?_)|(with_reducible refine bf.mk ?_));(with_reducible conv=>whnf);(with_reducible conv=>congr<;>reduce)))
    repeat' (first|(first|((with_reducible show aM _ _ _ _);first|refine aM.ff ?_|refine aM.tt ?_|refine aM.no (by first|rfl|assumption|exact nf (by assumption)|exact nt (by assumption)|((try simp only[aq]);first|(simp[];done)|(simp[];omega))) ?_|refine aM.yes (by first|rfl|assumption|exact nf (by assumption)|exact nt (by assumption)|((try simp only[aq]);first|(simp[];done)|(simp[];omega))) ?_)|((with_reducible show aY _ _ _ _);refine aY.mk (by(try simp only[aq]);omega) ?_)|((with_reducible show aB _ _ _ _);refine aB.mk (by kernel_rfl) (by kernel_rfl) (by kernel_rfl) ?_))<;>((with_reducible conv=>whnf);(with_reducible conv=>congr<;>reduce);repeat((first|(with_reducible refine bh.mk ?_)|(with_reducible refine bf.mk ?_));(with_reducible conv=>whnf);(with_reducible conv=>congr<;>reduce)))|((with_reducible show(_∧_)∧_∧_);refine⟨⟨rfl,rfl⟩,?_,?_⟩<;>(with_reducible conv=>whnf)<;>repeat' (first|(with_reducible exact trivial)|(with_reducible refine And.intro ?_ ?_<;>with_reducible conv=>whnf))))
    refine ae.val [] (Hu a7) MU ⟨rfl,trivial⟩ rfl rfl rfl ?_;((with_reducible conv=>whnf);(with_reducible conv=>congr<;>reduce);repeat((first|(with_reducible refine bh.mk ?_)|(with_reducible refine bf.mk ?_));(with_reducible conv=>whnf);(with_reducible conv=>congr<;>reduce)))
    repeat' (first|(first|((with_reducible show aM _ _ _ _);first|refine aM.ff ?_|refine aM.tt ?_|refine aM.no (by first|rfl|assumption|exact nf (by assumption)|exact nt (by assumption)|((try simp only[aq]);first|(simp[];done)|(simp[];omega))) ?_|refine aM.yes (by first|rfl|assumption|exact nf (by assumption)|exact nt (by assumption)|((try simp only[aq]);first|(simp[];done)|(simp[];omega))) ?_)|((with_reducible show aY _ _ _ _);refine aY.mk (by(try simp only[aq]);omega) ?_)|((with_reducible show aB _ _ _ _);refine aB.mk (by kernel_rfl) (by kernel_rfl) (by kernel_rfl) ?_))<;>((with_reducible conv=>whnf);(with_reducible conv=>congr<;>reduce);repeat((first|(with_reducible refine bh.mk ?_)|(with_reducible refine bf.mk ?_));(with_reducible conv=>whnf);(with_reducible conv=>congr<;>reduce)))|((with_reducible show(_∧_)∧_∧_);refine⟨⟨rfl,rfl⟩,?_,?_⟩<;>(with_reducible conv=>whnf)<;>repeat' (first|(with_reducible exact trivial)|(with_reducible refine And.intro ?_ ?_<;>with_reducible conv=>whnf))))
    obtain⟨spF,hs0,hs1⟩:∃spF:Nat→List Int,spF 0=(k:Int)::sp∧∀j,spF (j+1)=[]:=⟨fun j=>match j with|0=>(k:Int)::sp|_+1=>[],rfl,fun _=>rfl⟩
    have hk7:=hs.kids _ (bV hx)
    simp only at hk7
    refine bE.range G ak 4 [(2,.ptr 1 0 0),(5,.own 3 0 (out.length+1)),(6,.ptr 0 0 0),(9,.ptr 2 0 0),(43,.clo (.func 193) [] [.fptr (bY a7) 0])]
      (fun j=>[(0,.live 1 [.own 181 0 (st'.length+j)] false),(1,.live 2 [aN ⟨l,m⟩] false),(2,.live 10 [aG ⟨a1,a2,a3,a4,a5,a6,a7,a8,a9,a10⟩] false),(3,iv (out++ [(k:Int)])),(181,iv (st'++a7.reverse.take j++spF j))])
      (Ir a7 (by omega)) Md ?_ rfl ⟨⟨rfl,rfl⟩,rfl⟩ (fun _ _=>rfl) (fun _ _=>rfl) ⟨⟨rfl,rfl⟩,rfl,rfl⟩ ?_ ?_
    · refine⟨⟨rfl,rfl⟩,?_⟩
      (with_reducible conv=>whnf)
      repeat' (first|(with_reducible exact trivial)|(with_reducible refine And.intro ?_ ?_<;>with_reducible conv=>whnf))
      all_goals try rfl
      ·simp
      ·exact⟨.refl rfl,rfl⟩
      ·exact⟨.refl rfl,rfl⟩
      · refine⟨?_,aa _⟩
        rw[←show(out++ [(k:Int)]).map bJ=out.map bJ++ [AV.lit (.int .i64 k)] by simp;rfl]
        exact .refl (aa _)
      · refine⟨?_,aa _⟩
        rw[hs0,List.take_zero,List.append_nil,show st'++ [(k:Int)]++sp=st'++ (k:Int)::sp by simp];exact .refl (aa _)
    · intro j hj
      ((with_reducible conv=>whnf);(with_reducible conv=>congr<;>reduce);repeat((first|(with_reducible refine bh.mk ?_)|(with_reducible refine bf.mk ?_));(with_reducible conv=>whnf);(with_reducible conv=>congr<;>reduce)))
      refine Bp.mk rfl ?_;((with_reducible conv=>whnf);(with_reducible conv=>congr<;>reduce);repeat((first|(with_reducible refine bh.mk ?_)|(with_reducible refine bf.mk ?_));(with_reducible conv=>whnf);(with_reducible conv=>congr<;>reduce)))
      repeat' (first|(first|((with_reducible show aM _ _ _ _);first|refine aM.ff ?_|refine aM.tt ?_|refine aM.no (by first|rfl|assumption|exact nf (by assumption)|exact nt (by assumption)|((try simp only[aq]);first|(simp[];done)|(simp[];omega))) ?_|refine aM.yes (by first|rfl|assumption|exact nf (by assumption)|exact nt (by assumption)|((try simp only[aq]);first|(simp[];done)|(simp[];omega))) ?_)|((with_reducible show aY _ _ _ _);refine aY.mk (by(try simp only[aq]);omega) ?_)|((with_reducible show aB _ _ _ _);refine aB.mk (by kernel_rfl) (by kernel_rfl) (by kernel_rfl) ?_))<;>((with_reducible conv=>whnf);(with_reducible conv=>congr<;>reduce);repeat((first|(with_reducible refine bh.mk ?_)|(with_reducible refine bf.mk ?_));(with_reducible conv=>whnf);(with_reducible conv=>congr<;>reduce)))|((with_reducible show(_∧_)∧_∧_);refine⟨⟨rfl,rfl⟩,?_,?_⟩<;>(with_reducible conv=>whnf)<;>repeat' (first|(with_reducible exact trivial)|(with_reducible refine And.intro ?_ ?_<;>with_reducible conv=>whnf))))
      refine dO.take ((st'++a7.reverse.take j).map bJ) [bJ ((a7.reverse[j]?).getD 0)] ⟨rfl,by simp;omega,by rw[gm (l₂:=spF j),List.take_left' (by simp;omega)]⟩ ⟨rfl,rfl,rfl⟩ rfl (by simp;omega) (by simp;omega) ?_
      ((with_reducible conv=>whnf);(with_reducible conv=>congr<;>reduce);repeat((first|(with_reducible refine bh.mk ?_)|(with_reducible refine bf.mk ?_));(with_reducible conv=>whnf);(with_reducible conv=>congr<;>reduce)))
      repeat' (first|(first|((with_reducible show aM _ _ _ _);first|refine aM.ff ?_|refine aM.tt ?_|refine aM.no (by first|rfl|assumption|exact nf (by assumption)|exact nt (by assumption)|((try simp only[aq]);first|(simp[];done)|(simp[];omega))) ?_|refine aM.yes (by first|rfl|assumption|exact nf (by assumption)|exact nt (by assumption)|((try simp only[aq]);first|(simp[];done)|(simp[];omega))) ?_)|((with_reducible show aY _ _ _ _);refine aY.mk (by(try simp only[aq]);omega) ?_)|((with_reducible show aB _ _ _ _);refine aB.mk (by kernel_rfl) (by kernel_rfl) (by kernel_rfl) ?_))<;>((with_reducible conv=>whnf);(with_reducible conv=>congr<;>reduce);repeat((first|(with_reducible refine bh.mk ?_)|(with_reducible refine bf.mk ?_));(with_reducible conv=>whnf);(with_reducible conv=>congr<;>reduce)))|((with_reducible show(_∧_)∧_∧_);refine⟨⟨rfl,rfl⟩,?_,?_⟩<;>(with_reducible conv=>whnf)<;>repeat' (first|(with_reducible exact trivial)|(with_reducible refine And.intro ?_ ?_<;>with_reducible conv=>whnf))))
      refine CB.mk ?_
      obtain⟨c,hc⟩:∃c,a7.reverse[j]? =some c:=⟨_,bH (by simpa using hj)⟩
      have htk:a7.reverse.take (j+1)=a7.reverse.take j++ [c]:=by rw[List.take_add_one,hc];rfl
      rw[hc,Option.getD_some]
      refine⟨⟨rfl,rfl⟩,?_⟩
      (with_reducible conv=>whnf)
      repeat' (first|(with_reducible exact trivial)|(with_reducible refine And.intro ?_ ?_<;>with_reducible conv=>whnf))
      all_goals try rfl
      ·simp;omega
      ·exact⟨.refl rfl,rfl⟩
      ·exact⟨.refl rfl,rfl⟩
      ·exact⟨.refl (aa _),aa _⟩
      · refine⟨?_,aa _⟩
        rw[hs1,htk,List.append_nil,←List.append_assoc,gm (l₂:=[c])];exact .refl (by rw[←gm];exact aa _)
    · ((with_reducible conv=>whnf);(with_reducible conv=>congr<;>reduce);repeat((first|(with_reducible refine bh.mk ?_)|(with_reducible refine bf.mk ?_));(with_reducible conv=>whnf);(with_reducible conv=>congr<;>reduce)))
      refine bu.mk (aG ⟨a1,a2,a3,a4,a5,a6,a7,a8,a9,a10⟩) rfl ?_;((with_reducible conv=>whnf);(with_reducible conv=>congr<;>reduce);repeat((first|(with_reducible refine bh.mk ?_)|(with_reducible refine bf.mk ?_));(with_reducible conv=>whnf);(with_reducible conv=>congr<;>reduce)))
      have hT:nd l k=⟨a1,a2,a3,a4,a5,a6,a7,a8,a9,a10⟩:=hnx
      have hch:zX (nd l k)=(if a9=-1 then[] else[a9])++a7:=by rw[hT];rfl
      have hpop:=U.zz T (st:=st') ht
      rw[hch] at hpop
      have hkid:∀c∈ (if a9=-1 then[] else[a9])++a7,af l c=true:=fun c hc=>(T.kid k ht c (by rw[hch];exact hc)).1
      have hta:a7.reverse.take a7.length=a7.reverse:=qV (by simp)
      by_cases e9:a9=-1
      · subst e9
        rw[if_pos rfl,List.nil_append] at hpop hkid
        repeat' (first|(first|((with_reducible show aM _ _ _ _);first|refine aM.ff ?_|refine aM.tt ?_|refine aM.no (by first|rfl|assumption|exact nf (by assumption)|exact nt (by assumption)|((try simp only[aq]);first|(simp[];done)|(simp[];omega))) ?_|refine aM.yes (by first|rfl|assumption|exact nf (by assumption)|exact nt (by assumption)|((try simp only[aq]);first|(simp[];done)|(simp[];omega))) ?_)|((with_reducible show aY _ _ _ _);refine aY.mk (by(try simp only[aq]);omega) ?_)|((with_reducible show aB _ _ _ _);refine aB.mk (by kernel_rfl) (by kernel_rfl) (by kernel_rfl) ?_))<;>((with_reducible conv=>whnf);(with_reducible conv=>congr<;>reduce);repeat((first|(with_reducible refine bh.mk ?_)|(with_reducible refine bf.mk ?_));(with_reducible conv=>whnf);(with_reducible conv=>congr<;>reduce)))|((with_reducible show(_∧_)∧_∧_);refine⟨⟨rfl,rfl⟩,?_,?_⟩<;>(with_reducible conv=>whnf)<;>repeat' (first|(with_reducible exact trivial)|(with_reducible refine And.intro ?_ ?_<;>with_reducible conv=>whnf))))
        refine aW.mk (out++ [(k:Int)],st'++a7.reverse,spF a7.length) ⟨?_,?_⟩ ?_ ?_
        ·rw[ho,hpop];simp
        · intro c hc
          rcases List.mem_append.1 hc with h|h
          ·exact hst c (by simp[h])
          ·exact hkid c (by simpa using h)
        ·simp only[jN,List.length_singleton];omega
        · refine⟨⟨rfl,rfl⟩,?_⟩
          (with_reducible conv=>whnf)
          repeat' (first|(with_reducible exact trivial)|(with_reducible refine And.intro ?_ ?_<;>with_reducible conv=>whnf))
          all_goals try rfl
          ·simp
          ·exact⟨.refl (aa _),aa _⟩
          ·simp
          · refine⟨?_,aa _⟩
            rw[hta];exact .refl (aa _)
      · rw [if_neg e9] at hpop hkid
        repeat' (first|(first|((with_reducible show aM _ _ _ _);first|refine aM.ff ?_|refine aM.tt ?_|refine aM.no (by first|rfl|assumption|exact nf (by assumption)|exact nt (by assumption)|((try simp only[aq]);first|(simp[e9];done)|(simp[e9];omega))) ?_|refine aM.yes (by first|rfl|assumption|exact nf (by assumption)|exact nt (by assumption)|((try simp only[aq]);first|(simp[e9];done)|(simp[e9];omega))) ?_)|((with_reducible show aY _ _ _ _);refine aY.mk (by(try simp only[aq]);omega) ?_)|((with_reducible show aB _ _ _ _);refine aB.mk (by kernel_rfl) (by kernel_rfl) (by kernel_rfl) ?_))<;>((with_reducible conv=>whnf);(with_reducible conv=>congr<;>reduce);repeat((first|(with_reducible refine bh.mk ?_)|(with_reducible refine bf.mk ?_));(with_reducible conv=>whnf);(with_reducible conv=>congr<;>reduce)))|((with_reducible show(_∧_)∧_∧_);refine⟨⟨rfl,rfl⟩,?_,?_⟩<;>(with_reducible conv=>whnf)<;>repeat' (first|(with_reducible exact trivial)|(with_reducible refine And.intro ?_ ?_<;>with_reducible conv=>whnf))))
        refine bu.mk (aG ⟨a1,a2,a3,a4,a5,a6,a7,a8,a9,a10⟩) rfl ?_;((with_reducible conv=>whnf);(with_reducible conv=>congr<;>reduce);repeat((first|(with_reducible refine bh.mk ?_)|(with_reducible refine bf.mk ?_));(with_reducible conv=>whnf);(with_reducible conv=>congr<;>reduce)))
        repeat' (first|(first|((with_reducible show aM _ _ _ _);first|refine aM.ff ?_|refine aM.tt ?_|refine aM.no (by first|rfl|assumption|exact nf (by assumption)|exact nt (by assumption)|((try simp only[aq]);first|(simp[e9];done)|(simp[e9];omega))) ?_|refine aM.yes (by first|rfl|assumption|exact nf (by assumption)|exact nt (by assumption)|((try simp only[aq]);first|(simp[e9];done)|(simp[e9];omega))) ?_)|((with_reducible show aY _ _ _ _);refine aY.mk (by(try simp only[aq]);omega) ?_)|((with_reducible show aB _ _ _ _);refine aB.mk (by kernel_rfl) (by kernel_rfl) (by kernel_rfl) ?_))<;>((with_reducible conv=>whnf);(with_reducible conv=>congr<;>reduce);repeat((first|(with_reducible refine bh.mk ?_)|(with_reducible refine bf.mk ?_));(with_reducible conv=>whnf);(with_reducible conv=>congr<;>reduce)))|((with_reducible show(_∧_)∧_∧_);refine⟨⟨rfl,rfl⟩,?_,?_⟩<;>(with_reducible conv=>whnf)<;>repeat' (first|(with_reducible exact trivial)|(with_reducible refine And.intro ?_ ?_<;>with_reducible conv=>whnf))))
        refine dO.take ((st'++a7.reverse).map bJ) [ah a9] ⟨rfl,by simp,by rw[hta,gm (l₂:=spF a7.length),List.take_left' (by simp)]⟩ ⟨rfl,rfl,rfl⟩ rfl (by simp;omega) (by simp;omega) ?_
        ((with_reducible conv=>whnf);(with_reducible conv=>congr<;>reduce);repeat((first|(with_reducible refine bh.mk ?_)|(with_reducible refine bf.mk ?_));(with_reducible conv=>whnf);(with_reducible conv=>congr<;>reduce)))
        repeat' (first|(first|((with_reducible show aM _ _ _ _);first|refine aM.ff ?_|refine aM.tt ?_|refine aM.no (by first|rfl|assumption|exact nf (by assumption)|exact nt (by assumption)|((try simp only[aq]);first|(simp[e9];done)|(simp[e9];omega))) ?_|refine aM.yes (by first|rfl|assumption|exact nf (by assumption)|exact nt (by assumption)|((try simp only[aq]);first|(simp[e9];done)|(simp[e9];omega))) ?_)|((with_reducible show aY _ _ _ _);refine aY.mk (by(try simp only[aq]);omega) ?_)|((with_reducible show aB _ _ _ _);refine aB.mk (by kernel_rfl) (by kernel_rfl) (by kernel_rfl) ?_))<;>((with_reducible conv=>whnf);(with_reducible conv=>congr<;>reduce);repeat((first|(with_reducible refine bh.mk ?_)|(with_reducible refine bf.mk ?_));(with_reducible conv=>whnf);(with_reducible conv=>congr<;>reduce)))|((with_reducible show(_∧_)∧_∧_);refine⟨⟨rfl,rfl⟩,?_,?_⟩<;>(with_reducible conv=>whnf)<;>repeat' (first|(with_reducible exact trivial)|(with_reducible refine And.intro ?_ ?_<;>with_reducible conv=>whnf))))
        refine aW.mk (out++ [(k:Int)],st'++a7.reverse++ [a9],[]) ⟨?_,?_⟩ ?_ ?_
        ·rw[ho,hpop];simp
        · intro c hc
          rcases List.mem_append.1 hc with h|h
          · rcases List.mem_append.1 h with h|h
            ·exact hst c (by simp[h])
            ·exact hkid c (by simp at h;simp[h])
          ·exact hkid c (by simp at h;simp[h])
        ·simp only[jN,List.length_singleton];omega
        · refine⟨⟨rfl,rfl⟩,?_⟩
          (with_reducible conv=>whnf)
          repeat' (first|(with_reducible exact trivial)|(with_reducible refine And.intro ?_ ?_<;>with_reducible conv=>whnf))
          all_goals try rfl
          ·simp
          ·exact⟨.refl (aa _),aa _⟩
          ·simp
          · refine⟨?_,aa _⟩
            rw[List.append_nil,gm (l₂:=[a9])];exact .refl (by rw[←gm];exact aa _)
end Go.Proofs.Heir
