/- Models, plain laws and contracts of functions of the given program; conditions as stated in each theorem. By an AI agent. -/
import Derived.Test.YtkhjcnjicjgfiaaGreatDoorW15
import Derived.Test.YtkhjcnjicjgfiaaGreatDoorW17
import Derived.Test.YtkhjcnjicjgfiaaGreatDoorW18
import Derived.Test.YtkhjcnjicjgfiaaGreatDoorW6
import Derived.Test.YtkhjcnjicjgfiaaGreatDoorW9
import Derived.Test.YtkhjcnjicjgfiaaGreatDoorW13
import Derived.Test.YtkhjcnjicjgfiaaGreatDoorW7
import Derived.Shelf.Spec.SlicesInsert
import Derived.Shelf.Spec.SlicesInsertGrow
import Derived.Test.YtkhjcnjicjgfiaaGreatDoorProg
import Derived.Lib.Overlaps
import Derived.Laws.Externs
import Derived.Laws.IdiomCopy
set_option linter.unusedSimpArgs false
set_option linter.unusedVariables false
namespace Go.Proofs.Heir
open Go Go.Am Go.RowKit Go.Lib
set_option maxRecDepth 100000
set_option maxHeartbeats 8000000
theorem aO (f:ForM)(ns:List aQ)(e:Int):bD (.tup [aR f,lQ ns,ah e])=true:=by
  have h1:=aM f.nodes
  have h2:bu (ns.map gm)=true:=iJ gm (fun _=>rfl) _
  simp[bD,bu,h1,h2]
theorem D4 (f:ForM)(n:Int)(s v:ByteArray)          (r:ForM)(ns:List aQ)(z:Int)(h57:aj Tryz.prog 57 [] [aR f,ah n] [] eI)
    (h56:aj Tryz.prog 56 [] [aR f,eI,.clo (.func 58) [] [.fptr (ah n) 0,.fptr (bX s) 0,.fptr (bX v) 0]] [] (.tup [aR r,lQ ns,ah z])):aj Tryz.prog 18 [] [aR f,ah n,bX s,bX v] [] (.tup [aR r,lQ ns,ah z]):=by
  obtain⟨l,m⟩:=f
  obtain⟨l',m'⟩:=r
  have hn:=aO ⟨l',m'⟩ ns z
  refine aj.aD (rvs:=[.cell 8 24,.tmp 9,.tmp 10]) G au Tryz.func18 rfl Tryz.ntmps18 rfl rfl ?_;with_reducible refine wD ?_
  repeat' (first
    |refine gK ?_
    | ((first
      |((with_reducible show ae _ _ 57 _ _ _ _);refine ae.lit [] h57 OJ ⟨⟨rfl,rfl,trivial⟩,rfl,trivial⟩ rfl rfl ?_)
      |((with_reducible show ae _ _ 56 _ _ _ _);refine ae.val [50,60,70] h56 F1 ⟨⟨rfl,rfl,trivial⟩,⟨rfl,rfl⟩,⟨rfl,trivial,⟨_,_,_,_,_,rfl,rfl,rfl,rfl,rfl,rfl⟩,⟨_,_,_,_,_,rfl,rfl,rfl,rfl,rfl,rfl⟩,⟨_,_,_,_,_,rfl,rfl,rfl,rfl,rfl,rfl⟩,trivial⟩,trivial⟩ rfl rfl hn ?_)
      |((with_reducible show aI _ _ _ _);refine dK ?_))<;>with_reducible refine wK ?_)
    |((with_reducible show(_∧_)∧_∧_);(refine eK ?_ ?_<;>with_reducible repeat' (first|exact trivial|(show _∧_;refine aK ?_ ?_)))))
  all_goals first|rfl|trace_state
theorem DD (f:ForM)(n:Int)(s v:ByteArray)(what:ByteArray)(e:Int)(r:ForM)(ns:List aQ)(z:Int)(h57:aj Tryz.prog 57 [] [aR f,ah n] [] (.lit (hO what e)))
    (h56:aj Tryz.prog 56 [] [aR f,(.lit (hO what e)),.clo (.func 58) [] [.fptr (ah n) 0,.fptr (bX s) 0,.fptr (bX v) 0]] [] (.tup [aR r,lQ ns,ah z])):aj Tryz.prog 18 [] [aR f,ah n,bX s,bX v] [] (.tup [aR r,lQ ns,ah z]):=by
  obtain⟨l,m⟩:=f
  obtain⟨l',m'⟩:=r
  have hn:=aO ⟨l',m'⟩ ns z
  refine aj.aD (rvs:=[.cell 8 24,.tmp 9,.tmp 10]) G au Tryz.func18 rfl Tryz.ntmps18 rfl rfl ?_;with_reducible refine wD ?_
  repeat' (first
    |refine gK ?_
    | ((first
      |((with_reducible show ae _ _ 57 _ _ _ _);refine ae.lit [] h57 OJ ⟨⟨rfl,rfl,trivial⟩,rfl,trivial⟩ rfl rfl ?_)
      |((with_reducible show ae _ _ 56 _ _ _ _);refine ae.val [50,60,70] h56 F1 ⟨⟨rfl,rfl,trivial⟩,⟨rfl,rfl⟩,⟨rfl,trivial,⟨_,_,_,_,_,rfl,rfl,rfl,rfl,rfl,rfl⟩,⟨_,_,_,_,_,rfl,rfl,rfl,rfl,rfl,rfl⟩,⟨_,_,_,_,_,rfl,rfl,rfl,rfl,rfl,rfl⟩,trivial⟩,trivial⟩ rfl rfl hn ?_)
      |((with_reducible show aI _ _ _ _);refine dK ?_))<;>with_reducible refine wK ?_)
    |((with_reducible show(_∧_)∧_∧_);(refine eK ?_ ?_<;>with_reducible repeat' (first|exact trivial|(show _∧_;refine aK ?_ ?_)))))
  all_goals first|rfl|trace_state
theorem pZ (f:ForM)(n:Int)(s:ByteArray)(c:Int)             (r:ForM)(ns:List aQ)(z:Int)(h57:aj Tryz.prog 57 [] [aR f,ah n] [] eI)
    (h56:aj Tryz.prog 56 [] [aR f,eI,.clo (.func 94) [] [.fptr (ah n) 0,.fptr (bX s) 0,.fptr (ah c) 0]] [] (.tup [aR r,lQ ns,ah z])):aj Tryz.prog 43 [] [aR f,ah n,bX s,ah c] [] (.tup [aR r,lQ ns,ah z]):=by
  obtain⟨l,m⟩:=f
  obtain⟨l',m'⟩:=r
  have hn:=aO ⟨l',m'⟩ ns z
  refine aj.aD (rvs:=[.cell 8 24,.tmp 9,.tmp 10]) G au Tryz.func43 rfl Tryz.ntmps43 rfl rfl ?_;with_reducible refine wD ?_
  repeat' (first
    |refine gK ?_
    | ((first
      |((with_reducible show ae _ _ 57 _ _ _ _);refine ae.lit [] h57 OJ ⟨⟨rfl,rfl,trivial⟩,rfl,trivial⟩ rfl rfl ?_)
      |((with_reducible show ae _ _ 56 _ _ _ _);refine ae.val [50,60,70] h56 F1 ⟨⟨rfl,rfl,trivial⟩,⟨rfl,rfl⟩,⟨rfl,trivial,⟨_,_,_,_,_,rfl,rfl,rfl,rfl,rfl,rfl⟩,⟨_,_,_,_,_,rfl,rfl,rfl,rfl,rfl,rfl⟩,⟨_,_,_,_,_,rfl,rfl,rfl,rfl,rfl,rfl⟩,trivial⟩,trivial⟩ rfl rfl hn ?_)
      |((with_reducible show aI _ _ _ _);refine dK ?_))<;>with_reducible refine wK ?_)
    |((with_reducible show(_∧_)∧_∧_);(refine eK ?_ ?_<;>with_reducible repeat' (first|exact trivial|(show _∧_;refine aK ?_ ?_)))))
  all_goals first|rfl|trace_state
theorem vC (f:ForM)(n:Int)(s:ByteArray)(c:Int)(what:ByteArray)(e:Int)(r:ForM)(ns:List aQ)(z:Int)(h57:aj Tryz.prog 57 [] [aR f,ah n] [] (.lit (hO what e)))
    (h56:aj Tryz.prog 56 [] [aR f,(.lit (hO what e)),.clo (.func 94) [] [.fptr (ah n) 0,.fptr (bX s) 0,.fptr (ah c) 0]] [] (.tup [aR r,lQ ns,ah z])):aj Tryz.prog 43 [] [aR f,ah n,bX s,ah c] [] (.tup [aR r,lQ ns,ah z]):=by
  obtain⟨l,m⟩:=f
  obtain⟨l',m'⟩:=r
  have hn:=aO ⟨l',m'⟩ ns z
  refine aj.aD (rvs:=[.cell 8 24,.tmp 9,.tmp 10]) G au Tryz.func43 rfl Tryz.ntmps43 rfl rfl ?_;with_reducible refine wD ?_
  repeat' (first
    |refine gK ?_
    | ((first
      |((with_reducible show ae _ _ 57 _ _ _ _);refine ae.lit [] h57 OJ ⟨⟨rfl,rfl,trivial⟩,rfl,trivial⟩ rfl rfl ?_)
      |((with_reducible show ae _ _ 56 _ _ _ _);refine ae.val [50,60,70] h56 F1 ⟨⟨rfl,rfl,trivial⟩,⟨rfl,rfl⟩,⟨rfl,trivial,⟨_,_,_,_,_,rfl,rfl,rfl,rfl,rfl,rfl⟩,⟨_,_,_,_,_,rfl,rfl,rfl,rfl,rfl,rfl⟩,⟨_,_,_,_,_,rfl,rfl,rfl,rfl,rfl,rfl⟩,trivial⟩,trivial⟩ rfl rfl hn ?_)
      |((with_reducible show aI _ _ _ _);refine dK ?_))<;>with_reducible refine wK ?_)
    |((with_reducible show(_∧_)∧_∧_);(refine eK ?_ ?_<;>with_reducible repeat' (first|exact trivial|(show _∧_;refine aK ?_ ?_)))))
  all_goals first|rfl|trace_state
theorem uk (f:ForM)(hs:bC f.nodes)(n:Int)(s v:ByteArray)(hs3:s.size≤100000):aj Tryz.prog 18 [] [aR f,ah n,bX s,bX v] [] (.tup [aR (gJ f n s v).1,lQ (gJ f n s v).2.1,ah (gJ f n s v).2.2]):=by
  cases ht:(bw f&&af f.nodes n) with
  | false=>
    have e:gJ f n s v=(f,[],1):=by unfold gJ jr;rw[ht];rfl
    rw[e]
    exact DD f n s v mH 1 f [] 1 (Ee f hs n ht) (jZ f hs 58 _ mH 1)
  | true =>
    simp only[bO] at ht
    obtain⟨hr,ht⟩:=ht
    obtain⟨k,y,rfl,hy,_⟩:=aW.1 ht
    have hnd:=cF hy
    by_cases hk:y.kind=1
    · have he0:jr f k=0:=by unfold jr;rw[hr,ht,hnd,hk];rfl
      have h57:=Af f hs k y hy hr hk
      by_cases he:(cw y.attrs s v).2=0
      · have e:gJ f k s v=(⟨gM f.nodes k (cw y.attrs s v).1,f.most⟩,[rE y k s (cw y.attrs s v).1],0):=by
          unfold gJ;rw[he0,hnd];simp only[he,ne_eq,not_true,if_false]
          unfold gP lR;rw[hnd,if_pos (.inr (sF he))]
        rw[e]
        exact D4 f k s v _ _ _ h57 (xJ f hs 58 PS _ rfl _ _ (eZ ..) (Jg f.nodes f.most hs k y hy s v hs3 he))
      · have e:gJ f k s v=(f,[],(cw y.attrs s v).2):=by
          unfold gJ;rw[he0,hnd];simp[he]
        rw[e]
        exact D4 f k s v _ _ _ h57 (vI f hs 58 PS _ rfl GQ _ (H8 f.nodes f.most hs k y hy s v hs3 he))
    · have e:gJ f k s v=(f,[],5):=by
        have:jr f k=5:=by unfold jr;rw[hr,ht,hnd];simp[hk]
        unfold gJ;rw[this];rfl
      rw[e]
      exact DD f k s v sk 5 f [] 5 (yd f hs k y hy hr hk) (jZ f hs 58 _ sk 5)
theorem ru (f :ForM)(hs:bC f.nodes)(n:Int)(s:ByteArray)(c:Int)(hs3:s.size≤100000):aj Tryz.prog 43 [] [aR f,ah n,bX s,ah c] [] (.tup [aR (dn f n s c).1,lQ (dn f n s c).2.1,ah (dn f n s c).2.2]):=by
  cases ht:(bw f&&af f.nodes n) with
  | false=>
    have e:dn f n s c=(f,[],1):=by unfold dn jr;rw[ht];rfl
    rw[e]
    exact vC f n s c mH 1 f [] 1 (Ee f hs n ht) (jZ f hs 94 _ mH 1)
  | true =>
    simp only[bO] at ht
    obtain⟨hr,ht⟩:=ht
    obtain⟨k,y,rfl,hy,_⟩:=aW.1 ht
    have hnd:=cF hy
    by_cases hk:y.kind=1
    · have he0 : jr f k=0:=by unfold jr;rw[hr,ht,hnd,hk];rfl
      have h57:=Af f hs k y hy hr hk
      by_cases he:(bI y.attrs s c).2.2=0
      · by_cases hw:decide (0≤ck y.attrs s)=(bI y.attrs s c).2.1
        · have e:dn f k s c=(f,[],0):=by
            unfold dn;rw[he0,hnd,if_neg (by simp),if_neg (by simp[he]),if_pos hw]
          rw[e]
          exact pZ f k s c _ _ _ h57 (CI f hs 94 Pn _ rfl _ rfl (zk f.nodes f.most hs k y hy s hs3 c he hw))
        · have e : dn f k s c=gP f k s (bI y.attrs s c).1:=by
            unfold dn;rw[he0,hnd,if_neg (by simp),if_neg (by simp[he]),if_neg hw]
          rw[e]
          unfold gP lR
          rw[hnd]
          have hf :0≤ck y.attrs s∨0≤ck (bI y.attrs s c).1 s:=by
            by_cases h1:gi y.attrs s=0
            · by_cases h2:oL y.attrs s c=decide (0≤ck y.attrs s)
              ·exact absurd (by unfold bI;rw[if_pos h1,if_pos h2]) hw
              · by_cases h3:oL y.attrs s c=true
                · have e1:bI y.attrs s c=((cw y.attrs s kD).1,decide ((cw y.attrs s kD).2=0),(cw y.attrs s kD).2):=by unfold bI;rw[if_pos h1,if_neg h2,if_pos h3]
                  rw[e1] at he ⊢
                  exact .inr (sF he)
                · have e1:bI y.attrs s c=((gh y.attrs s).1,false,0):=by unfold bI;rw[if_pos h1,if_neg h2,if_neg h3]
                  rw[e1] at hw
                  exact .inl (by simpa using hw)
            · have e1:bI y.attrs s c=(y.attrs,false,gi y.attrs s):=by unfold bI;rw[if_neg h1]
              rw[e1] at he
              exact absurd he h1
          rw[if_pos hf]
          exact pZ f k s c _ _ _ h57 (xJ f hs 94 Pn _ rfl _ _ (eZ ..) (A0 f.nodes f.most hs k y hy s hs3 c he hw hf))
      · have e:dn f k s c=(f,[],(bI y.attrs s c).2.2):=by
          unfold dn;rw[he0,hnd,if_neg (by simp),if_pos he]
        rw[e]
        exact pZ f k s c _ _ _ h57 (vI f hs 94 Pn _ rfl uB _ (zU f.nodes f.most hs k y hy s hs3 c he))
    · have e:dn f k s c=(f,[],5):=by
        have:jr f k=5:=by unfold jr;rw[hr,ht,hnd];simp[hk]
        unfold dn;rw[this];rfl
      rw[e]
      exact vC f k s c sk 5 f [] 5 (yd f hs k y hy hr hk) (jZ f hs 94 _ sk 5)
noncomputable def Oc:List (Nat×Func):=[(16,Tryz.f16),(25,Tryz.f25),(17,Tryz.f17),(207,Tryz.f207),(69,Tryz.f69),(133,Tryz.f133),(179,Tryz.f179),(208,Tryz.f208),(55,Tryz.f55),(223,Tryz.f223),(135,Tryz.f135),(137,Tryz.f137),(187,Tryz.f187),(115,Tryz.f115),(116,Tryz.f116),(117,Tryz.f117),(118,Tryz.f118),(119,Tryz.f119),(120,Tryz.f120),(127,Tryz.f127),(67,Tryz.f67),(131,Tryz.f131),(136,Tryz.f136),(129,Tryz.f129),(175,Tryz.f175),(176,Tryz.f176),(177,Tryz.f177),(125,Tryz.f125),(217,Tryz.f217),(124,Tryz.f124),(180,Tryz.f180),(181,Tryz.f181),(182,Tryz.f182),(73,Tryz.f73),(231,Tryz.f231),(183,Tryz.f183),(236,Tryz.f236),(29,Tryz.f29),(56,Tryz.f56),(60,Tryz.f60),(30,Tryz.f30),(74,Tryz.f74),(75,Tryz.f75),(28,Tryz.f28),(121,Tryz.f121),(71,Tryz.f71),(76,Tryz.f76),(27,Tryz.f27),(79,Tryz.f79),(139,Tryz.f139),(141,Tryz.f141),(138,Tryz.f138),(142,Tryz.f142),(144,Tryz.f144),(191,Tryz.f191),(83,Tryz.f83),(34,Tryz.f34),(35,Tryz.f35),(84,Tryz.f84),(147,Tryz.f147),(149,Tryz.f149),(192,Tryz.f192),(81,Tryz.f81),(63,Tryz.f63),(143,Tryz.f143),(140,Tryz.f140),(32,Tryz.f32),(77,Tryz.f77),(78,Tryz.f78),(70,Tryz.f70),(123,Tryz.f123)]
theorem KG:∀p∈Oc,Tryz.prog.funcs[p.1]? =some p.2∧ak Tryz.prog p.1:=List.forall_mem_cons.2 ⟨⟨Tryz.func16,sM⟩,List.forall_mem_cons.2 ⟨⟨Tryz.func25,Nl⟩,List.forall_mem_cons.2 ⟨⟨Tryz.func17,qy⟩,List.forall_mem_cons.2 ⟨⟨Tryz.func207,ND⟩,List.forall_mem_cons.2 ⟨⟨Tryz.func69,PG⟩,List.forall_mem_cons.2 ⟨⟨Tryz.func133,F5⟩,List.forall_mem_cons.2 ⟨⟨Tryz.func179,Lb⟩,List.forall_mem_cons.2 ⟨⟨Tryz.func208,N4⟩,List.forall_mem_cons.2 ⟨⟨Tryz.func55,PO⟩,List.forall_mem_cons.2 ⟨⟨Tryz.func223,Og⟩,List.forall_mem_cons.2 ⟨⟨Tryz.func135,PA⟩,List.forall_mem_cons.2 ⟨⟨Tryz.func137,Km⟩,List.forall_mem_cons.2 ⟨⟨Tryz.func187,N8⟩,List.forall_mem_cons.2 ⟨⟨Tryz.func115,CT⟩,List.forall_mem_cons.2 ⟨⟨Tryz.func116,Fe⟩,List.forall_mem_cons.2 ⟨⟨Tryz.func117,I8⟩,List.forall_mem_cons.2 ⟨⟨Tryz.func118,Kx⟩,List.forall_mem_cons.2 ⟨⟨Tryz.func119,Md⟩,List.forall_mem_cons.2 ⟨⟨Tryz.func120,Ox⟩,List.forall_mem_cons.2 ⟨⟨Tryz.func127,LY⟩,List.forall_mem_cons.2 ⟨⟨Tryz.func67,IP⟩,List.forall_mem_cons.2 ⟨⟨Tryz.func131,Jh⟩,List.forall_mem_cons.2 ⟨⟨Tryz.func136,qj⟩,List.forall_mem_cons.2 ⟨⟨Tryz.func129,zD⟩,List.forall_mem_cons.2 ⟨⟨Tryz.func175,EY⟩,List.forall_mem_cons.2 ⟨⟨Tryz.func176,MK⟩,List.forall_mem_cons.2 ⟨⟨Tryz.func177,Oe⟩,List.forall_mem_cons.2 ⟨⟨Tryz.func125,J1⟩,List.forall_mem_cons.2 ⟨⟨Tryz.func217,Px⟩,List.forall_mem_cons.2 ⟨⟨Tryz.func124,Ka⟩,List.forall_mem_cons.2 ⟨⟨Tryz.func180,Ou⟩,List.forall_mem_cons.2 ⟨⟨Tryz.func181,NU⟩,List.forall_mem_cons.2 ⟨⟨Tryz.func182,N2⟩,List.forall_mem_cons.2 ⟨⟨Tryz.func73,Jc⟩,List.forall_mem_cons.2 ⟨⟨Tryz.func231,Pq⟩,List.forall_mem_cons.2 ⟨⟨Tryz.func183,Mz⟩,List.forall_mem_cons.2 ⟨⟨Tryz.func236,O8⟩,List.forall_mem_cons.2 ⟨⟨Tryz.func29,zI⟩,List.forall_mem_cons.2 ⟨⟨Tryz.func56,F1⟩,List.forall_mem_cons.2 ⟨⟨Tryz.func60,F3⟩,List.forall_mem_cons.2 ⟨⟨Tryz.func30,Fo⟩,List.forall_mem_cons.2 ⟨⟨Tryz.func74,OM⟩,List.forall_mem_cons.2 ⟨⟨Tryz.func75,ON⟩,List.forall_mem_cons.2 ⟨⟨Tryz.func28,Ls⟩,List.forall_mem_cons.2 ⟨⟨Tryz.func121,CO⟩,List.forall_mem_cons.2 ⟨⟨Tryz.func71,Bp⟩,List.forall_mem_cons.2 ⟨⟨Tryz.func76,Ml⟩,List.forall_mem_cons.2 ⟨⟨Tryz.func27,Jd⟩,List.forall_mem_cons.2 ⟨⟨Tryz.func79,Nb⟩,List.forall_mem_cons.2 ⟨⟨Tryz.func139,JH⟩,List.forall_mem_cons.2 ⟨⟨Tryz.func141,CZ⟩,List.forall_mem_cons.2 ⟨⟨Tryz.func138,N5⟩,List.forall_mem_cons.2 ⟨⟨Tryz.func142,wE⟩,List.forall_mem_cons.2 ⟨⟨Tryz.func144,Hy⟩,List.forall_mem_cons.2 ⟨⟨Tryz.func191,KQ⟩,List.forall_mem_cons.2 ⟨⟨Tryz.func83,O5⟩,List.forall_mem_cons.2 ⟨⟨Tryz.func34,OS⟩,List.forall_mem_cons.2 ⟨⟨Tryz.func35,Lm⟩,List.forall_mem_cons.2 ⟨⟨Tryz.func84,O0⟩,List.forall_mem_cons.2 ⟨⟨Tryz.func147,IM⟩,List.forall_mem_cons.2 ⟨⟨Tryz.func149,Gu⟩,List.forall_mem_cons.2 ⟨⟨Tryz.func192,OC⟩,List.forall_mem_cons.2 ⟨⟨Tryz.func81,PN⟩,List.forall_mem_cons.2 ⟨⟨Tryz.func63,PV⟩,List.forall_mem_cons.2 ⟨⟨Tryz.func143,IT⟩,List.forall_mem_cons.2 ⟨⟨Tryz.func140,IA⟩,List.forall_mem_cons.2 ⟨⟨Tryz.func32,KN⟩,List.forall_mem_cons.2 ⟨⟨Tryz.func77,L6⟩,List.forall_mem_cons.2 ⟨⟨Tryz.func78,Po⟩,List.forall_mem_cons.2 ⟨⟨Tryz.func70,PI⟩,List.forall_mem_cons.2 ⟨⟨Tryz.func123,KS⟩,fun _ h=>by simp at h⟩⟩⟩⟩⟩⟩⟩⟩⟩⟩⟩⟩⟩⟩⟩⟩⟩⟩⟩⟩⟩⟩⟩⟩⟩⟩⟩⟩⟩⟩⟩⟩⟩⟩⟩⟩⟩⟩⟩⟩⟩⟩⟩⟩⟩⟩⟩⟩⟩⟩⟩⟩⟩⟩⟩⟩⟩⟩⟩⟩⟩⟩⟩⟩⟩⟩⟩⟩⟩⟩⟩
noncomputable def IN:kr:=⟨G,Lt,Oc,GX,M9,[98]⟩
theorem oa:IN.Good Tryz.prog:=⟨au,HZ,KG,FU,Lg,by kernel_rfl,fun t h=>by
  obtain rfl:=ic.1 h
  exact⟨_,Tryz.underlying98⟩⟩
def Lx:ForM:=⟨[⟨0,⟨#[]⟩,⟨#[]⟩,⟨#[]⟩,[],-1,[1],-1,-1,0⟩,⟨1,⟨#[112]⟩,⟨#[]⟩,⟨#[]⟩,[],0,[],-1,-1,0⟩],5⟩
theorem xB:bC Lx.nodes:=⟨by decide,by decide,by decide,by decide⟩
def Nj:qX:=⟨82,[.live 10 [.agg [.lit (.int .i64 (0)),.lit (.string ⟨⟨[]⟩⟩),.lit (.string ⟨⟨[]⟩⟩),.lit (.string ⟨⟨[]⟩⟩),.sl 2 [],.lit (.int .i64 (-1)),.own 1 0 1,.lit (.int .i64 (-1)),.lit (.int .i64 (-1)),.lit (.int .i64 (0))],.agg [.lit (.int .i64 (1)),.lit (.string ⟨⟨[112]⟩⟩),.lit (.string ⟨⟨[]⟩⟩),.lit (.string ⟨⟨[]⟩⟩),.sl 2 [],.lit (.int .i64 (0)),.own 2 0 0,.lit (.int .i64 (-1)),.lit (.int .i64 (-1)),.lit (.int .i64 (0))]] false,.live 1 [.lit (.int .i64 (1))] false,.live 1 [] false],[.agg [.own 0 0 2,.lit (.int .i64 (5))],.lit (.int .i64 (1))],[.live 10 [.agg [.lit (.int .i64 (0)),.lit (.string ⟨⟨[]⟩⟩),.lit (.string ⟨⟨[]⟩⟩),.lit (.string ⟨⟨[]⟩⟩),.sl 2 [],.lit (.int .i64 (-1)),.own 1 0 1,.lit (.int .i64 (-1)),.lit (.int .i64 (-1)),.lit (.int .i64 (0))],.agg [.lit (.int .i64 (1)),.lit (.string ⟨⟨[112]⟩⟩),.lit (.string ⟨⟨[]⟩⟩),.lit (.string ⟨⟨[]⟩⟩),.sl 2 [],.lit (.int .i64 (0)),.own 2 0 0,.lit (.int .i64 (-1)),.lit (.int .i64 (-1)),.lit (.int .i64 (0))]] false,.live 1 [.lit (.int .i64 (1))] false,.live 1 [] false,.live 1 [.lit (.int .i64 (1))] false],.own 3 0 1⟩
theorem MR:Nj.OK Tryz.prog:=by
  refine⟨?_,OR⟩
  have h:=tP Lx xB 1 (by kernel_rfl)
  rw[show kP Lx 1=[1] from by kernel_rfl] at h
  have nil2:∀wd,kx (.sl wd []):=fun wd=>.inr (.inr ⟨wd,rfl⟩)
  refine aj.zh (args':=Nj.args) (ins:=Nj.ins) (bk 0 Nj.ins) [0,1,2] ?_ h (by decide) ?_ ?_
  · funext t
    match t with
    |0=>rfl
    |1=>rfl
    |2=>rfl
    |n+3=>rfl
  · intro r hr cs e
    obtain⟨n,_,hn⟩:=List.mem_map.1 (show r∈ ([1]:List Int).map bt from hr)
    rw[←hn] at e
    cases e
  · refine⟨⟨⟨10,_,_,_,rfl,rfl,rfl,by decide,rfl,dD.of ⟨?_,?_,trivial⟩⟩,rfl,trivial⟩,rfl,trivial⟩
    ·exact⟨rfl,rfl,rfl,rfl,rfl,rfl,⟨1,_,_,_,rfl,rfl,rfl,by decide,rfl,dD.of ⟨rfl,trivial⟩⟩,rfl,rfl,rfl,trivial⟩
    ·exact⟨rfl,rfl,rfl,rfl,rfl,rfl,⟨1,_,_,_,rfl,rfl,rfl,by decide,rfl,dD.of trivial⟩,rfl,rfl,rfl,trivial⟩
def Mi:ForM:=⟨[⟨0,⟨#[]⟩,⟨#[]⟩,⟨#[]⟩,[],-1,[1],-1,-1,0⟩,⟨1,⟨#[112]⟩,⟨#[]⟩,⟨#[]⟩,[⟨⟨#[98]⟩,⟨#[49]⟩⟩],0,[],-1,-1,0⟩],5⟩
theorem Fm:bC Mi.nodes:=⟨by decide,by decide,by decide,by decide⟩
def Nk:qX:=⟨82,[.live 10 [.agg [.lit (.int .i64 (0)),.lit (.string ⟨⟨[]⟩⟩),.lit (.string ⟨⟨[]⟩⟩),.lit (.string ⟨⟨[]⟩⟩),.sl 2 [],.lit (.int .i64 (-1)),.own 1 0 1,.lit (.int .i64 (-1)),.lit (.int .i64 (-1)),.lit (.int .i64 (0))],.agg [.lit (.int .i64 (1)),.lit (.string ⟨⟨[112]⟩⟩),.lit (.string ⟨⟨[]⟩⟩),.lit (.string ⟨⟨[]⟩⟩),.sl 2 [.agg [.lit (.string ⟨⟨[98]⟩⟩),.lit (.string ⟨⟨[49]⟩⟩)]],.lit (.int .i64 (0)),.own 2 0 0,.lit (.int .i64 (-1)),.lit (.int .i64 (-1)),.lit (.int .i64 (0))]] false,.live 1 [.lit (.int .i64 (1))] false,.live 1 [] false],[.agg [.own 0 0 2,.lit (.int .i64 (5))],.lit (.int .i64 (1))],[.live 10 [.agg [.lit (.int .i64 (0)),.lit (.string ⟨⟨[]⟩⟩),.lit (.string ⟨⟨[]⟩⟩),.lit (.string ⟨⟨[]⟩⟩),.sl 2 [],.lit (.int .i64 (-1)),.own 1 0 1,.lit (.int .i64 (-1)),.lit (.int .i64 (-1)),.lit (.int .i64 (0))],.agg [.lit (.int .i64 (1)),.lit (.string ⟨⟨[112]⟩⟩),.lit (.string ⟨⟨[]⟩⟩),.lit (.string ⟨⟨[]⟩⟩),.sl 2 [.agg [.lit (.string ⟨⟨[98]⟩⟩),.lit (.string ⟨⟨[49]⟩⟩)]],.lit (.int .i64 (0)),.own 2 0 0,.lit (.int .i64 (-1)),.lit (.int .i64 (-1)),.lit (.int .i64 (0))]] false,.live 1 [.lit (.int .i64 (1))] false,.live 1 [] false,.live 1 [.lit (.int .i64 (1))] false],.own 3 0 1⟩
theorem LV:Nk.OK Tryz.prog:=by
  refine⟨?_,OR⟩
  have h:=tP Mi Fm 1 (by kernel_rfl)
  rw[show kP Mi 1=[1] from by kernel_rfl] at h
  have nil2:∀wd,kx (.sl wd []):=fun wd=>.inr (.inr ⟨wd,rfl⟩)
  refine aj.zh (args':=Nk.args) (ins:=Nk.ins) (bk 0 Nk.ins) [0,1,2] ?_ h (by decide) ?_ ?_
  · funext t
    match t with
    |0=>rfl
    |1=>rfl
    |2=>rfl
    |n+3=>rfl
  · intro r hr cs e
    obtain⟨n,_,hn⟩:=List.mem_map.1 (show r∈ ([1]:List Int).map bt from hr)
    rw[←hn] at e
    cases e
  · refine⟨⟨⟨10,_,_,_,rfl,rfl,rfl,by decide,rfl,dD.of ⟨?_,?_,trivial⟩⟩,rfl,trivial⟩,rfl,trivial⟩
    ·exact⟨rfl,rfl,rfl,rfl,rfl,rfl,⟨1,_,_,_,rfl,rfl,rfl,by decide,rfl,dD.of ⟨rfl,trivial⟩⟩,rfl,rfl,rfl,trivial⟩
    ·exact⟨rfl,rfl,rfl,rfl,rfl,rfl,⟨1,_,_,_,rfl,rfl,rfl,by decide,rfl,dD.of trivial⟩,rfl,rfl,rfl,trivial⟩
def Ps:qX:=⟨145,[.live 1 [.lit (.int .i64 (1))] false],[.own 0 0 1,.lit (.int .i64 (0)),.lit (.int .i64 (1))],[.dead,.live 1 [] false],.own 1 0 0⟩
theorem Mt:Ps.OK Tryz.prog:=⟨o9 (rows:=[ah 1]) rfl 0 1 (by decide) (by decide),LW⟩
theorem N9:∀r∈ [Nj],r.OK Tryz.prog:=qX.cons MR (fun _ h=>by cases h)
theorem Of:∀r∈ [Nk,Ps],r.OK Tryz.prog:=qX.cons LV (qX.cons Mt (fun _ h=>by cases h))
def pN:qX:=⟨69,[],[.lit (.int .i64 (5))],[.live 10 [.agg [.lit (.int .i64 (0)),.lit (.string ⟨⟨[]⟩⟩),.lit (.string ⟨⟨[]⟩⟩),.lit (.string ⟨⟨[]⟩⟩),.lit (.slice none 0 0),.lit (.int .i64 (-1)),.lit (.slice none 0 0),.lit (.int .i64 (-1)),.lit (.int .i64 (-1)),.lit (.int .i64 (0))]] false],.tup [.agg [.own 0 0 1,.lit (.int .i64 (5))],.lit (.int .i64 (0))]⟩
theorem L4:wc IN 1000 60 pN.g pN.ins pN.args=some (pN.outs,pN.res):=by kernel_rfl
theorem Oz:pN.OK Tryz.prog:=qX.of oa L4
def OZ:ForM:=⟨[⟨0,⟨#[]⟩,⟨#[]⟩,⟨#[]⟩,[],-1,[],-1,-1,0⟩],5⟩
theorem PX:aj Tryz.prog 69 [] [ah 5] [] (.tup [aR OZ,ah (0)]):=by
  have h:=Oz.1
  have nil2:∀wd,kx (.sl wd []):=fun wd=>.inr (.inr ⟨wd,rfl⟩)
  refine aj.frozen (bk 0 pN.outs) ?_ (by kernel_rfl) h ?_
  · funext t
    match t with
    |0=>rfl
    |n+1=>rfl
  · refine⟨⟨⟨10,_,_,_,rfl,rfl,rfl,by decide,rfl,dD.of ⟨?_,trivial⟩⟩,rfl,trivial⟩,rfl,trivial⟩
    ·exact⟨rfl,rfl,rfl,rfl,nil2 _,rfl,nil2 _,rfl,rfl,rfl,trivial⟩
def pM:qX:=⟨70,[],[.agg [.sl 10 [.agg [.lit (.int .i64 (0)),.lit (.string ⟨⟨[]⟩⟩),.lit (.string ⟨⟨[]⟩⟩),.lit (.string ⟨⟨[]⟩⟩),.sl 2 [],.lit (.int .i64 (-1)),.sl 1 [],.lit (.int .i64 (-1)),.lit (.int .i64 (-1)),.lit (.int .i64 (0))]],.lit (.int .i64 (5))],.agg [.lit (.int .i64 (1)),.lit (.string ⟨⟨[112]⟩⟩),.lit (.string ⟨⟨[]⟩⟩),.lit (.string ⟨⟨[]⟩⟩),.lit (.slice none 0 0),.lit (.int .i64 (0)),.lit (.slice none 0 0),.lit (.int .i64 (0)),.lit (.int .i64 (0)),.lit (.int .i64 (0))]],[.live 10 [.agg [.lit (.int .i64 (0)),.lit (.string ⟨⟨[]⟩⟩),.lit (.string ⟨⟨[]⟩⟩),.lit (.string ⟨⟨[]⟩⟩),.sl 2 [],.lit (.int .i64 (-1)),.sl 1 [],.lit (.int .i64 (-1)),.lit (.int .i64 (-1)),.lit (.int .i64 (0))],.agg [.lit (.int .i64 (1)),.lit (.string ⟨⟨[112]⟩⟩),.lit (.string ⟨⟨[]⟩⟩),.lit (.string ⟨⟨[]⟩⟩),.lit (.slice none 0 0),.lit (.int .i64 (-1)),.lit (.slice none 0 0),.lit (.int .i64 (-1)),.lit (.int .i64 (-1)),.lit (.int .i64 (0))]] false],.tup [.agg [.own 0 0 2,.lit (.int .i64 (5))],.lit (.int .i64 (1)),.lit (.int .i64 (0))]⟩
theorem M4:wc IN 1000 60 pM.g pM.ins pM.args=some (pM.outs,pM.res):=by kernel_rfl
theorem Oq:pM.OK Tryz.prog:=qX.of oa M4
def PB:ForM:=⟨[⟨0,⟨#[]⟩,⟨#[]⟩,⟨#[]⟩,[],-1,[],-1,-1,0⟩,⟨1,⟨#[112]⟩,⟨#[]⟩,⟨#[]⟩,[],-1,[],-1,-1,0⟩],5⟩
theorem PY:aj Tryz.prog 70 [] [aR OZ,.agg [.lit (.int .i64 (1)),.lit (.string ⟨⟨[112]⟩⟩),.lit (.string ⟨⟨[]⟩⟩),.lit (.string ⟨⟨[]⟩⟩),.lit (.slice none 0 0),.lit (.int .i64 (0)),.lit (.slice none 0 0),.lit (.int .i64 (0)),.lit (.int .i64 (0)),.lit (.int .i64 (0))]] [] (.tup [aR PB,ah (1),ah (0)]):=by
  have h:=Oq.1
  have nil2:∀wd,kx (.sl wd []):=fun wd=>.inr (.inr ⟨wd,rfl⟩)
  refine aj.frozen (bk 0 pM.outs) ?_ (by kernel_rfl) h ?_
  · funext t
    match t with
    |0=>rfl
    |n+1=>rfl
  · refine⟨⟨⟨10,_,_,_,rfl,rfl,rfl,by decide,rfl,dD.of ⟨?_,?_,trivial⟩⟩,rfl,trivial⟩,rfl,rfl,trivial⟩
    ·exact⟨rfl,rfl,rfl,rfl,rfl,rfl,rfl,rfl,rfl,rfl,trivial⟩
    ·exact⟨rfl,rfl,rfl,rfl,nil2 _,rfl,nil2 _,rfl,rfl,rfl,trivial⟩
def pI:qX:=⟨29,[],[.agg [.sl 10 [.agg [.lit (.int .i64 (0)),.lit (.string ⟨⟨[]⟩⟩),.lit (.string ⟨⟨[]⟩⟩),.lit (.string ⟨⟨[]⟩⟩),.sl 2 [],.lit (.int .i64 (-1)),.sl 1 [],.lit (.int .i64 (-1)),.lit (.int .i64 (-1)),.lit (.int .i64 (0))],.agg [.lit (.int .i64 (1)),.lit (.string ⟨⟨[112]⟩⟩),.lit (.string ⟨⟨[]⟩⟩),.lit (.string ⟨⟨[]⟩⟩),.sl 2 [],.lit (.int .i64 (-1)),.sl 1 [],.lit (.int .i64 (-1)),.lit (.int .i64 (-1)),.lit (.int .i64 (0))]],.lit (.int .i64 (5))],.lit (.int .i64 (1)),.lit (.int .i64 (0)),.lit (.int .i64 (-1))],[.live 10 [.agg [.lit (.int .i64 (0)),.lit (.string ⟨⟨[]⟩⟩),.lit (.string ⟨⟨[]⟩⟩),.lit (.string ⟨⟨[]⟩⟩),.sl 2 [],.lit (.int .i64 (-1)),.own 2 0 1,.lit (.int .i64 (-1)),.lit (.int .i64 (-1)),.lit (.int .i64 (0))],.agg [.lit (.int .i64 (1)),.lit (.string ⟨⟨[112]⟩⟩),.lit (.string ⟨⟨[]⟩⟩),.lit (.string ⟨⟨[]⟩⟩),.sl 2 [],.lit (.int .i64 (0)),.own 3 0 0,.lit (.int .i64 (-1)),.lit (.int .i64 (-1)),.lit (.int .i64 (0))]] false,.live 9 [.agg [.lit (.int .i64 (1)),.lit (.int .i64 (1)),.lit (.int .i64 (0)),.lit (.int .i64 (0)),.lit (.string ⟨⟨[]⟩⟩),.lit (.bool false),.lit (.bool false),.lit (.string ⟨⟨[]⟩⟩),.lit (.string ⟨⟨[]⟩⟩)]] false,.live 1 [.lit (.int .i64 (1))] false,.live 1 [] false],.tup [.agg [.own 0 0 2,.lit (.int .i64 (5))],.own 1 0 1,.lit (.int .i64 (0))]⟩
theorem MP:wc (IN.Ih [Nj]) 1000 60 pI.g pI.ins pI.args=some (pI.outs,pI.res):=by kernel_rfl
theorem OG:pI.OK Tryz.prog:=qX.of (kr.vN oa N9) MP
theorem P7:aj Tryz.prog 29 [] [aR PB,ah 1,ah 0,ah (-1)] [] (.tup [aR Lx,lQ [⟨1,1,0,0,⟨#[]⟩,false,false,⟨#[]⟩,⟨#[]⟩⟩],ah (0)]):=by
  have h:=OG.1
  have nil2:∀wd,kx (.sl wd []):=fun wd=>.inr (.inr ⟨wd,rfl⟩)
  refine aj.frozen (bk 0 pI.outs) ?_ (by kernel_rfl) h ?_
  · funext t
    match t with
    |0=>rfl
    |1=>rfl
    |2=>rfl
    |3=>rfl
    |n+4=>rfl
  · refine⟨⟨⟨10,_,_,_,rfl,rfl,rfl,by decide,rfl,dD.of ⟨?_,?_,trivial⟩⟩,rfl,trivial⟩,⟨9,_,_,_,rfl,rfl,rfl,by decide,rfl,dD.of ⟨⟨rfl,rfl,rfl,rfl,rfl,rfl,rfl,rfl,rfl,trivial⟩,trivial⟩⟩,rfl,trivial⟩
    ·exact⟨rfl,rfl,rfl,rfl,rfl,rfl,⟨1,_,_,_,rfl,rfl,rfl,by decide,rfl,dD.of ⟨rfl,trivial⟩⟩,rfl,rfl,rfl,trivial⟩
    ·exact⟨rfl,rfl,rfl,rfl,rfl,rfl,⟨1,_,_,_,rfl,rfl,rfl,by decide,rfl,dD.of trivial⟩,rfl,rfl,rfl,trivial⟩
def pR:qX:=⟨32,[],[.agg [.sl 10 [.agg [.lit (.int .i64 (0)),.lit (.string ⟨⟨[]⟩⟩),.lit (.string ⟨⟨[]⟩⟩),.lit (.string ⟨⟨[]⟩⟩),.sl 2 [],.lit (.int .i64 (-1)),.sl 1 [.lit (.int .i64 (1))],.lit (.int .i64 (-1)),.lit (.int .i64 (-1)),.lit (.int .i64 (0))],.agg [.lit (.int .i64 (1)),.lit (.string ⟨⟨[112]⟩⟩),.lit (.string ⟨⟨[]⟩⟩),.lit (.string ⟨⟨[]⟩⟩),.sl 2 [.agg [.lit (.string ⟨⟨[98]⟩⟩),.lit (.string ⟨⟨[49]⟩⟩)]],.lit (.int .i64 (0)),.sl 1 [],.lit (.int .i64 (-1)),.lit (.int .i64 (-1)),.lit (.int .i64 (0))]],.lit (.int .i64 (5))],.lit (.int .i64 (1))],[.live 10 [.agg [.lit (.int .i64 (0)),.lit (.string ⟨⟨[]⟩⟩),.lit (.string ⟨⟨[]⟩⟩),.lit (.string ⟨⟨[]⟩⟩),.sl 2 [],.lit (.int .i64 (-1)),.own 2 0 0,.lit (.int .i64 (-1)),.lit (.int .i64 (-1)),.lit (.int .i64 (0))],.agg [.lit (.int .i64 (1)),.lit (.string ⟨⟨[112]⟩⟩),.lit (.string ⟨⟨[]⟩⟩),.lit (.string ⟨⟨[]⟩⟩),.sl 2 [.agg [.lit (.string ⟨⟨[98]⟩⟩),.lit (.string ⟨⟨[49]⟩⟩)]],.lit (.int .i64 (-1)),.own 3 0 0,.lit (.int .i64 (-1)),.lit (.int .i64 (-1)),.lit (.int .i64 (0))]] false,.live 9 [.agg [.lit (.int .i64 (2)),.lit (.int .i64 (1)),.lit (.int .i64 (0)),.lit (.int .i64 (0)),.lit (.string ⟨⟨[]⟩⟩),.lit (.bool false),.lit (.bool false),.lit (.string ⟨⟨[]⟩⟩),.lit (.string ⟨⟨[]⟩⟩)]] false,.live 1 [] false,.live 1 [] false],.tup [.agg [.own 0 0 2,.lit (.int .i64 (5))],.own 1 0 1,.lit (.int .i64 (0))]⟩
theorem MY:wc (IN.Ih [Nk,Ps]) 1000 60 pR.g pR.ins pR.args=some (pR.outs,pR.res):=by kernel_rfl
theorem NT:pR.OK Tryz.prog:=qX.of (kr.vN oa Of) MY
def No:ForM:=⟨[⟨0,⟨#[]⟩,⟨#[]⟩,⟨#[]⟩,[],-1,[],-1,-1,0⟩,⟨1,⟨#[112]⟩,⟨#[]⟩,⟨#[]⟩,[⟨⟨#[98]⟩,⟨#[49]⟩⟩],-1,[],-1,-1,0⟩],5⟩
theorem P8:aj Tryz.prog 32 [] [aR Mi,ah 1] [] (.tup [aR No,lQ [⟨2,1,0,0,⟨#[]⟩,false,false,⟨#[]⟩,⟨#[]⟩⟩],ah (0)]):=by
  have h:=NT.1
  have nil2:∀wd,kx (.sl wd []):=fun wd=>.inr (.inr ⟨wd,rfl⟩)
  refine aj.frozen (bk 0 pR.outs) ?_ (by kernel_rfl) h ?_
  · funext t
    match t with
    |0=>rfl
    |1=>rfl
    |2=>rfl
    |3=>rfl
    |n+4=>rfl
  · refine⟨⟨⟨10,_,_,_,rfl,rfl,rfl,by decide,rfl,dD.of ⟨?_,?_,trivial⟩⟩,rfl,trivial⟩,⟨9,_,_,_,rfl,rfl,rfl,by decide,rfl,dD.of ⟨⟨rfl,rfl,rfl,rfl,rfl,rfl,rfl,rfl,rfl,trivial⟩,trivial⟩⟩,rfl,trivial⟩
    ·exact⟨rfl,rfl,rfl,rfl,rfl,rfl,⟨1,_,_,_,rfl,rfl,rfl,by decide,rfl,dD.of trivial⟩,rfl,rfl,rfl,trivial⟩
    ·exact⟨rfl,rfl,rfl,rfl,rfl,rfl,⟨1,_,_,_,rfl,rfl,rfl,by decide,rfl,dD.of trivial⟩,rfl,rfl,rfl,trivial⟩
@[reducible] def Iu : ByteArray := ⟨#[111, 117, 116]⟩
theorem yS (l:List ai)(m:Int)(hs:bC l)(k:Nat)(y:ai)(hy:l[k]? =some y)(hp:y.parent=-1):
    aj Tryz.prog 78 [aP m l.length 1 gG,cJ l] [.ptr 0 0 0,.fptr (ah k) 0] [aP m l.length 1 gG,cJ l] (.lit (hO Iu 6)):=by
  have hkl:k<l.length:=(bj hy).1
  have hlm:(l.map bM).length=l.length:=bN ..
  have h60:=jM Iu 6 (by decide)
  obtain⟨y1,y2,y3,y4,y5,y6,y7,y8,y9,y10⟩:=y
  simp only at hp
  have hp':=eq_true hp
  refine aj.eR [] (rvs:=[.tmp 3]) G au Tryz.func78 rfl Tryz.ntmps78 rfl rfl ?_;with_reducible refine wD ?_
  (have fct:=And.intro hlm (hp');(repeat' (first
    |refine gF ?_
    | ((first
      |((with_reducible show eY _ _ _ _ _);refine eY.mk k rfl hkl ?_)
      |((with_reducible show bh _ _ _ _ _);refine bh.mk (aL ⟨y1,y2,y3,y4,y5,y6,y7,y8,y9,y10⟩) (by first|exact ay hy|(rw[Nat.zero_add];exact ay hy)) ?_)
      |((with_reducible show ae _ _ 60 _ _ _ _);refine ae.lit [] h60 F3 ⟨rfl,rfl,trivial⟩ rfl rfl ?_)
      |((with_reducible show aI _ _ _ _);refine dK ?_))<;>with_reducible refine wK ?_)
    |((with_reducible show(_∧_)∧_∧_);(refine eK ?_ ?_<;>with_reducible repeat' (first|exact trivial|(show _∧_;refine aK ?_ ?_))))));all_goals clear fct)
  all_goals first
    |rfl
    |exact⟨.refl rfl,rfl⟩
    |exact(.inl rfl:kx _)
    |exact⟨.refl (aM _),aM _⟩
    |trace_state
theorem sO (f:ForM)(hs:bC f.nodes)(hr:bw f=true)(k:Nat)(y:ai)(hy:f.nodes[k]? =some y)(hp:y.parent=-1):aj Tryz.prog 32 [] [aR f,ah k] [] (.tup [aR f,lQ [],ah 6]):=by
  have h77:=oo f hs k (by rw[hr,eH hy];rfl)
  have h56:=vI f hs 78 Po [.fptr (ah k) 0] rfl Iu 6 (yS f.nodes f.most hs k y hy hp)
  obtain⟨l,m⟩:=f
  have hn:=aO ⟨l,m⟩ [] 6
  refine aj.aD (rvs:=[.cell 4 24,.tmp 5,.tmp 6]) G au Tryz.func32 rfl Tryz.ntmps32 rfl rfl ?_;with_reducible refine wD ?_
  repeat' (first
    |refine gK ?_
    | ((first
      |((with_reducible show ae _ _ 77 _ _ _ _);refine ae.lit [] h77 L6 ⟨⟨rfl,rfl,trivial⟩,rfl,trivial⟩ rfl rfl ?_)
      |((with_reducible show ae _ _ 56 _ _ _ _);refine ae.val [30] h56 F1 ⟨⟨rfl,rfl,trivial⟩,⟨rfl,rfl⟩,⟨rfl,trivial,⟨_,_,_,_,_,rfl,rfl,rfl,rfl,rfl,rfl⟩,trivial⟩,trivial⟩ rfl rfl hn ?_)
      |((with_reducible show aI _ _ _ _);refine dK ?_))<;>with_reducible refine wK ?_)
    |((with_reducible show(_∧_)∧_∧_);(refine eK ?_ ?_<;>with_reducible repeat' (first|exact trivial|(show _∧_;refine aK ?_ ?_)))))
  all_goals first|rfl|trace_state
theorem PZ:aj Tryz.prog 18 [] [aR Lx,ah 1,bX ⟨#[66]⟩,bX ⟨#[49]⟩] [] (.tup [aR Mi,lQ [⟨4,1,0,0,⟨#[98]⟩,false,true,⟨#[]⟩,⟨#[49]⟩⟩],ah 0]):=by
  have h:=uk Lx xB 1 ⟨#[66]⟩ ⟨#[49]⟩ (by decide)
  rwa [show gJ Lx 1 ⟨#[66]⟩ ⟨#[49]⟩=(Mi,[⟨4,1,0,0,⟨#[98]⟩,false,true,⟨#[]⟩,⟨#[49]⟩⟩],0) by kernel_rfl] at h
theorem EP:bC No.nodes:=⟨by decide,by decide,by decide,by decide⟩
theorem O9:aj Tryz.prog 32 [] [aR No,ah 1] [] (.tup [aR No,lQ [],ah 6]):=
  sO No EP (by kernel_rfl) 1 ⟨1,⟨#[112]⟩,⟨#[]⟩,⟨#[]⟩,[⟨⟨#[98]⟩,⟨#[49]⟩⟩],-1,[],-1,-1,0⟩ (by kernel_rfl) rfl
theorem CB (y z:Operand)(w:World):((do eqGuard .eql 53 y z (.agg #[.int .i64 1,.int .i64 1,.int .i64 0,.int .i64 0,.string ⟨#[]⟩,.bool false,.bool false,.string ⟨#[]⟩,.string ⟨#[]⟩]) (.agg #[.int .i64 1,.int .i64 1,.int .i64 0,.int .i64 0,.string ⟨#[]⟩,.bool false,.bool false,.string ⟨#[]⟩,.string ⟨#[]⟩]);binOp .eql 53 (.agg #[.int .i64 1,.int .i64 1,.int .i64 0,.int .i64 0,.string ⟨#[]⟩,.bool false,.bool false,.string ⟨#[]⟩,.string ⟨#[]⟩]) (.agg #[.int .i64 1,.int .i64 1,.int .i64 0,.int .i64 0,.string ⟨#[]⟩,.bool false,.bool false,.string ⟨#[]⟩,.string ⟨#[]⟩]):Sem Value)).run Tryz.prog w=.ok (.bool true) w:=by
  kernel_rfl
theorem EU (y z:Operand)(w:World):((do eqGuard .eql 53 y z (.agg #[.int .i64 4,.int .i64 1,.int .i64 0,.int .i64 0,.string ⟨#[98]⟩,.bool false,.bool true,.string ⟨#[]⟩,.string ⟨#[49]⟩]) (.agg #[.int .i64 4,.int .i64 1,.int .i64 0,.int .i64 0,.string ⟨#[98]⟩,.bool false,.bool true,.string ⟨#[]⟩,.string ⟨#[49]⟩]);binOp .eql 53 (.agg #[.int .i64 4,.int .i64 1,.int .i64 0,.int .i64 0,.string ⟨#[98]⟩,.bool false,.bool true,.string ⟨#[]⟩,.string ⟨#[49]⟩]) (.agg #[.int .i64 4,.int .i64 1,.int .i64 0,.int .i64 0,.string ⟨#[98]⟩,.bool false,.bool true,.string ⟨#[]⟩,.string ⟨#[49]⟩]):Sem Value)).run Tryz.prog w=.ok (.bool true) w:=by
  kernel_rfl
theorem Cb:aj Tryz.prog 26 [] [] [] (bG true):=by
  have h69:=PX
  have h70:=PY
  have h29:=P7
  have h18:=PZ
  have h32:=P8
  have h32n:=O9
  generalize hg0:OZ=g0 at*
  generalize hg1:PB=g1 at*
  generalize hg2:Lx=g2 at*
  generalize hg3:Mi=g3 at*
  generalize hg4:No=g4 at*
  obtain⟨l0,m0⟩:=g0
  obtain⟨l1,m1⟩:=g1
  obtain⟨l2,m2⟩:=g2
  obtain⟨l3,m3⟩:=g3
  obtain⟨l4,m4⟩:=g4
  refine aj.aD (rvs:=[.tmp 0]) G au Tryz.func26 rfl Tryz.ntmps26 rfl rfl ?_;with_reducible refine wD ?_
  repeat' (first
    |refine gK ?_
    | ((first
      |((with_reducible show ae _ _ 69 _ _ _ _);refine ae.val [] h69 PG ⟨rfl,trivial⟩ rfl rfl rfl ?_)
      |((with_reducible show ae _ _ 70 _ _ _ _);refine ae.val [] h70 PI ⟨⟨rfl,rfl,trivial⟩,⟨rfl,rfl,rfl,rfl,.inl rfl,rfl,.inl rfl,rfl,rfl,rfl,trivial⟩,trivial⟩ rfl rfl rfl ?_)
      |((with_reducible show ae _ _ 29 _ _ _ _);refine ae.val [] h29 zI ⟨⟨rfl,rfl,trivial⟩,rfl,rfl,rfl,trivial⟩ rfl rfl rfl ?_)
      |((with_reducible show ae _ _ 18 _ _ _ _);refine ae.val [] h18 zq ⟨⟨rfl,rfl,trivial⟩,rfl,rfl,rfl,trivial⟩ rfl rfl rfl ?_)
      |((with_reducible show ae _ _ 32 _ _ _ _);first|(refine ae.val [] h32 KN ⟨⟨rfl,rfl,trivial⟩,rfl,trivial⟩ rfl rfl rfl ?_)|(refine ae.val [] h32n KN ⟨⟨rfl,rfl,trivial⟩,rfl,trivial⟩ rfl rfl rfl ?_))
      |((with_reducible show aN _ _ _ _ _);first|refine aN.mk 0 (je ⟨1,1,0,0,⟨#[]⟩,false,false,⟨#[]⟩,⟨#[]⟩⟩) rfl rfl ?_|refine aN.mk 0 (je ⟨2,1,0,0,⟨#[]⟩,false,false,⟨#[]⟩,⟨#[]⟩⟩) rfl rfl ?_|refine aN.mk 0 (je ⟨4,1,0,0,⟨#[98]⟩,false,true,⟨#[]⟩,⟨#[49]⟩⟩) rfl rfl ?_)
      |((with_reducible show Hu _ _ _ _ _ _ _ _);first|refine Hu.mk _ (fun y z w=>CB y z w) ?_|refine Hu.mk _ (fun y z w=>EU y z w) ?_)
      |((with_reducible show aI _ _ _ _);refine dK ?_))<;>with_reducible refine wK ?_)
    |((with_reducible show(_∧_)∧_∧_);(refine eK ?_ ?_<;>with_reducible repeat' (first|exact trivial|(show _∧_;refine aK ?_ ?_)))))
  all_goals first|rfl|trace_state
theorem Ae {l:List ai}{m:Int}{a b:Nat}{ka kb k2:List Int}{y:ai}{told:List aQ}{l':List ai}(hL:l.length≤1000)(hy:l[b]? =some y)(hp:y.parent≠-1)(hlen:l'.length=l.length)
    (h79:aj Tryz.prog 79 [aP m l.length 4 (.own 3 0 0),aF ka,aF kb,aV [],aU l a 1 b 2] [.ptr 0 0 0,ah b]
      [aP m l.length 4 (.own 6 0 told.length),.dead,aF kb,.dead,aU l' a 5 b 2,aF k2,aV told] (.tup [])) (hab:b≠a):
    aj Tryz.prog 78 [aP m l.length 4 (.own 3 0 0),aF ka,aF kb,aV [],aU l a 1 b 2] [.ptr 0 0 0,.fptr (ah b) 0]
      [aP m l.length 4 (.own 6 0 told.length),.dead,aF kb,.dead,aU l' a 5 b 2,aF k2,aV told] eI:=by
  have hbl:=(bj hy).1
  have g2:(aT l a 1 b 2)[b]? =some (eo y 2):=uF hy hab
  have hlr:(aT l a 1 b 2).length=l.length:=bU
  obtain⟨y1,y2,y3,y4,y5,y6,y7,y8,y9,y10⟩:=y
  simp only at hp
  have hp':=eq_false hp
  refine aj.eR [(5,151),(6,163)] (rvs:=[.tmp 3]) G au Tryz.func78 rfl Tryz.ntmps78 rfl rfl ?_;with_reducible refine wD ?_
  (have fct:=hp';(repeat' (first
    |refine gF ?_
    | ((first
      |((with_reducible show eY _ _ _ _ _);refine eY.mk b rfl (by first|exact hbl|(simp;omega)) ?_)
      |((with_reducible show bh _ _ _ _ _);refine bh.mk _ (by first|exact g2|(rw[Nat.zero_add];exact g2)) ?_)
      |((with_reducible show ae _ _ 79 _ _ _ _);refine ae.dx (news:=[aP m l.length 4 (.own 163 0 told.length),.dead,aF kb,.dead,aU l' a 151 b 2,aF k2,aV told]) [0,1,2,3,4,151,163] [] h79 Nb ⟨⟨rfl,rfl⟩,rfl,trivial⟩ ⟨⟨rfl,.inr ⟨⟨⟨⟨rfl,rfl⟩,rfl,⟨rfl,rfl⟩,trivial⟩,trivial⟩,rfl⟩⟩,⟨rfl,.inl ⟨rfl,aa _⟩⟩,⟨rfl,.inl ⟨rfl,aa _⟩⟩,⟨rfl,.inl ⟨rfl,aq _⟩⟩,⟨rfl,bK (fun _=>rfl) (fun _=>rfl)⟩,trivial⟩ rfl ⟨⟨rfl,rfl⟩,rfl⟩ rfl ⟨⟨rfl,.inr ⟨rfl,rfl,rfl⟩⟩,⟨rfl,.inl ⟨rfl,aa _⟩⟩,⟨rfl,bF rfl rfl (by decide) (by decide)⟩,⟨rfl,.inl ⟨rfl,aa _⟩⟩,⟨rfl,.inl ⟨rfl,aq _⟩⟩,trivial⟩ rfl rfl ?_)
      |((with_reducible show aI _ _ _ _);refine dK ?_))<;>with_reducible refine wK ?_)
    |((with_reducible show(_∧_)∧_∧_);(refine eK ?_ ?_<;>with_reducible repeat' (first|exact trivial|(show _∧_;refine aK ?_ ?_))))));all_goals clear fct)
  all_goals first
    |rfl
    |exact⟨.refl (aa _),aa _⟩
    |exact⟨.refl (aq _),aq _⟩
    |exact bB (fun _=>rfl) (fun _=>rfl)
    |trace_state
theorem Mh (f:ForM)(hs:bC f.nodes){a b:Nat}{ya yb:ai}(hab:a≠b)(ha:f.nodes[a]? =some ya)(hb:f.nodes[b]? =some yb)(g:Nat)(cg:ak Tryz.prog g)(caps:List AV)(hcaps:bu caps=true)(l':List ai)(k2:List Int)(told:List aQ)(hl:l'.length=f.nodes.length)
    (hka:∀y,l'[a]? =some y→y.kids=k2) (hkb:∀y,l'[b]? =some y→y.kids=yb.kids)
    (hg:aj Tryz.prog g [aP f.most f.nodes.length 4 (.own 3 0 0),aF ya.kids,aF yb.kids,aV [],aU f.nodes a 1 b 2] (.ptr 0 0 0::caps)
      [aP f.most f.nodes.length 4 (.own 6 0 told.length),.dead,aF yb.kids,.dead,aU l' a 5 b 2,aF k2,aV told] eI):
    aj Tryz.prog 56 [] [aR f,eI,.clo (.func g) [] caps] [] (.tup [aR ⟨l',f.most⟩,lQ told,ah 0]):=by
  have h121:=LD f hs hab ha hb
  have hlm:(l'.map bM).length=f.nodes.length:=by rw[bN,hl]
  obtain⟨l,m⟩:=f
  simp only at*
  refine aj.aD (rvs:=[.cell 6 24,.tmp 7,.tmp 8]) G au Tryz.func56 rfl Tryz.ntmps56 rfl rfl ?_;with_reducible refine wD ?_
  repeat' (first
    |refine gK ?_
    | ((first
      |((with_reducible show ae _ _ 121 _ _ _ _);refine ae.dx (news:=[aP m l.length 114 (.own 113 0 0),aF ya.kids,aF yb.kids,.live 9 [] false,aU l a 111 b 112]) [110,111,112,113,114] [] h121 CO ⟨⟨rfl,rfl,trivial⟩,trivial⟩ trivial rfl ⟨⟨rfl,rfl⟩,rfl⟩ rfl ⟨⟨rfl,.inr ⟨rfl,rfl,rfl⟩⟩,⟨rfl,.inl ⟨rfl,aa _⟩⟩,⟨rfl,.inl ⟨rfl,aa _⟩⟩,⟨rfl,.inl ⟨rfl,rfl⟩⟩,⟨rfl,bF rfl rfl (by decide) (by decide)⟩,trivial⟩ rfl rfl ?_)
      |((with_reducible show aZ _ _ _ _ _);first|refine aZ.lO true Tryz.underlying98 rfl rfl rfl rfl rfl ?_|refine aZ.lp false Tryz.underlying98 rfl rfl rfl rfl rfl ?_)
      |((with_reducible show ae _ _ _ _ _ _ _);refine ae.dx (news:=[aP m l.length 114 (.own 163 0 told.length),.dead,aF yb.kids,.dead,aU l' a 161 b 112,aF k2,aV told]) [110,111,112,113,114,161,163] [] hg cg ⟨⟨rfl,rfl⟩,bS hcaps⟩ ⟨⟨rfl,.inr ⟨⟨⟨⟨rfl,rfl⟩,rfl,⟨rfl,rfl⟩,trivial⟩,trivial⟩,rfl⟩⟩,⟨rfl,.inl ⟨rfl,aa _⟩⟩,⟨rfl,.inl ⟨rfl,aa _⟩⟩,⟨rfl,.inl ⟨rfl,rfl⟩⟩,⟨rfl,bK (fun _=>rfl) (fun _=>rfl)⟩,trivial⟩ rfl ⟨⟨rfl,rfl⟩,rfl⟩ rfl ⟨⟨rfl,.inr ⟨rfl,rfl,rfl⟩⟩,⟨rfl,.inl ⟨rfl,aa _⟩⟩,⟨rfl,bF rfl rfl (by decide) (by decide)⟩,⟨rfl,.inl ⟨rfl,aa _⟩⟩,⟨rfl,.inl ⟨rfl,aq _⟩⟩,trivial⟩ rfl rfl ?_)
      |((with_reducible show aI _ _ _ _);refine dK ?_))<;>with_reducible refine wK ?_)
    |((with_reducible show(_∧_)∧_∧_);(refine eK ?_ ?_<;>with_reducible repeat' (first|exact trivial|(show _∧_;refine aK ?_ ?_)))))
  all_goals first
    |rfl
    |exact oT rfl rfl rfl (by simp) (aq _)
    |exact(by rw[←hl];exact uj (ra:=false) (rb:=false) (ea:=[]) (eb:=[]) rfl rfl (fun y hy=>by rw[List.append_nil,hka y hy];exact⟨rfl,rfl⟩) (fun y hy=>by rw[List.append_nil,hkb y hy];exact⟨rfl,rfl⟩))
    |trace_state
end Go.Proofs.Heir
namespace Go.Proofs.Heir
open Go Go.Am Go.RowKit Go.Lib
set_option maxRecDepth 100000
set_option maxHeartbeats 8000000
set_option maxHeartbeats 8000000
theorem KX (f:ForM)(n:Int):aj Tryz.prog 138 [] [ah n,.fptr (aR f) 0] [] (bG (!af f.nodes n)):=by
  obtain⟨l,m⟩:=f
  have hlm:(l.map bM).length=l.length:=bN ..
  refine aj.aD (rvs:=[.tmp 3]) G au Tryz.func138 rfl Tryz.ntmps138 rfl rfl ?_;with_reducible refine wD ?_
  repeat' (first
    |refine pK ?_
    | ((first
      |((with_reducible show bq _ _ _ _);(refine bq.mk (fun hp=>?_) (fun hp=>?_)<;>(try simp only[az,bE,c9,Bool.not_eq_true',Bool.not_eq_false',Decidable.not_not,Int.not_lt,Int.not_le] at hp))))<;>with_reducible refine wK ?_)
    |((with_reducible show(_∧_)∧_∧_);(refine eK ?_ ?_<;>with_reducible repeat' (first|exact trivial|(show _∧_;refine aK ?_ ?_)))))
  ·unfold af;rw[dy (show ¬0≤n by omega)];rfl
  · unfold af;rw[dG hp,hlm,Bool.true_and,←decide_not]
    exact decide_eq_decide.2 Int.not_lt
theorem ET (l:List ai)(n:Int):(!decide (0≤gq (fun n=> !af l n) [n]))=af l n:=by
  unfold gq
  cases h:af l n<;>simp[List.findIdx?_cons,h]
theorem ye (l:List ai)(a b:Int):(!decide (0≤gq (fun n=> !af l n) [a,b]))=(af l a&&af l b):=by
  unfold gq
  cases h:af l a<;>cases k:af l b<;>simp[List.findIdx?_cons,h,k]
theorem Ip (f:ForM)(hs:bC f.nodes)(l:List Int)(hl:l.length≤100000):aj Tryz.prog 71 [] [aR f,cq l] [] (bG (bw f&& !decide (0≤gq (fun n=> !af f.nodes n) l))):=by
  have h17:=o4 f hs
  have h127:=Eh 138 N5 [.fptr (aR f) 0] rfl (fun n=> !af f.nodes n) l hl (fun a _=>KX f a)
  obtain⟨ns,m⟩:=f
  simp only at h17 h127 ⊢
  refine aj.aD (rvs:=[.tmp 4]) G au Tryz.func71 rfl Tryz.ntmps71 rfl rfl ?_;with_reducible refine wD ?_
  refine ae.lit [] h17 qy ⟨⟨rfl,rfl,trivial⟩,trivial⟩ rfl rfl ?_;with_reducible refine wK ?_
  cases h0:bw ⟨ns,m⟩ with
  | false=>
    repeat' (first
    |refine gK ?_
    |((with_reducible show(_∧_)∧_∧_);(refine eK ?_ ?_<;>with_reducible repeat' (first|exact trivial|(show _∧_;refine aK ?_ ?_)))))
    all_goals rfl
  | true=>
    repeat' (first
    |refine gK ?_
    |((with_reducible show(_∧_)∧_∧_);(refine eK ?_ ?_<;>with_reducible repeat' (first|exact trivial|(show _∧_;refine aK ?_ ?_)))))
    refine ae.lit [20] h127 LY ⟨rfl,⟨rfl,trivial,⟨_,_,_,_,_,rfl,rfl,rfl,rfl,rfl,⟨rfl,rfl,trivial⟩⟩,trivial⟩,trivial⟩ rfl rfl ?_;with_reducible refine wK ?_
    repeat' (first
    |refine gK ?_
    |((with_reducible show(_∧_)∧_∧_);(refine eK ?_ ?_<;>with_reducible repeat' (first|exact trivial|(show _∧_;refine aK ?_ ?_)))))
    all_goals rfl
theorem zo (f:ForM)(hs:bC f.nodes)(n:Int):aj Tryz.prog 71 [] [aR f,cq [n]] [] (bG (bw f&&af f.nodes n)):=by
  have:=Ip f hs [n] (by simp)
  rwa [ET] at this
theorem En (f:ForM)(hs:bC f.nodes)(a b:Int):aj Tryz.prog 71 [] [aR f,cq [a,b]] [] (bG (bw f&&(af f.nodes a&&af f.nodes b))):=by
  have:=Ip f hs [a,b] (by simp)
  rwa [ye] at this
theorem over_self {l:List ai}(T:U.Tree l){a:Int}(ha:af l a=true):a∈U.bL l a:=by
  obtain⟨r,hr⟩:=U.eB T ha
  rw[hr];exact eS
theorem zb (f:ForM)(hs:bC f.nodes)(a b:Int)(hr:bw f=true)(ha:af f.nodes a=true)(hb:af f.nodes b=true):aj Tryz.prog 143 [] [aR f,ah a,ah b] [] (bG (gT f.nodes a b)):=by
  have h147:=yF f hs [a,b] (by simp)
  rw[ye,hr,ha,hb] at h147
  have h149:=fun k x hx=>Dl f k x hx
  have T:=U.jx hr
  have ha0:=bf ha
  obtain⟨l,m⟩:=f
  simp only at h147 h149 T ha hb ⊢
  refine aj.aD (rvs:=[.tmp 6]) G au Tryz.func143 rfl Tryz.ntmps143 rfl rfl ?_;with_reducible refine wD ?_
  refine ae.lit [101] h147 IM ⟨⟨rfl,rfl,trivial⟩,bY (l:=[a,b]) rfl rfl rfl rfl,trivial⟩ rfl rfl ?_;with_reducible refine wK ?_
  repeat' (first
    |refine gK ?_
    |((with_reducible show(_∧_)∧_∧_);(refine eK ?_ ?_<;>with_reducible repeat' (first|exact trivial|(show _∧_;refine aK ?_ ?_)))))
  refine bW.use G au (fun(c:Int)=>[(1,ah a),(2,ah c),(3,.ptr 30 0 0)]) (fun c=>[(30,.live 2 [aR ⟨l,m⟩] false)])
    (fun c=>(c=-1∧gT l a b=false)∨(af l c=true∧gT l a b=decide (a∈U.bL l c))) (fun c=>if c=-1 then 0 else(U.bL l c).length+1) b (.inr ⟨hb,rfl⟩)
    (by refine⟨⟨rfl,rfl⟩,⟨rfl,rfl,⟨rfl,rfl⟩,trivial⟩,⟨⟨rfl,rfl,trivial⟩,trivial⟩,trivial⟩) ?_
  rintro c hc
  with_reducible refine wK ?_
  rcases hc with⟨rfl,hov⟩|⟨hc,hov⟩
  · rw[hov]
    have fa:((-1:Int)=a)=False:=eq_false (by omega)
    (have fct:=fa;(repeat' (first
    |refine gF ?_
    |((with_reducible show(_∧_)∧_∧_);(refine eK ?_ ?_<;>with_reducible repeat' (first|exact trivial|(show _∧_;refine aK ?_ ?_))))));all_goals clear fct)
    all_goals (first|rfl|(simp;omega)|trace_state)
  · obtain⟨i,y,rfl,hy,hny⟩:=aW.1 hc
    have h:=h149 i y hy
    have fi:((i:Int)=-1)=False:=eq_false (by omega)
    by_cases e:(i:Int)=a
    · have ft:=eq_true e
      have hin:a∈U.bL l (i:Int):=by rw[e];exact over_self T ha
      have hov':gT l a b=true:=by rw[hov];exact dG hin
      rw[hov']
      (have fct:=And.intro fi (ft);(repeat' (first
    |refine gF ?_
    | ((with_reducible show(_∧_)∧_∧_);(refine eK ?_ ?_<;>with_reducible repeat' (first|exact trivial|(show _∧_;refine aK ?_ ?_))))));all_goals clear fct)
      all_goals (first|rfl|(simp[e];done)|trace_state)
    · have ff:=eq_false e
      by_cases eu:dJ y=-1
      · rw[eu] at h
        have hw:=U.eJ T hc (by rw[hny];exact eu)
        (have fct:=And.intro fi (ff);(repeat' (first
    |refine gF ?_
    |(((with_reducible show ae _ _ 149 _ _ _ _);refine ae.lit [] h Gu ⟨⟨rfl,rfl,trivial⟩,rfl,trivial⟩ rfl rfl ?_)<;>with_reducible refine wK ?_)
    | ((with_reducible show(_∧_)∧_∧_);(refine eK ?_ ?_<;>with_reducible repeat' (first|exact trivial|(show _∧_;refine aK ?_ ?_))))));all_goals clear fct)
        refine bZ.mk (-1) (.inl ⟨rfl,by rw[hov,hw];exact dy (by simp;omega)⟩) (by rw[if_pos rfl,if_neg (by omega)];omega) ⟨⟨rfl,rfl⟩,⟨rfl,rfl,⟨rfl,rfl⟩,trivial⟩,⟨⟨rfl,rfl,trivial⟩,trivial⟩,trivial⟩
      · have hu:=vz T _ hc (by rw[hny];exact eu)
        have hway:=U.cn T hc (by rw[hny];exact eu)
        rw[hny] at hu hway
        generalize dJ y=u at h eu hu hway
        (have fct:=And.intro fi (ff);(repeat' (first
    |refine gF ?_
    |(((with_reducible show ae _ _ 149 _ _ _ _);refine ae.lit [] h Gu ⟨⟨rfl,rfl,trivial⟩,rfl,trivial⟩ rfl rfl ?_)<;>with_reducible refine wK ?_)
    | ((with_reducible show(_∧_)∧_∧_);(refine eK ?_ ?_<;>with_reducible repeat' (first|exact trivial|(show _∧_;refine aK ?_ ?_))))));all_goals clear fct)
        refine bZ.mk u (.inr ⟨hu,by rw[hov,hway];exact decide_eq_decide.2 ⟨fun q=>(dP.1 q).resolve_left (fun r=>e r.symm),fun q=>dQ _ q⟩⟩) (by rw[if_neg eu,if_neg (by omega),hway];simp) ⟨⟨rfl,rfl⟩,⟨rfl,rfl,⟨rfl,rfl⟩,trivial⟩,⟨⟨rfl,rfl,trivial⟩,trivial⟩,trivial⟩
@[reducible] def HA (l : List ai) (m p c g : Int) : AV := .agg [rT l, ah m, ah p, ah c, ah g]
theorem oq (l:List ai)(m p c g:Int)(k:Nat)(x:ai)(hx:l[k]? =some x):aj Tryz.prog 142 [] [HA l m p c g,ah k] [] (ah x.kind):=by
  obtain⟨a1,a2,a3,a4,a5,a6,a7,a8,a9,a10⟩:=x
  refine aj.aD (rvs:=[.tmp 4]) G au Tryz.func142 rfl Tryz.ntmps142 rfl rfl ?_;with_reducible refine wD ?_
  repeat' (first
    |refine gK ?_
    |(((with_reducible show aN _ _ _ _ _);refine aN.mk k (aL _) rfl (ay hx) ?_)<;>with_reducible refine wK ?_)
    |((with_reducible show(_∧_)∧_∧_);(refine eK ?_ ?_<;>with_reducible repeat' (first|exact trivial|(show _∧_;refine aK ?_ ?_)))))
  all_goals rfl
theorem E7 (l:List ai)(g:Int)(cs:List Int)(kd c:Int){j:Nat}(h:cs[j]? =some c):iF l g (cs.take (j+1)) kd=iF l g (cs.take j) kd+ (if c≠g∧(nd l c).kind=kd then 1 else 0):=by
  unfold iF
  rw[List.take_add_one,h,List.countP_append]
  congr 1
  show List.countP _ [c]=_
  rw[List.countP_cons,List.countP_nil]
  by_cases h1:c=g<;>by_cases h2:(nd l c).kind=kd<;>simp[h1,h2]
theorem ze (l:List ai)(g:Int)(cs:List Int)(kd:Int):iF l g cs kd≤cs.length:=List.countP_le_length
theorem yU (l:List ai)(m p c g:Int)(cs:List Int)(kd:Int)(hcs:∀c∈cs,af l c=true)(hlen:cs.length≤1000):aj Tryz.prog 191 [] [HA l m p c g,cq cs,ah kd] [] (ah (iF l g cs kd:Nat)):=by
  have h142:=fun k x hx=>oq l m p c g k x hx
  have hli:(cs.map bt).length=cs.length:=bN ..
  refine aj.aD (rvs:=[.tmp 6]) G au Tryz.func191 rfl Tryz.ntmps191 rfl rfl ?_;with_reducible refine wD ?_
  repeat' (first
    |refine gK ?_
    |((with_reducible show(_∧_)∧_∧_);(refine eK ?_ ?_<;>with_reducible repeat' (first|exact trivial|(show _∧_;refine aK ?_ ?_)))))
  refine bW.use G au (fun(j:Nat)=>[(2,ah kd),(3,.ptr 30 0 0),(7,ah (iF l g (cs.take j) kd:Nat)),(10,cq cs),(11,ah cs.length),(12,ah j)]) (fun j=>[(30,.live 5 [HA l m p c g] false)])
    (fun j=>j≤cs.length) (fun j=>cs.length-j) 0 (Nat.zero_le _) ?_ ?_
  · (refine fK ?_;(with_reducible repeat' (first|exact trivial|(show _∧_;refine aK ?_ ?_)));(all_goals try rfl))
    all_goals first|exact⟨rfl,rfl⟩|rfl|(simp[iF];done)|trace_state
  intro j hj
  with_reducible refine wK ?_
  refine bq.mk (fun h1=>?_) (fun h1=>?_)<;>(try simp only[az] at h1)<;>with_reducible refine wK ?_
  · have hjl:j<cs.length:=by simp only[bE,az] at h1;omega
    obtain⟨c0,hc⟩:∃c,cs[j]? =some c:=⟨_,bA hjl⟩
    obtain⟨i,y,rfl,hy,hny⟩:=aW.1 (hcs c0 (bV hc))
    have h:=h142 i y hy
    have hst:=E7 l g cs kd (i:Int) hc
    rw[hny] at hst
    have hle:iF l g (cs.take j) kd≤1000:=Nat.le_trans (ze l g (cs.take j) kd) (by rw[gE];omega)
    generalize iF l g (cs.take j) kd=M at hst hle ⊢
    obtain⟨b1,b2,b3,b4,b5,b6,b7,b8,b9,b10⟩:=y
    refine aN.mk j (ah (i:Int)) rfl (cR hc) ?_;with_reducible refine wK ?_
    by_cases e1:(i:Int)=g
    · rw[if_neg (fun q=>q.1 e1)] at hst
      have fa:=eq_true e1
      (have fct:=fa;(repeat' (first
    |refine gF ?_
    |(((with_reducible show ae _ _ 142 _ _ _ _);refine ae.lit [] h wE ⟨⟨rfl,rfl,rfl,rfl,rfl,trivial⟩,rfl,trivial⟩ rfl rfl ?_)<;>with_reducible refine wK ?_)
    | ((with_reducible show(_∧_)∧_∧_);(refine eK ?_ ?_<;>with_reducible repeat' (first|exact trivial|(show _∧_;refine aK ?_ ?_))))));all_goals clear fct)
      refine bZ.mk (j+1) (by omega) (by omega) ?_
      rw[hst]
      (refine fK ?_;(with_reducible repeat' (first|exact trivial|(show _∧_;refine aK ?_ ?_)));(all_goals try rfl))
      all_goals first|exact⟨rfl,rfl⟩|rfl|(show((j+1:Nat):Int)=(j:Int)+1;omega)|(simp;done)|trace_state
    · have fa:=eq_false e1
      by_cases e2:b1=kd
      · rw[if_pos ⟨e1,e2⟩] at hst
        have fb:=eq_true e2
        (have fct:=And.intro fa (fb);(repeat' (first
    |refine gF ?_
    |(((with_reducible show ae _ _ 142 _ _ _ _);refine ae.lit [] h wE ⟨⟨rfl,rfl,rfl,rfl,rfl,trivial⟩,rfl,trivial⟩ rfl rfl ?_)<;>with_reducible refine wK ?_)
    | ((with_reducible show(_∧_)∧_∧_);(refine eK ?_ ?_<;>with_reducible repeat' (first|exact trivial|(show _∧_;refine aK ?_ ?_))))));all_goals clear fct)
        refine bZ.mk (j+1) (by omega) (by omega) ?_
        rw[hst]
        (refine fK ?_;(with_reducible repeat' (first|exact trivial|(show _∧_;refine aK ?_ ?_)));(all_goals try rfl))
        all_goals first|exact⟨rfl,rfl⟩|rfl|(show((j+1:Nat):Int)=(j:Int)+1;omega)|(show((M+1:Nat):Int)=(M:Int)+1;omega)|(simp;done)|trace_state
      · rw[if_neg (fun q=>e2 q.2)] at hst
        have fb:=eq_false e2
        (have fct:=And.intro fa (fb);(repeat' (first
    |refine gF ?_
    |(((with_reducible show ae _ _ 142 _ _ _ _);refine ae.lit [] h wE ⟨⟨rfl,rfl,rfl,rfl,rfl,trivial⟩,rfl,trivial⟩ rfl rfl ?_)<;>with_reducible refine wK ?_)
    | ((with_reducible show(_∧_)∧_∧_);(refine eK ?_ ?_<;>with_reducible repeat' (first|exact trivial|(show _∧_;refine aK ?_ ?_))))));all_goals clear fct)
        refine bZ.mk (j+1) (by omega) (by omega) ?_
        rw[hst]
        (refine fK ?_;(with_reducible repeat' (first|exact trivial|(show _∧_;refine aK ?_ ?_)));(all_goals try rfl))
        all_goals first|exact⟨rfl,rfl⟩|rfl|(show((j+1:Nat):Int)=(j:Int)+1;omega)|(simp;done)|trace_state
  · have hjl:j=cs.length:=by simp only[c9,az] at h1;omega
    subst hjl
    rw[List.take_length]
    repeat' (first
    |refine gK ?_
    |((with_reducible show(_∧_)∧_∧_);(refine eK ?_ ?_<;>with_reducible repeat' (first|exact trivial|(show _∧_;refine aK ?_ ?_)))))
    all_goals first|rfl|trace_state
theorem tX (l:List ai)(m:Int)(p:Nat)(c g:Int)(cs:List Int)(y:ai)(hy:l[p]? =some y)(hcs:∀c∈cs,af l c=true)(hlen:cs.length≤1000)(hks:∀c∈y.kids,af l c=true)(hkl:y.kids.length≤1000):aj Tryz.prog 144 [] [HA l m p c g,cq cs] [] (bG (gd l p g cs)):=by
  have ha:=yU l m p c g cs 2 hcs hlen
  have hb:=yU l m p c g cs 1 hcs hlen
  have hk:=yU l m p c g y.kids 1 hks hkl
  have l1:=ze l g cs 1
  have l2:=ze l g y.kids 1
  have hn:nd l (p:Int)=y:=cF hy
  unfold gd
  rw[hn]
  obtain⟨a1,a2,a3,a4,a5,a6,a7,a8,a9,a10⟩:=y
  simp only at hk hks hkl l2 ⊢
  generalize iF l g cs 2=A at ha ⊢
  generalize iF l g cs 1=B at hb l1 ⊢
  generalize iF l g a7 1=C at hk l2 ⊢
  refine aj.aD (rvs:=[.tmp 4]) G au Tryz.func144 rfl Tryz.ntmps144 rfl rfl ?_;with_reducible refine wD ?_
  repeat' (first
    |refine pK ?_
    | ((first
      |((with_reducible show bq _ _ _ _);(refine bq.mk (fun hp=>?_) (fun hp=>?_)<;>(try simp only[az,bE,c9,Bool.not_eq_true',Bool.not_eq_false',Decidable.not_not,Int.not_lt,Int.not_le] at hp)))
      |((with_reducible show ae _ _ 191 _ _ _ _);first|refine ae.lit [] ha KQ ⟨⟨rfl,rfl,rfl,rfl,rfl,trivial⟩,rfl,rfl,trivial⟩ rfl rfl ?_|refine ae.lit [] hb KQ ⟨⟨rfl,rfl,rfl,rfl,rfl,trivial⟩,rfl,rfl,trivial⟩ rfl rfl ?_|refine ae.lit [] hk KQ ⟨⟨rfl,rfl,rfl,rfl,rfl,trivial⟩,rfl,rfl,trivial⟩ rfl rfl ?_)
      |((with_reducible show aN _ _ _ _ _);refine aN.mk p (aL _) rfl (ay hy) ?_))<;>with_reducible refine wK ?_)
    |((with_reducible show(_∧_)∧_∧_);(refine eK ?_ ?_<;>with_reducible repeat' (first|exact trivial|(show _∧_;refine aK ?_ ?_)))))
  all_goals (first|(have hA:¬0<A:=(by omega);have hB:0<B:=(by omega);rw[dy hA,dG hB,Bool.false_or,Bool.true_and];exact(decide_eq_decide.2 (by omega):decide (1<B+C)=decide ((1:Int)< (B:Int)+ (C:Int))))|(simp;omega)|trace_state)
theorem Kh (l:List ai)(m:Int)(hs:bC l)(n:Int)(p:Nat)(c g:Int)(y:ai)(hy:l[p]? =some y)(hr:bw ⟨l,m⟩=true)(hn:af l n=true):aj Tryz.prog 150 [] [HA l m p c g,ah n] [] (bG (uV l n p)):=by
  have h142:=oq l m p c g p y hy
  have h143:=zb ⟨l,m⟩ hs n p hr hn (aW.2 ⟨p,y,rfl,hy,cF hy⟩)
  unfold uV
  rw[cF hy]
  obtain⟨a1,a2,a3,a4,a5,a6,a7,a8,a9,a10⟩:=y
  simp only at h142 h143 ⊢
  refine aj.aD (rvs:=[.tmp 4]) G au Tryz.func150 rfl Tryz.ntmps150 rfl rfl ?_;with_reducible refine wD ?_
  by_cases e:a1=2
  · have fa:=eq_true e
    (have fct:=fa;(repeat' (first
    |refine gF ?_
    | ((first
      |((with_reducible show ae _ _ 142 _ _ _ _);refine ae.lit [] h142 wE ⟨⟨rfl,rfl,rfl,rfl,rfl,trivial⟩,rfl,trivial⟩ rfl rfl ?_)
      |((with_reducible show ae _ _ 143 _ _ _ _);refine ae.lit [] h143 IT ⟨⟨rfl,rfl,trivial⟩,rfl,rfl,trivial⟩ rfl rfl ?_))<;>with_reducible refine wK ?_)
    |((with_reducible show(_∧_)∧_∧_);(refine eK ?_ ?_<;>with_reducible repeat' (first|exact trivial|(show _∧_;refine aK ?_ ?_))))));all_goals clear fct)
    all_goals (first|rfl|(simp[e];done)|trace_state)
  · have fa:=eq_false e
    (have fct:=fa;(repeat' (first
    |refine gF ?_
    | ((first
      |((with_reducible show ae _ _ 142 _ _ _ _);refine ae.lit [] h142 wE ⟨⟨rfl,rfl,rfl,rfl,rfl,trivial⟩,rfl,trivial⟩ rfl rfl ?_)
      |((with_reducible show ae _ _ 143 _ _ _ _);refine ae.lit [] h143 IT ⟨⟨rfl,rfl,trivial⟩,rfl,rfl,trivial⟩ rfl rfl ?_))<;>with_reducible refine wK ?_)
    |((with_reducible show(_∧_)∧_∧_);(refine eK ?_ ?_<;>with_reducible repeat' (first|exact trivial|(show _∧_;refine aK ?_ ?_))))));all_goals clear fct)
    all_goals (first|rfl|(simp[e];done)|trace_state)
end Go.Proofs.Heir
namespace Go.Proofs.Heir
open Go Go.Am Go.RowKit Go.Lib
set_option maxRecDepth 100000
set_option maxHeartbeats 8000000
set_option maxHeartbeats 16000000
theorem HT (l:List ai)(m:Int)(hs:bC l)(n p:Nat)(g:Int)(x y:ai)(hx:l[n]? =some x)(hy:l[p]? =some y)(R:RF l m):aj Tryz.prog 76 [] [HA l m p (-1) g,ah n] [] (ah (eX l p (-1) g n)):=by
  have tn:af l (n:Int)=true:=aW.2 ⟨n,x,rfl,hx,cF hx⟩
  have tp:af l (p:Int)=true:=aW.2 ⟨p,y,rfl,hy,cF hy⟩
  have ndx:=cF hx
  have ndy:=cF hy
  have h1:=oq l m p (-1) g p y hy
  have h2:=oq l m p (-1) g n x hx
  have ho:=zb ⟨l,m⟩ hs n p (dI.2 R) tn tp
  have hky:∀c∈y.kids,af l c=true:=fun c hc=>(R.kid p tp c (by rw[ndy];exact hc)).1
  have hkx:∀c∈x.kids,af l c=true:=fun c hc=>(R.kid n tn c (by rw[ndx];exact hc)).1
  have lky:y.kids.length≤1000:=Nat.le_trans (hs.kids y (bV hy)) (by omega)
  have lkx:x.kids.length≤1000:=Nat.le_trans (hs.kids x (bV hx)) (by omega)
  have c1:=tX l m p (-1) g x.kids y hy hkx lkx hky lky
  have c2:=tX l m p (-1) g [(n:Int)] y hy (fun c hc=>by rw[ic.1 hc];exact tn) (by simp) hky lky
  unfold eX
  rw[ndx,ndy]
  simp only at ho
  generalize gT l n p=O at ho ⊢
  generalize gd l p g x.kids=C1 at c1 ⊢
  generalize gd l p g [(n:Int)]=C2 at c2 ⊢
  obtain⟨b1,b2,b3,b4,b5,b6,b7,b8,b9,b10⟩:=x
  obtain⟨a1,a2,a3,a4,a5,a6,a7,a8,a9,a10⟩:=y
  simp only at h1 h2 c1 ⊢
  refine aj.aD (rvs:=[.tmp 4]) G au Tryz.func76 rfl Tryz.ntmps76 rfl rfl ?_;with_reducible refine wD ?_
  repeat' (first
    |refine pK ?_
    | ((first
      |((with_reducible show bq _ _ _ _);(refine bq.mk (fun hp=>?_) (fun hp=>?_)<;>(try simp only[az,bE,c9,Bool.not_eq_true',Bool.not_eq_false',Decidable.not_not,Int.not_lt,Int.not_le] at hp)))
      |((with_reducible show ae _ _ 142 _ _ _ _);first|refine ae.lit [] h1 wE ⟨⟨rfl,rfl,rfl,rfl,rfl,trivial⟩,rfl,trivial⟩ rfl rfl ?_|refine ae.lit [] h2 wE ⟨⟨rfl,rfl,rfl,rfl,rfl,trivial⟩,rfl,trivial⟩ rfl rfl ?_)
      |((with_reducible show ae _ _ 143 _ _ _ _);refine ae.lit [] ho IT ⟨⟨rfl,rfl,trivial⟩,rfl,rfl,trivial⟩ rfl rfl ?_)
      |((with_reducible show ae _ _ 144 _ _ _ _);first|refine ae.lit [] c1 Hy ⟨⟨rfl,rfl,rfl,rfl,rfl,trivial⟩,rfl,trivial⟩ rfl rfl ?_|refine ae.lit [771] c2 Hy ⟨⟨rfl,rfl,rfl,rfl,rfl,trivial⟩,bY (l:=[(n:Int)]) rfl rfl rfl rfl,trivial⟩ rfl rfl ?_)
      |((with_reducible show aN _ _ _ _ _);refine aN.mk n (aL _) rfl (ay hx) ?_))<;>with_reducible refine wK ?_)
    |((with_reducible show(_∧_)∧_∧_);(refine eK ?_ ?_<;>with_reducible repeat' (first|exact trivial|(show _∧_;refine aK ?_ ?_)))))
  all_goals (first|rfl|(simp_all[eA];done)|trace_state)
theorem Gr (l:List ai)(m:Int)(hs:bC l)(n p c:Nat)(g:Int)(x y z:ai)(hx:l[n]? =some x)(hy:l[p]? =some y)(hz:l[c]? =some z)(R:RF l m):aj Tryz.prog 76 [] [HA l m p c g,ah n] [] (ah (eX l p c g n)):=by
  have tn:af l (n:Int)=true:=aW.2 ⟨n,x,rfl,hx,cF hx⟩
  have tp:af l (p:Int)=true:=aW.2 ⟨p,y,rfl,hy,cF hy⟩
  have ndx:=cF hx
  have ndy:=cF hy
  have ndz:=cF hz
  have h1:=oq l m p c g p y hy
  have h2:=oq l m p c g n x hx
  have ho:=zb ⟨l,m⟩ hs n p (dI.2 R) tn tp
  have hky:∀c∈y.kids,af l c=true:=fun c hc=>(R.kid p tp c (by rw[ndy];exact hc)).1
  have hkx:∀c∈x.kids,af l c=true:=fun c hc=>(R.kid n tn c (by rw[ndx];exact hc)).1
  have lky:y.kids.length≤1000:=Nat.le_trans (hs.kids y (bV hy)) (by omega)
  have lkx:x.kids.length≤1000:=Nat.le_trans (hs.kids x (bV hx)) (by omega)
  have c1:=tX l m p c g x.kids y hy hkx lkx hky lky
  have c2:=tX l m p c g [(n:Int)] y hy (fun c hc=>by rw[ic.1 hc];exact tn) (by simp) hky lky
  unfold eX
  rw[ndx,ndy,ndz]
  simp only at ho
  generalize gT l n p=O at ho ⊢
  generalize gd l p g x.kids=C1 at c1 ⊢
  generalize gd l p g [(n:Int)]=C2 at c2 ⊢
  obtain⟨b1,b2,b3,b4,b5,b6,b7,b8,b9,b10⟩:=x
  obtain⟨a1,a2,a3,a4,a5,a6,a7,a8,a9,a10⟩:=y
  obtain⟨e1,e2,e3,e4,e5,e6,e7,e8,e9,e10⟩:=z
  have fc:((c:Int)=-1)=False:=eq_false (by omega)
  simp only at h1 h2 c1 ⊢
  refine aj.aD (rvs:=[.tmp 4]) G au Tryz.func76 rfl Tryz.ntmps76 rfl rfl ?_;with_reducible refine wD ?_
  (have fct:=fc;(repeat' (first
    |refine pF ?_
    | ((first
      |((with_reducible show bq _ _ _ _);(refine bq.mk (fun hp=>?_) (fun hp=>?_)<;>(try simp only[az,bE,c9,Bool.not_eq_true',Bool.not_eq_false',Decidable.not_not,Int.not_lt,Int.not_le] at hp)))
      |((with_reducible show ae _ _ 142 _ _ _ _);first|refine ae.lit [] h1 wE ⟨⟨rfl,rfl,rfl,rfl,rfl,trivial⟩,rfl,trivial⟩ rfl rfl ?_|refine ae.lit [] h2 wE ⟨⟨rfl,rfl,rfl,rfl,rfl,trivial⟩,rfl,trivial⟩ rfl rfl ?_)
      |((with_reducible show ae _ _ 143 _ _ _ _);refine ae.lit [] ho IT ⟨⟨rfl,rfl,trivial⟩,rfl,rfl,trivial⟩ rfl rfl ?_)
      |((with_reducible show ae _ _ 144 _ _ _ _);first|refine ae.lit [] c1 Hy ⟨⟨rfl,rfl,rfl,rfl,rfl,trivial⟩,rfl,trivial⟩ rfl rfl ?_|refine ae.lit [771] c2 Hy ⟨⟨rfl,rfl,rfl,rfl,rfl,trivial⟩,bY (l:=[(n:Int)]) rfl rfl rfl rfl,trivial⟩ rfl rfl ?_)
      |((with_reducible show aN _ _ _ _ _);first|refine aN.mk n (aL _) rfl (ay hx) ?_|refine aN.mk c (aL _) rfl (ay hz) ?_))<;>with_reducible refine wK ?_)
    |((with_reducible show(_∧_)∧_∧_);(refine eK ?_ ?_<;>with_reducible repeat' (first|exact trivial|(show _∧_;refine aK ?_ ?_))))));all_goals clear fct)
  all_goals (first|rfl|(simp_all[eA];done)|trace_state)
theorem Hf (l:List ai)(m:Int)(hs:bC l)(n p c g:Int)(hn:af l n=true)(hp:af l p=true)(hc:c=-1∨af l c=true)(R:RF l m):aj Tryz.prog 76 [] [HA l m p c g,ah n] [] (ah (eX l p c g n)):=by
  obtain⟨a,x,rfl,hx,_⟩:=aW.1 hn
  obtain⟨b,y,rfl,hy,_⟩:=aW.1 hp
  rcases hc with rfl|hc
  ·exact HT l m hs a b g x y hx hy R
  · obtain⟨i,z,rfl,hz,_⟩:=aW.1 hc
    exact Gr l m hs a b i g x y z hx hy hz R
theorem C6 (f:ForM)(hs:bC f.nodes)(n p c:Int):aj Tryz.prog 30 [] [aR f,ah n,ah p,ah c] [] (ah (ni f n p c)):=by
  have h2:=En f hs n p
  have h1:=zo f hs c
  have h76:eU f n p c=true→aj Tryz.prog 76 [] [HA f.nodes f.most p c (-1),ah n] [] (ah (eX f.nodes p c (-1) n)):=fun h=>by
    obtain⟨l,m⟩:=f
    unfold eU at h
    simp only[bO,kg,bE] at h
    exact Hf l m hs n p c (-1) h.1.2.1 h.1.2.2 h.2 (dI.1 h.1.1)
  obtain⟨l,m⟩:=f
  unfold ni
  unfold eU at h76 ⊢
  simp only at h2 h1 h76 ⊢
  cases e2:(bw ⟨l,m⟩&&(af l n&&af l p)) with
  | false=>
    rw[e2] at h2
    refine aj.aD (rvs:=[.tmp 8]) G au Tryz.func30 rfl Tryz.ntmps30 rfl rfl ?_;with_reducible refine wD ?_
    refine ae.lit [121] h2 Bp ⟨⟨rfl,rfl,trivial⟩,bY (l:=[n,p]) rfl rfl rfl rfl,trivial⟩ rfl rfl ?_;with_reducible refine wK ?_
    repeat' (first
    |refine gK ?_
    |((with_reducible show(_∧_)∧_∧_);(refine eK ?_ ?_<;>with_reducible repeat' (first|exact trivial|(show _∧_;refine aK ?_ ?_)))))
    all_goals first|rfl|trace_state
  | true =>
    rw[e2] at h2 h76
    have er:bw ⟨l,m⟩=true:=(Bool.and_eq_true_iff.1 e2).1
    rw[er,Bool.true_and] at h1
    by_cases ec:c=-1
    · subst ec
      have h:=h76 rfl
      refine aj.aD (rvs:=[.tmp 8]) G au Tryz.func30 rfl Tryz.ntmps30 rfl rfl ?_;with_reducible refine wD ?_
      refine ae.lit [121] h2 Bp ⟨⟨rfl,rfl,trivial⟩,bY (l:=[n,p]) rfl rfl rfl rfl,trivial⟩ rfl rfl ?_;with_reducible refine wK ?_
      repeat' (first
    |refine gK ?_
    |(((with_reducible show ae _ _ 76 _ _ _ _);refine ae.lit [] h Ml ⟨⟨rfl,rfl,rfl,rfl,rfl,trivial⟩,rfl,trivial⟩ rfl rfl ?_)<;>with_reducible refine wK ?_)
    | ((with_reducible show(_∧_)∧_∧_);(refine eK ?_ ?_<;>with_reducible repeat' (first|exact trivial|(show _∧_;refine aK ?_ ?_)))))
      all_goals first|rfl|trace_state
    · have fc:=eq_false ec
      cases e1:af l c with
      | false=>
        rw[e1] at h1
        rw[dy ec]
        refine aj.aD (rvs:=[.tmp 8]) G au Tryz.func30 rfl Tryz.ntmps30 rfl rfl ?_;with_reducible refine wD ?_
        refine ae.lit [121] h2 Bp ⟨⟨rfl,rfl,trivial⟩,bY (l:=[n,p]) rfl rfl rfl rfl,trivial⟩ rfl rfl ?_;with_reducible refine wK ?_
        (have fct:=fc;(repeat' (first
    |refine gF ?_
    |(((with_reducible show ae _ _ 71 _ _ _ _);refine ae.lit [211] h1 Bp ⟨⟨rfl,rfl,trivial⟩,bY (l:=[c]) rfl rfl rfl rfl,trivial⟩ rfl rfl ?_)<;>with_reducible refine wK ?_)
    | ((with_reducible show(_∧_)∧_∧_);(refine eK ?_ ?_<;>with_reducible repeat' (first|exact trivial|(show _∧_;refine aK ?_ ?_))))));all_goals clear fct)
        all_goals first|rfl|trace_state
      | true=>
        rw[e1] at h1
        have h:=h76 (by rw[e1];simp)
        rw[dy ec]
        refine aj.aD (rvs:=[.tmp 8]) G au Tryz.func30 rfl Tryz.ntmps30 rfl rfl ?_;with_reducible refine wD ?_
        refine ae.lit [121] h2 Bp ⟨⟨rfl,rfl,trivial⟩,bY (l:=[n,p]) rfl rfl rfl rfl,trivial⟩ rfl rfl ?_;with_reducible refine wK ?_
        (have fct:=fc;(repeat' (first
    |refine gF ?_
    | ((first
      |((with_reducible show ae _ _ 71 _ _ _ _);refine ae.lit [211] h1 Bp ⟨⟨rfl,rfl,trivial⟩,bY (l:=[c]) rfl rfl rfl rfl,trivial⟩ rfl rfl ?_)
      |((with_reducible show ae _ _ 76 _ _ _ _);refine ae.lit [] h Ml ⟨⟨rfl,rfl,rfl,rfl,rfl,trivial⟩,rfl,trivial⟩ rfl rfl ?_))<;>with_reducible refine wK ?_)
    | ((with_reducible show(_∧_)∧_∧_);(refine eK ?_ ?_<;>with_reducible repeat' (first|exact trivial|(show _∧_;refine aK ?_ ?_))))));all_goals clear fct)
        all_goals first|rfl|trace_state
end Go.Proofs.Heir
namespace Go.Proofs.Heir
open Go Go.Am Go.RowKit Go.Lib
set_option maxRecDepth 100000
set_option maxHeartbeats 8000000
set_option maxHeartbeats 2000000
structure mz (f g:ForM) (ns:List aQ):Prop where
  right:bw g=true
  len:g.nodes.length=f.nodes.length
  told:Told f.nodes g.nodes ns
  kind:∀x,af f.nodes x=true→(nd g.nodes x).kind=(nd f.nodes x).kind
  chain:∀n,af f.nodes n=true→∀t,cj t=true→cH t=t→ep n t (ID (nd f.nodes n).attrs t) ns=some (ID (nd g.nodes n).attrs t)
theorem mz.nil {f:ForM}(h:bw f=true):mz f f []:=⟨h,rfl,.nil _,fun _ _=>rfl,fun _ _ _ _ _=>rfl⟩
theorem mz.snoc {f g:ForM}{ns:List aQ}{r:ForM×List aQ×Int}(h:mz f g ns)(k:Ce g r):mz f r.1 (ns++r.2.1):=by
  have T:=aY h.len
  refine⟨k.right,k.len.trans h.len,h.told.trans h.len h.kind k.told,fun x hx=>(k.kind x (by rw[T];exact hx)).trans (h.kind x hx),fun n hn t h1 h2=>?_⟩
  rw[mJ,h.chain n hn t h1 h2]
  exact k.chain n (by rw[T];exact hn) t h1 h2
theorem mz.last {f g:ForM}{ns:List aQ}(h:mz f g ns){n:Int}(hn:af f.nodes n=true)(h1:(nd f.nodes n).kind=1):runN (OQ (kY f.nodes n),(nd f.nodes n).doc) (dw n ns)=some (OQ (kY g.nodes n),(nd g.nodes n).doc):=h.told.run n hn h1
theorem HH {n:Int}{x:aQ}{r:List aQ}{s:Int×Int}(hx:x.node=n):runN s (dw n (x::r))=match uJ s x with
    |none=>none
    |some t=>runN t (dw n r):=by
  unfold dw
  rw[List.filter_cons,if_pos (by simpa using hx)];rfl
theorem I1 {n:Int}{x:aQ}{r:List aQ}{s:Int×Int}(hx:x.node≠n):runN s (dw n (x::r))=runN s (dw n r):=by
  unfold dw
  rw[List.filter_cons,if_neg (by simpa using hx)]
theorem Hs {n:Int}{ns:List aQ}{s t:Int×Int}(h:runN s (dw n ns)=some t)(k:Nat):∃u,runN s (dw n (ns.take k))=some u∧runN u (dw n (ns.drop k))=some t:=by
  have e:dw n ns=dw n (ns.take k)++dw n (ns.drop k):=by rw[←nE,List.take_append_drop]
  rw[e,qh] at h
  cases hu:runN s (dw n (ns.take k)) with
  |none=>rw[hu] at h;cases h
  |some u=>rw[hu] at h;exact⟨u,rfl,h⟩
theorem NK {n:Int}{ns:List aQ}{s t:Int×Int}(h:runN s (dw n ns)=some t){k:Nat}{x:aQ}(hx:ns[k]? =some x){u:Int×Int}(hu:runN s (dw n (ns.take k))=some u):
    (x.node=n→∃v,uJ u x=some v∧runN s (dw n (ns.take (k+1)))=some v)∧(x.node≠n→runN s (dw n (ns.take (k+1)))=some u):=by
  have e:ns.take (k+1)=ns.take k++ [x]:=by rw[List.take_add_one,hx];rfl
  have e2:runN s (dw n (ns.take (k+1)))=runN u (dw n [x]):=by
    rw[e,nE,qh,hu]
  refine⟨fun hn=>?_,fun hn=>?_⟩
  · obtain⟨v,hv,_⟩:=Hs h (k+1)
    rw[e2] at hv
    have e3:=HH (s:=u) (r:=[]) hn
    cases hq:uJ u x with
    |none=>rw[e3,hq] at hv;cases hv
    |some z=>exact⟨z,rfl,by rw[e2,e3,hq];rfl⟩
  ·rw[e2,I1 hn];rfl
theorem CV {n:Int}{s:ByteArray}{ns:List aQ}{a t:ByteArray×Bool}(h:ep n s a ns=some t)(k:Nat):∃u,ep n s a (ns.take k)=some u∧ep n s u (ns.drop k)=some t:=by
  rw[←List.take_append_drop k ns,mJ] at h
  cases hu:ep n s a (ns.take k) with
  |none=>rw[hu] at h;cases h
  |some u=>rw[hu] at h;exact⟨u,rfl,h⟩
theorem L8 {n:Int}{s:ByteArray}{ns:List aQ}{a t:ByteArray×Bool}(h:ep n s a ns=some t){k:Nat}{x:aQ}(hx:ns[k]? =some x){u:ByteArray×Bool}(hu:ep n s a (ns.take k)=some u):∃v,jT n s u x=some v∧ep n s a (ns.take (k+1))=some v:=by
  have e:ns.take (k+1)=ns.take k++ [x]:=by rw[List.take_add_one,hx];rfl
  have e2:ep n s a (ns.take (k+1))=ep n s u [x]:=by rw[e,mJ,hu]
  obtain⟨v,hv,_⟩:=CV h (k+1)
  rw[e2] at hv
  cases hq:jT n s u x with
  | none=>
    have:ep n s u [x]=none:=by
      show(match jT n s u x with|none=>none|some z=>ep n s z [])=none
      rw[hq]
    rw[this] at hv;cases hv
  | some z=>
    refine⟨z,rfl,?_⟩
    rw[e2]
    show(match jT n s u x with|none=>none|some z=>ep n s z [])=some z
    rw[hq];rfl
section
variable {l : List ai} {m : Int}
end
theorem j7:∀ {cs:List Int} {b:Int},b∈cs→∃k:Nat,k<cs.length∧cs[k]? =some b∧(∀ (j:Nat) x,j<k→cs[j]? =some x→x≠b)∧cs.takeWhile (fun c=>decide (c≠b))=cs.take k∧cs.dropWhile (fun c=>decide (c≠b))=cs.drop k∧cs.erase b=cs.take k++cs.drop (k+1)
  |[],b,h=>by cases h
  | a :: r,b,h=>by
    by_cases e:a=b
    · subst e
      refine⟨0,by simp,rfl,fun j x hj=>by omega,?_,?_,?_⟩
      ·rw[List.takeWhile_cons,if_neg (by simp)];rfl
      ·rw[List.dropWhile_cons,if_neg (by simp)];rfl
      ·rw[List.erase_cons_head];rfl
    · obtain⟨k,h1,h2,h3,h4,h5,h6⟩:=j7 ((dP.1 h).resolve_left fun q=>e q.symm)
      refine⟨k+1,by simp;omega,by simpa using h2,fun j x hj hx=>?_,?_,?_,?_⟩
      · cases j with
        |zero=>simp at hx;rw[←hx];exact e
        |succ j=>exact h3 j x (by omega) (by simpa using hx)
      ·rw[List.takeWhile_cons,if_pos (by simpa using e),h4];rfl
      ·rw[List.dropWhile_cons,if_pos (by simpa using e),h5];rfl
      ·rw[List.erase_cons,if_neg (by simpa using e),h6];rfl
theorem Nh {cs:List Int}{b k:Int}{i:Nat}(hb:b≠-1)(h4:cs.takeWhile (fun c=>decide (c≠b))=cs.take i)(h5:cs.dropWhile (fun c=>decide (c≠b))=cs.drop i):nS cs b k=cs.take i++k::cs.drop i:=by
  unfold nS
  rw[if_neg hb,h4,h5]
theorem K4 (cs:List Int)(k:Int):nS cs (-1) k=cs++ [k]:=by unfold nS;rw[if_pos rfl]
end Go.Proofs.Heir
namespace Go.Proofs.Heir
open Go Go.Am Go.RowKit Go.Lib
set_option maxRecDepth 100000
set_option maxHeartbeats 8000000
set_option maxHeartbeats 16000000
theorem ql:∀ {cs:List Int} {b:Int} {i:Nat},cs[i]? =some b→(∀ (j:Nat) x,j<i→cs[j]? =some x→x≠b)→bT cs b=(cs[i+1]?).getD (-1)
  | a::r,b,0,h,_=>by
    cases h
    rw[wQ,if_pos rfl,List.getElem?_cons_succ]
    cases r<;>rfl
  | a::r,b,i+1,h,hno=>by
    rw[List.getElem?_cons_succ] at h
    rw[wQ,if_neg (hno 0 a (by omega) rfl),List.getElem?_cons_succ]
    exact ql h fun j x hj hx=>hno (j+1) x (by omega) (by rw[List.getElem?_cons_succ];exact hx)
theorem Iv (f:ForM)(hs:bC f.nodes)(n p c:Int):aj Tryz.prog 28 [] [aR f,ah n,ah p,ah c] [] (ah (dW f n p c)):=by
  have h30:=C6 f hs n p c
  unfold dW
  by_cases e0:ni f n p c=0
  · rw [if_neg (fun q=>q e0)]
    by_cases ec:c=n
    · subst ec
      rw[if_neg (fun q=>q rfl)]
      rw[e0] at h30
      have ha:eU f c p c=true:=by
        cases h:eU f c p c with
        |true=>rfl
        |false=>unfold ni at e0;rw[h] at e0;simp at e0
      have ht:eX f.nodes p c (-1) c=0:=by unfold ni at e0;rw[if_pos ha] at e0;exact e0
      unfold eU at ha
      simp only[bO,kg,bE] at ha
      obtain⟨⟨hr,hn,hp⟩,_⟩:=ha
      have R:RF f.nodes f.most:=dI.1 hr
      have hc0:=bf hn
      have hin:c∈ (nd f.nodes p).kids:=by
        refine(R.child hp hn).1 ?_
        unfold eX at ht
        by_cases e1:(!eA (nd f.nodes p).kind||gT f.nodes c p)=true
        ·rw[if_pos e1] at ht;omega
        rw[if_neg e1] at ht
        by_cases e2:c≠-1∧(nd f.nodes c).parent≠p
        ·rw[if_pos e2] at ht;omega
        ·exact Classical.byContradiction fun q=>e2 ⟨by omega,q⟩
      obtain⟨i,hi,hic,hno,_⟩:=j7 hin
      obtain⟨k,y,rfl,hy,hny⟩:=aW.1 hp
      rw[hny] at hi hic hno ⊢
      have hkl:y.kids.length≤60:=hs.kids y (bV hy)
      have h73:=qY y.kids (by omega) c
      rw[gr hic (dG rfl) fun j x hj hx=>dy (hno j x hj hx)] at h73
      rw[ql hic hno]
      obtain⟨l,m⟩:=f
      obtain⟨a1,a2,a3,a4,a5,a6,a7,a8,a9,a10⟩:=y
      simp only at h73 hi hic hy hkl ⊢
      have hla:(a7.map bt).length=a7.length:=bN ..
      cases hx:a7[i+1]? with
      | none=>
        have hge:a7.length≤i+1:=List.getElem?_eq_none_iff.1 hx
        have fa:(((i:Int)+1< (a7.length:Int)))=False:=eq_false (by omega)
        refine aj.aD (rvs:=[.tmp 8]) G au Tryz.func28 rfl Tryz.ntmps28 rfl rfl ?_;with_reducible refine wD ?_
        repeat' (first
    |refine pK ?_
    | ((first
      |((with_reducible show bq _ _ _ _);(refine bq.mk (fun hp=>?_) (fun hp=>?_)<;>(try simp only[az,bE,c9,Bool.not_eq_true',Bool.not_eq_false',Decidable.not_not,Int.not_lt,Int.not_le] at hp)))
      |((with_reducible show ae _ _ 30 _ _ _ _);refine ae.lit [] h30 Fo ⟨⟨rfl,rfl,trivial⟩,rfl,rfl,rfl,trivial⟩ rfl rfl ?_)
      |((with_reducible show ae _ _ 73 _ _ _ _);refine ae.lit [] h73 Jc ⟨rfl,rfl,trivial⟩ rfl rfl ?_)
      |((with_reducible show aN _ _ _ _ _);first|refine aN.mk k (aL _) rfl (ay hy) ?_|(exfalso;omega)))<;>with_reducible refine wK ?_)
    | ((with_reducible show(_∧_)∧_∧_);(refine eK ?_ ?_<;>with_reducible repeat' (first|exact trivial|(show _∧_;refine aK ?_ ?_)))))
        all_goals first|rfl|exact absurd trivial hp|(exfalso;omega)|trace_state
      | some z=>
        have hlt:i+1<a7.length:=(bj hx).1
        refine aj.aD (rvs:=[.tmp 8]) G au Tryz.func28 rfl Tryz.ntmps28 rfl rfl ?_;with_reducible refine wD ?_
        repeat' (first
    |refine pK ?_
    | ((first
      |((with_reducible show bq _ _ _ _);(refine bq.mk (fun hp=>?_) (fun hp=>?_)<;>(try simp only[az,bE,c9,Bool.not_eq_true',Bool.not_eq_false',Decidable.not_not,Int.not_lt,Int.not_le] at hp)))
      |((with_reducible show ae _ _ 30 _ _ _ _);refine ae.lit [] h30 Fo ⟨⟨rfl,rfl,trivial⟩,rfl,rfl,rfl,trivial⟩ rfl rfl ?_)
      |((with_reducible show ae _ _ 73 _ _ _ _);refine ae.lit [] h73 Jc ⟨rfl,rfl,trivial⟩ rfl rfl ?_)
      |((with_reducible show aN _ _ _ _ _);first|refine aN.mk k (aL _) rfl (ay hy) ?_|refine aN.mk (i+1) (ah z) (by first|rfl|(show((i:Int)+1)=((i+1:Nat):Int);omega)) (cR hx) ?_))<;>with_reducible refine wK ?_)
    | ((with_reducible show(_∧_)∧_∧_);(refine eK ?_ ?_<;>with_reducible repeat' (first|exact trivial|(show _∧_;refine aK ?_ ?_)))))
        all_goals first|rfl|exact absurd trivial hp|(exfalso;omega)|trace_state
    · rw[if_pos ec,]
      rw[e0] at h30
      have fc:=eq_false ec
      obtain⟨l,m⟩:=f
      refine aj.aD (rvs:=[.tmp 8]) G au Tryz.func28 rfl Tryz.ntmps28 rfl rfl ?_;with_reducible refine wD ?_
      (have fct:=fc;(repeat' (first
    |refine gF ?_
    |(((with_reducible show ae _ _ 30 _ _ _ _);refine ae.lit [] h30 Fo ⟨⟨rfl,rfl,trivial⟩,rfl,rfl,rfl,trivial⟩ rfl rfl ?_)<;>with_reducible refine wK ?_)
    | ((with_reducible show(_∧_)∧_∧_);(refine eK ?_ ?_<;>with_reducible repeat' (first|exact trivial|(show _∧_;refine aK ?_ ?_))))));all_goals clear fct)
      all_goals first|rfl|trace_state
  · rw[if_pos e0]
    have f0:=eq_false e0
    obtain⟨l,m⟩:=f
    refine aj.aD (rvs:=[.tmp 8]) G au Tryz.func28 rfl Tryz.ntmps28 rfl rfl ?_;with_reducible refine wD ?_
    (have fct:=f0;(repeat' (first
    |refine gF ?_
    |(((with_reducible show ae _ _ 30 _ _ _ _);refine ae.lit [] h30 Fo ⟨⟨rfl,rfl,trivial⟩,rfl,rfl,rfl,trivial⟩ rfl rfl ?_)<;>with_reducible refine wK ?_)
    |((with_reducible show(_∧_)∧_∧_);(refine eK ?_ ?_<;>with_reducible repeat' (first|exact trivial|(show _∧_;refine aK ?_ ?_))))));all_goals clear fct)
    all_goals first|rfl|trace_state
theorem zE (f:ForM)(hs:bC f.nodes)(n:Nat)(y:ai)(hy:f.nodes[n]? =some y)(hr:bw f=true):aj Tryz.prog 27 [] [aR f,ah n] [aF (cr f.nodes n)] (.own 0 0 (cr f.nodes n).length):=by
  have h1:=zo f hs n
  rw[hr,aW.2 ⟨n,y,rfl,hy,cF hy⟩] at h1
  have h72:=Dq y.kids (by have:=hs.kids y (bV hy);omega)
  unfold cr
  rw[cF hy]
  obtain⟨l,m⟩:=f
  obtain⟨a1,a2,a3,a4,a5,a6,a7,a8,a9,a10⟩:=y
  simp only at h72 hy ⊢
  by_cases e:a1=3
  · rw [if_pos e]
    have fe:=eq_true e
    refine aj.aD (rvs:=[.tmp 4]) G au Tryz.func27 rfl Tryz.ntmps27 rfl rfl ?_;with_reducible refine wD ?_
    refine ae.lit [81] h1 Bp ⟨⟨rfl,rfl,trivial⟩,bY (l:=[(n:Int)]) rfl rfl rfl rfl,trivial⟩ rfl rfl ?_;with_reducible refine wK ?_
    (have fct:=fe;(repeat' (first
    |refine gF ?_
    | ((first
      |((with_reducible show aN _ _ _ _ _);refine aN.mk n (aL _) rfl (ay hy) ?_)
      |((with_reducible show ae _ _ 72 _ _ _ _);refine ae.new 251 [] h72 F2 ⟨rfl,trivial⟩ rfl rfl rfl (nH _) rfl ?_))<;>with_reducible refine wK ?_)
    |((with_reducible show(_∧_)∧_∧_);(refine eK ?_ ?_<;>with_reducible repeat' (first|exact trivial|(show _∧_;refine aK ?_ ?_))))));all_goals clear fct)
    all_goals first|rfl|exact bS (aa _)|exact bS (aa [(n:Int)])|exact aa [(n:Int)]|exact⟨.refl (aa _),aa _⟩|trace_state
  · rw[if_neg e]
    have fe:=eq_false e
    refine aj.aD (rvs:=[.tmp 4]) G au Tryz.func27 rfl Tryz.ntmps27 rfl rfl ?_;with_reducible refine wD ?_
    refine ae.lit [81] h1 Bp ⟨⟨rfl,rfl,trivial⟩,bY (l:=[(n:Int)]) rfl rfl rfl rfl,trivial⟩ rfl rfl ?_;with_reducible refine wK ?_
    (have fct:=fe;(repeat' (first
    |refine gF ?_
    |(((with_reducible show aN _ _ _ _ _);refine aN.mk n (aL _) rfl (ay hy) ?_)<;>with_reducible refine wK ?_)
    |((with_reducible show(_∧_)∧_∧_);(refine eK ?_ ?_<;>with_reducible repeat' (first|exact trivial|(show _∧_;refine aK ?_ ?_))))));all_goals clear fct)
    all_goals first|rfl|exact bS (aa _)|exact bS (aa [(n:Int)])|exact aa [(n:Int)]|exact⟨.refl (aa _),aa _⟩|trace_state
theorem MV (f:ForM)(hs:bC f.nodes)(n p c:Int):aj Tryz.prog 85 [] [aR f,ah n,ah p,ah c] [] (ah (qt f n p c)):=by
  have h2:=En f hs n p
  have h1:=zo f hs c
  have h76:eU f n p c=true→aj Tryz.prog 76 [] [HA f.nodes f.most p c c,ah n] [] (ah (eX f.nodes p c c n)):=fun h=>by
    obtain⟨l,m⟩:=f
    unfold eU at h
    simp only[bO,kg,bE] at h
    exact Hf l m hs n p c c h.1.2.1 h.1.2.2 h.2 (dI.1 h.1.1)
  have h150:eU f n p c=true→aj Tryz.prog 150 [] [HA f.nodes f.most p c c,ah n] [] (bG (uV f.nodes n p)):=fun h=>by
    obtain⟨l,m⟩:=f
    unfold eU at h
    simp only[bO,kg,bE] at h
    obtain⟨k,y,rfl,hy,_⟩:=aW.1 h.1.2.2
    exact Kh l m hs n k c c y hy h.1.1 h.1.2.1
  obtain⟨l,m⟩:=f
  unfold qt
  unfold eU at h76 h150 ⊢
  simp only at h2 h1 h76 h150 ⊢
  generalize eX l p c c n=T at h76 ⊢
  generalize uV l n p=Q at h150 ⊢
  cases e2:(bw ⟨l,m⟩&&(af l n&&af l p)) with
  | false=>
    rw[e2] at h2
    refine aj.aD (rvs:=[.tmp 8]) G au Tryz.func85 rfl Tryz.ntmps85 rfl rfl ?_;with_reducible refine wD ?_
    refine ae.lit [141] h2 Bp ⟨⟨rfl,rfl,trivial⟩,bY (l:=[n,p]) rfl rfl rfl rfl,trivial⟩ rfl rfl ?_;with_reducible refine wK ?_
    repeat' (first
    |refine gK ?_
    |((with_reducible show(_∧_)∧_∧_);(refine eK ?_ ?_<;>with_reducible repeat' (first|exact trivial|(show _∧_;refine aK ?_ ?_)))))
    all_goals first|rfl|trace_state
  | true =>
    rw[e2] at h2 h76 h150
    have er:bw ⟨l,m⟩=true:=(Bool.and_eq_true_iff.1 e2).1
    rw[er,Bool.true_and] at h1
    by_cases ec:c=-1
    · subst ec
      have h:=h76 rfl
      have h5:=h150 rfl
      by_cases eT:T=0
      · have fT:=eq_true eT
        refine aj.aD (rvs:=[.tmp 8]) G au Tryz.func85 rfl Tryz.ntmps85 rfl rfl ?_;with_reducible refine wD ?_
        refine ae.lit [141] h2 Bp ⟨⟨rfl,rfl,trivial⟩,bY (l:=[n,p]) rfl rfl rfl rfl,trivial⟩ rfl rfl ?_;with_reducible refine wK ?_
        (have fct:=fT;(repeat' (first
    |refine gF ?_
    |(((with_reducible show ae _ _ 76 _ _ _ _);refine ae.lit [] h Ml ⟨⟨rfl,rfl,rfl,rfl,rfl,trivial⟩,rfl,trivial⟩ rfl rfl ?_)<;>with_reducible refine wK ?_)
    | ((with_reducible show(_∧_)∧_∧_);(refine eK ?_ ?_<;>with_reducible repeat' (first|exact trivial|(show _∧_;refine aK ?_ ?_))))));all_goals clear fct)
        all_goals first|rfl|(simp[eT];done)|trace_state
      · have fT:=eq_false eT
        cases Q
        · refine aj.aD (rvs:=[.tmp 8]) G au Tryz.func85 rfl Tryz.ntmps85 rfl rfl ?_;with_reducible refine wD ?_
          refine ae.lit [141] h2 Bp ⟨⟨rfl,rfl,trivial⟩,bY (l:=[n,p]) rfl rfl rfl rfl,trivial⟩ rfl rfl ?_;with_reducible refine wK ?_
          (have fct:=fT;(repeat' (first
    |refine gF ?_
    | ((first
      |((with_reducible show ae _ _ 76 _ _ _ _);refine ae.lit [] h Ml ⟨⟨rfl,rfl,rfl,rfl,rfl,trivial⟩,rfl,trivial⟩ rfl rfl ?_)
      |((with_reducible show ae _ _ 150 _ _ _ _);refine ae.lit [] h5 N3 ⟨⟨rfl,rfl,rfl,rfl,rfl,trivial⟩,rfl,trivial⟩ rfl rfl ?_))<;>with_reducible refine wK ?_)
    | ((with_reducible show(_∧_)∧_∧_);(refine eK ?_ ?_<;>with_reducible repeat' (first|exact trivial|(show _∧_;refine aK ?_ ?_))))));all_goals clear fct)
          all_goals first|rfl|(simp[eT];done)|trace_state
        · refine aj.aD (rvs:=[.tmp 8]) G au Tryz.func85 rfl Tryz.ntmps85 rfl rfl ?_;with_reducible refine wD ?_
          refine ae.lit [141] h2 Bp ⟨⟨rfl,rfl,trivial⟩,bY (l:=[n,p]) rfl rfl rfl rfl,trivial⟩ rfl rfl ?_;with_reducible refine wK ?_
          (have fct:=fT;(repeat' (first
    |refine gF ?_
    | ((first
      |((with_reducible show ae _ _ 76 _ _ _ _);refine ae.lit [] h Ml ⟨⟨rfl,rfl,rfl,rfl,rfl,trivial⟩,rfl,trivial⟩ rfl rfl ?_)
      |((with_reducible show ae _ _ 150 _ _ _ _);refine ae.lit [] h5 N3 ⟨⟨rfl,rfl,rfl,rfl,rfl,trivial⟩,rfl,trivial⟩ rfl rfl ?_))<;>with_reducible refine wK ?_)
    |((with_reducible show(_∧_)∧_∧_);(refine eK ?_ ?_<;>with_reducible repeat' (first|exact trivial|(show _∧_;refine aK ?_ ?_))))));all_goals clear fct)
          all_goals first|rfl|(simp[eT];done)|trace_state
    · have fc:=eq_false ec
      cases e1:af l c with
      | false=>
        rw[e1] at h1
        rw[dy ec]
        refine aj.aD (rvs:=[.tmp 8]) G au Tryz.func85 rfl Tryz.ntmps85 rfl rfl ?_;with_reducible refine wD ?_
        refine ae.lit [141] h2 Bp ⟨⟨rfl,rfl,trivial⟩,bY (l:=[n,p]) rfl rfl rfl rfl,trivial⟩ rfl rfl ?_;with_reducible refine wK ?_
        (have fct:=fc;(repeat' (first
    |refine gF ?_
    |(((with_reducible show ae _ _ 71 _ _ _ _);refine ae.lit [231] h1 Bp ⟨⟨rfl,rfl,trivial⟩,bY (l:=[c]) rfl rfl rfl rfl,trivial⟩ rfl rfl ?_)<;>with_reducible refine wK ?_)
    | ((with_reducible show(_∧_)∧_∧_);(refine eK ?_ ?_<;>with_reducible repeat' (first|exact trivial|(show _∧_;refine aK ?_ ?_))))));all_goals clear fct)
        all_goals first|rfl|trace_state
      | true=>
        rw[e1] at h1
        have h:=h76 (by rw[e1];simp)
        rw[dy ec]
        refine aj.aD (rvs:=[.tmp 8]) G au Tryz.func85 rfl Tryz.ntmps85 rfl rfl ?_;with_reducible refine wD ?_
        refine ae.lit [141] h2 Bp ⟨⟨rfl,rfl,trivial⟩,bY (l:=[n,p]) rfl rfl rfl rfl,trivial⟩ rfl rfl ?_;with_reducible refine wK ?_
        (have fct:=fc;(repeat' (first
    |refine gF ?_
    | ((first
      |((with_reducible show ae _ _ 71 _ _ _ _);refine ae.lit [231] h1 Bp ⟨⟨rfl,rfl,trivial⟩,bY (l:=[c]) rfl rfl rfl rfl,trivial⟩ rfl rfl ?_)
      |((with_reducible show ae _ _ 76 _ _ _ _);refine ae.lit [] h Ml ⟨⟨rfl,rfl,rfl,rfl,rfl,trivial⟩,rfl,trivial⟩ rfl rfl ?_))<;>with_reducible refine wK ?_)
    | ((with_reducible show(_∧_)∧_∧_);(refine eK ?_ ?_<;>with_reducible repeat' (first|exact trivial|(show _∧_;refine aK ?_ ?_))))));all_goals clear fct)
        all_goals first|rfl|trace_state
theorem pY {l l':List ai}{m n p c before:Int}{a b:Nat}{ka kb ka' kb':List Int}{told:List aQ}
    (h28:aj Tryz.prog 28 [] [aR ⟨l,m⟩,ah n,ah p,ah c] [] (ah before))
    (h75:aj Tryz.prog 75 [aP m l.length 4 (.own 3 0 0),aF ka,aF kb,aV [],aU l a 1 b 2] [.ptr 0 0 0,ah n,ah p,ah before]
      [aP m l.length 4 (.own 7 0 told.length),.dead,.dead,.dead,aU l' a 5 b 6,aF ka',aF kb',aV told] (.tup [])):
    aj Tryz.prog 74 [aP m l.length 4 (.own 3 0 0),aF ka,aF kb,aV [],aU l a 1 b 2] [.ptr 0 0 0,.fptr (ah n) 0,.fptr (ah p) 0,.fptr (aR ⟨l,m⟩) 0,.fptr (ah c) 0]
      [aP m l.length 4 (.own 7 0 told.length),.dead,.dead,.dead,aU l' a 5 b 6,aF ka',aF kb',aV told] eI:=by
  refine aj.eR [(5,151),(6,153),(7,163)] (rvs:=[.tmp 6]) G au Tryz.func74 rfl Tryz.ntmps74 rfl rfl ?_;with_reducible refine wD ?_
  repeat' (first
    |refine gK ?_
    | ((first
      |((with_reducible show ae _ _ 28 _ _ _ _);refine ae.lit [] h28 Ls ⟨⟨rfl,rfl,trivial⟩,rfl,rfl,rfl,trivial⟩ rfl rfl ?_)
      |((with_reducible show ae _ _ 75 _ _ _ _);refine ae.dx (news:=[aP m l.length 4 (.own 163 0 told.length),.dead,.dead,.dead,aU l' a 151 b 153,aF ka',aF kb',aV told]) [0,1,2,3,4,151,153,163] [] h75 ON ⟨⟨rfl,rfl⟩,rfl,rfl,rfl,trivial⟩ ⟨⟨rfl,.inr ⟨⟨⟨⟨rfl,rfl⟩,rfl,⟨rfl,rfl⟩,trivial⟩,trivial⟩,rfl⟩⟩,⟨rfl,.inl ⟨rfl,aa _⟩⟩,⟨rfl,.inl ⟨rfl,aa _⟩⟩,⟨rfl,.inl ⟨rfl,aq _⟩⟩,⟨rfl,bK (fun _=>rfl) (fun _=>rfl)⟩,trivial⟩ rfl ⟨⟨rfl,rfl⟩,rfl⟩ rfl ⟨⟨rfl,.inr ⟨rfl,rfl,rfl⟩⟩,⟨rfl,bF rfl rfl (by decide) (by decide)⟩,⟨rfl,.inl ⟨rfl,aa _⟩⟩,⟨rfl,.inl ⟨rfl,aa _⟩⟩,⟨rfl,.inl ⟨rfl,aq _⟩⟩,trivial⟩ rfl rfl ?_)
      |((with_reducible show aI _ _ _ _);refine dK ?_))<;>with_reducible refine wK ?_)
    |((with_reducible show(_∧_)∧_∧_);(refine eK ?_ ?_<;>with_reducible repeat' (first|exact trivial|(show _∧_;refine aK ?_ ?_)))))
  all_goals first
    |rfl
    |exact⟨.refl (aa _),aa _⟩
    |exact⟨.refl (aq _),aq _⟩
    |exact bB (fun _=>rfl) (fun _=>rfl)
    |trace_state
theorem oc (f:ForM)(hs:bC f.nodes){a b:Nat}{ya yb:ai}(hab:a≠b)(ha:f.nodes[a]? =some ya)(hb:f.nodes[b]? =some yb)(g:Nat)(cg:ak Tryz.prog g)(caps:List AV)(hcaps:bu caps=true)(l':List ai)(k1 k2:List Int)(told:List aQ)(hl:l'.length=f.nodes.length)
    (hka:∀y,l'[a]? =some y→y.kids=k1) (hkb:∀y,l'[b]? =some y→y.kids=k2)
    (hg:aj Tryz.prog g [aP f.most f.nodes.length 4 (.own 3 0 0),aF ya.kids,aF yb.kids,aV [],aU f.nodes a 1 b 2] (.ptr 0 0 0::caps)
      [aP f.most f.nodes.length 4 (.own 7 0 told.length),.dead,.dead,.dead,aU l' a 5 b 6,aF k1,aF k2,aV told] eI):
    aj Tryz.prog 56 [] [aR f,eI,.clo (.func g) [] caps] [] (.tup [aR ⟨l',f.most⟩,lQ told,ah 0]):=by
  have h121:=LD f hs hab ha hb
  have hlm:(l'.map bM).length=f.nodes.length:=by rw[bN,hl]
  obtain⟨l,m⟩:=f
  simp only at*
  refine aj.aD (rvs:=[.cell 6 24,.tmp 7,.tmp 8]) G au Tryz.func56 rfl Tryz.ntmps56 rfl rfl ?_;with_reducible refine wD ?_
  repeat' (first
    |refine gK ?_
    | ((first
      |((with_reducible show ae _ _ 121 _ _ _ _);refine ae.dx (news:=[aP m l.length 114 (.own 113 0 0),aF ya.kids,aF yb.kids,.live 9 [] false,aU l a 111 b 112]) [110,111,112,113,114] [] h121 CO ⟨⟨rfl,rfl,trivial⟩,trivial⟩ trivial rfl ⟨⟨rfl,rfl⟩,rfl⟩ rfl ⟨⟨rfl,.inr ⟨rfl,rfl,rfl⟩⟩,⟨rfl,.inl ⟨rfl,aa _⟩⟩,⟨rfl,.inl ⟨rfl,aa _⟩⟩,⟨rfl,.inl ⟨rfl,rfl⟩⟩,⟨rfl,bF rfl rfl (by decide) (by decide)⟩,trivial⟩ rfl rfl ?_)
      |((with_reducible show aZ _ _ _ _ _);first|refine aZ.lO true Tryz.underlying98 rfl rfl rfl rfl rfl ?_|refine aZ.lp false Tryz.underlying98 rfl rfl rfl rfl rfl ?_)
      |((with_reducible show ae _ _ _ _ _ _ _);refine ae.dx (news:=[aP m l.length 114 (.own 163 0 told.length),.dead,.dead,.dead,aU l' a 161 b 162,aF k1,aF k2,aV told]) [110,111,112,113,114,161,162,163] [] hg cg ⟨⟨rfl,rfl⟩,bS hcaps⟩ ⟨⟨rfl,.inr ⟨⟨⟨⟨rfl,rfl⟩,rfl,⟨rfl,rfl⟩,trivial⟩,trivial⟩,rfl⟩⟩,⟨rfl,.inl ⟨rfl,aa _⟩⟩,⟨rfl,.inl ⟨rfl,aa _⟩⟩,⟨rfl,.inl ⟨rfl,rfl⟩⟩,⟨rfl,bK (fun _=>rfl) (fun _=>rfl)⟩,trivial⟩ rfl ⟨⟨rfl,rfl⟩,rfl⟩ rfl ⟨⟨rfl,.inr ⟨rfl,rfl,rfl⟩⟩,⟨rfl,bF rfl rfl (by decide) (by decide)⟩,⟨rfl,.inl ⟨rfl,aa _⟩⟩,⟨rfl,.inl ⟨rfl,aa _⟩⟩,⟨rfl,.inl ⟨rfl,aq _⟩⟩,trivial⟩ rfl rfl ?_)
      |((with_reducible show aI _ _ _ _);refine dK ?_))<;>with_reducible refine wK ?_)
    |((with_reducible show(_∧_)∧_∧_);(refine eK ?_ ?_<;>with_reducible repeat' (first|exact trivial|(show _∧_;refine aK ?_ ?_)))))
  all_goals first
    |rfl
    |exact oT rfl rfl rfl (by simp) (aq _)
    |exact(by rw[←hl];exact uj (ra:=false) (rb:=false) (ea:=[]) (eb:=[]) rfl rfl (fun y hy=>by rw[List.append_nil,hka y hy];exact⟨rfl,rfl⟩) (fun y hy=>by rw[List.append_nil,hkb y hy];exact⟨rfl,rfl⟩))
    |trace_state
def zw:ByteArray:=⟨#[112,117,116]⟩
def tN (f:ForM)(n p c:Int):List AV:=[.fptr (ah n) 0,.fptr (ah p) 0,.fptr (aR f) 0,.fptr (ah c) 0]
theorem BT (f:ForM)(n p c:Int)(e:Int)(r:ForM)(ns:List aQ)(z:Int)(h30:aj Tryz.prog 30 [] [aR f,ah n,ah p,ah c] [] (ah e))(h60:aj Tryz.prog 60 [] [bX zw,ah e] [] (.lit (hO zw e)))
    (h56:aj Tryz.prog 56 [] [aR f,(.lit (hO zw e)),.clo (.func 74) [] (tN f n p c)] [] (.tup [aR r,lQ ns,ah z])):aj Tryz.prog 29 [] [aR f,ah n,ah p,ah c] [] (.tup [aR r,lQ ns,ah z]):=by
  unfold tN at h56
  obtain⟨l,m⟩:=f
  obtain⟨l',m'⟩:=r
  refine aj.aD (rvs:=[.cell 8 24,.tmp 9,.tmp 10]) G au Tryz.func29 rfl Tryz.ntmps29 rfl rfl ?_;with_reducible refine wD ?_
  repeat' (first
    |refine gK ?_
    | ((first
      |((with_reducible show ae _ _ 30 _ _ _ _);refine ae.lit [] h30 Fo ⟨⟨rfl,rfl,trivial⟩,rfl,rfl,rfl,trivial⟩ rfl rfl ?_)
      |((with_reducible show ae _ _ 60 _ _ _ _);refine ae.lit [] h60 F3 ⟨rfl,rfl,trivial⟩ rfl rfl ?_)
      |((with_reducible show ae _ _ 56 _ _ _ _);refine ae.val [50,60,40,70] h56 F1 ⟨⟨rfl,rfl,trivial⟩,⟨rfl,rfl⟩,⟨rfl,trivial,⟨_,_,_,_,_,rfl,rfl,rfl,rfl,rfl,rfl⟩,⟨_,_,_,_,_,rfl,rfl,rfl,rfl,rfl,rfl⟩,⟨_,_,_,_,_,rfl,rfl,rfl,rfl,rfl,⟨rfl,rfl,trivial⟩⟩,⟨_,_,_,_,_,rfl,rfl,rfl,rfl,rfl,rfl⟩,trivial⟩,trivial⟩ rfl rfl rfl ?_)
      |((with_reducible show aI _ _ _ _);refine dK ?_))<;>with_reducible refine wK ?_)
    |((with_reducible show(_∧_)∧_∧_);(refine eK ?_ ?_<;>with_reducible repeat' (first|exact trivial|(show _∧_;refine aK ?_ ?_)))))
  all_goals first|rfl|trace_state
theorem oZ (f:ForM)(n p c:Int)(r:ForM)(ns:List aQ)(z:Int)(h30:aj Tryz.prog 30 [] [aR f,ah n,ah p,ah c] [] (ah 0))(h60:aj Tryz.prog 60 [] [bX zw,ah 0] [] eI)
    (h56:aj Tryz.prog 56 [] [aR f,eI,.clo (.func 74) [] (tN f n p c)] [] (.tup [aR r,lQ ns,ah z])):aj Tryz.prog 29 [] [aR f,ah n,ah p,ah c] [] (.tup [aR r,lQ ns,ah z]):=by
  unfold tN at h56
  obtain⟨l,m⟩:=f
  obtain⟨l',m'⟩:=r
  refine aj.aD (rvs:=[.cell 8 24,.tmp 9,.tmp 10]) G au Tryz.func29 rfl Tryz.ntmps29 rfl rfl ?_;with_reducible refine wD ?_
  repeat' (first
    |refine gK ?_
    | ((first
      |((with_reducible show ae _ _ 30 _ _ _ _);refine ae.lit [] h30 Fo ⟨⟨rfl,rfl,trivial⟩,rfl,rfl,rfl,trivial⟩ rfl rfl ?_)
      |((with_reducible show ae _ _ 60 _ _ _ _);refine ae.lit [] h60 F3 ⟨rfl,rfl,trivial⟩ rfl rfl ?_)
      |((with_reducible show ae _ _ 56 _ _ _ _);refine ae.val [50,60,40,70] h56 F1 ⟨⟨rfl,rfl,trivial⟩,⟨rfl,rfl⟩,⟨rfl,trivial,⟨_,_,_,_,_,rfl,rfl,rfl,rfl,rfl,rfl⟩,⟨_,_,_,_,_,rfl,rfl,rfl,rfl,rfl,rfl⟩,⟨_,_,_,_,_,rfl,rfl,rfl,rfl,rfl,⟨rfl,rfl,trivial⟩⟩,⟨_,_,_,_,_,rfl,rfl,rfl,rfl,rfl,rfl⟩,trivial⟩,trivial⟩ rfl rfl rfl ?_)
      |((with_reducible show aI _ _ _ _);refine dK ?_))<;>with_reducible refine wK ?_)
    |((with_reducible show(_∧_)∧_∧_);(refine eK ?_ ?_<;>with_reducible repeat' (first|exact trivial|(show _∧_;refine aK ?_ ?_)))))
  all_goals first|rfl|trace_state
def qx:ByteArray:=⟨#[115,119,97,112]⟩
def kL (f:ForM)(n p c:Int):List AV:=[.fptr (aR f) 0,.fptr (ah c) 0,.fptr (ah n) 0,.fptr (ah p) 0]
theorem A3 (f:ForM)(n p c:Int)(e:Int)(r:ForM)(ns:List aQ)(z:Int)(h30:aj Tryz.prog 85 [] [aR f,ah n,ah p,ah c] [] (ah e))(h60:aj Tryz.prog 60 [] [bX qx,ah e] [] (.lit (hO qx e)))
    (h56:aj Tryz.prog 56 [] [aR f,(.lit (hO qx e)),.clo (.func 86) [] (kL f n p c)] [] (.tup [aR r,lQ ns,ah z])):aj Tryz.prog 36 [] [aR f,ah n,ah p,ah c] [] (.tup [aR r,lQ ns,ah z]):=by
  unfold kL at h56
  obtain⟨l,m⟩:=f
  obtain⟨l',m'⟩:=r
  refine aj.aD (rvs:=[.cell 8 24,.tmp 9,.tmp 10]) G au Tryz.func36 rfl Tryz.ntmps36 rfl rfl ?_;with_reducible refine wD ?_
  repeat' (first
    |refine gK ?_
    | ((first
      |((with_reducible show ae _ _ 85 _ _ _ _);refine ae.lit [] h30 PJ ⟨⟨rfl,rfl,trivial⟩,rfl,rfl,rfl,trivial⟩ rfl rfl ?_)
      |((with_reducible show ae _ _ 60 _ _ _ _);refine ae.lit [] h60 F3 ⟨rfl,rfl,trivial⟩ rfl rfl ?_)
      |((with_reducible show ae _ _ 56 _ _ _ _);refine ae.val [40,70,50,60] h56 F1 ⟨⟨rfl,rfl,trivial⟩,⟨rfl,rfl⟩,⟨rfl,trivial,⟨_,_,_,_,_,rfl,rfl,rfl,rfl,rfl,⟨rfl,rfl,trivial⟩⟩,⟨_,_,_,_,_,rfl,rfl,rfl,rfl,rfl,rfl⟩,⟨_,_,_,_,_,rfl,rfl,rfl,rfl,rfl,rfl⟩,⟨_,_,_,_,_,rfl,rfl,rfl,rfl,rfl,rfl⟩,trivial⟩,trivial⟩ rfl rfl rfl ?_)
      |((with_reducible show aI _ _ _ _);refine dK ?_))<;>with_reducible refine wK ?_)
    |((with_reducible show(_∧_)∧_∧_);(refine eK ?_ ?_<;>with_reducible repeat' (first|exact trivial|(show _∧_;refine aK ?_ ?_)))))
  all_goals first|rfl|trace_state
theorem nn (f:ForM)(n p c:Int)(r:ForM)(ns:List aQ)(z:Int)(h30:aj Tryz.prog 85 [] [aR f,ah n,ah p,ah c] [] (ah 0))(h60:aj Tryz.prog 60 [] [bX qx,ah 0] [] eI)
    (h56:aj Tryz.prog 56 [] [aR f,eI,.clo (.func 86) [] (kL f n p c)] [] (.tup [aR r,lQ ns,ah z])):aj Tryz.prog 36 [] [aR f,ah n,ah p,ah c] [] (.tup [aR r,lQ ns,ah z]):=by
  unfold kL at h56
  obtain⟨l,m⟩:=f
  obtain⟨l',m'⟩:=r
  refine aj.aD (rvs:=[.cell 8 24,.tmp 9,.tmp 10]) G au Tryz.func36 rfl Tryz.ntmps36 rfl rfl ?_;with_reducible refine wD ?_
  repeat' (first
    |refine gK ?_
    | ((first
      |((with_reducible show ae _ _ 85 _ _ _ _);refine ae.lit [] h30 PJ ⟨⟨rfl,rfl,trivial⟩,rfl,rfl,rfl,trivial⟩ rfl rfl ?_)
      |((with_reducible show ae _ _ 60 _ _ _ _);refine ae.lit [] h60 F3 ⟨rfl,rfl,trivial⟩ rfl rfl ?_)
      |((with_reducible show ae _ _ 56 _ _ _ _);refine ae.val [40,70,50,60] h56 F1 ⟨⟨rfl,rfl,trivial⟩,⟨rfl,rfl⟩,⟨rfl,trivial,⟨_,_,_,_,_,rfl,rfl,rfl,rfl,rfl,⟨rfl,rfl,trivial⟩⟩,⟨_,_,_,_,_,rfl,rfl,rfl,rfl,rfl,rfl⟩,⟨_,_,_,_,_,rfl,rfl,rfl,rfl,rfl,rfl⟩,⟨_,_,_,_,_,rfl,rfl,rfl,rfl,rfl,rfl⟩,trivial⟩,trivial⟩ rfl rfl rfl ?_)
      |((with_reducible show aI _ _ _ _);refine dK ?_))<;>with_reducible refine wK ?_)
    |((with_reducible show(_∧_)∧_∧_);(refine eK ?_ ?_<;>with_reducible repeat' (first|exact trivial|(show _∧_;refine aK ?_ ?_)))))
  all_goals first|rfl|trace_state
end Go.Proofs.Heir
namespace Go.Proofs
open Go.Shelf
def Tryz.BC:Go.Shelf.Ren:=⟨fun|21=>140|27=>189|28=>190|35=>214|39=>228|n=>n,fun|22=>33|3=>3|4=>4|0=>0|n=>n,fun|n=>n⟩
theorem Tryz.DZ:Go.Proofs.Lays2.n21 Tryz.prog Tryz.BC:={
  mixed:=by kernel_rfl
  f21:=Tryz.func140.trans (congrArg some (by kernel_rfl))
  f27:=Tryz.func189.trans (congrArg some (by kernel_rfl))
  f28:=Tryz.func190.trans (congrArg some (by kernel_rfl))
  f35:=Tryz.func214.trans (congrArg some (by kernel_rfl))
  f39:=Tryz.func228.trans (congrArg some (by kernel_rfl))
  t0:=Tryz.underlying0
  a0:=Tryz.isAgg0
  z0:=Tryz.sizeOf0
  v0:=Tryz.zeroValue0
  t3:=Tryz.underlying3
  a3:=Tryz.isAgg3
  z3:=Tryz.sizeOf3
  v3:=Tryz.zeroValue3
  t4:=Tryz.underlying4
  a4:=Tryz.isAgg4
  z4:=Tryz.sizeOf4
  v4:=Tryz.zeroValue4
  t22:=Tryz.underlying33
  a22:=Tryz.isAgg33
  z22:=Tryz.sizeOf33
  v22:=Tryz.zeroValue33
  i3:=by kernel_rfl}
end Go.Proofs
namespace Go.Proofs.Heir
open Go.Am Go.RowKit Go.Lib
set_option maxRecDepth 100000
set_option maxHeartbeats 8000000
theorem HR (b off cap n vb vo vc:Nat)(z:Int)(C:Array Value)(e:TypeId)(w:World)(hC:w.heap[b]? =some (.cells C e (0,0)))(hfit:off+cap≤C.size)(hn:n+1≤cap)(hx:w.cell? ⟨vb,vo,none⟩=some (.int .i64 z))(hn63:n≤100000):
    Calls Tryz.prog 140 #[.slice (some ⟨b,off,none⟩) n cap,.int .i64 n,.slice (some ⟨vb,vo,none⟩) 1 vc] w fun e' w'=>e'=.returned (.slice (some ⟨b,off,none⟩) (n+1) cap)∧w'=w.setCells b (off+n) [.int .i64 z]:=by
  obtain⟨old,hold⟩:∃v,w.cell? ⟨b,off+n,none⟩=some v:=by
    have:w.cell? ⟨b,off+n,none⟩=C[off+n]? :=by simp[World.cell?,hC]
    rw[this,Array.getElem?_eq_getElem (by omega)];exact⟨_,rfl⟩
  have hfz:w.frozen? ⟨b,off+n,none⟩=false:=by simp[World.frozen?,hC]
  have mixed:Tryz.prog.follows Departure.mixedOrders=true:=by kernel_rfl
  have hic:n≤cap:=by omega
  clear hC
  go_enter Tryz.func140,Tryz.ntmps140
  go_wp2
  all_goals (try go_ret)
  all_goals first|exact⟨rfl,rfl⟩|trace_state
theorem Cd (b off cap n i vb vo vc:Nat)(z:Int)(cs:List Value)(C:Array Value)(e:TypeId)(w:World)(hC:w.heap[b]? =some (.cells C e (0,0)))(hfit:off+cap≤C.size)(hn:n+1≤cap)(hi:i<n)(hx:w.cell? ⟨vb,vo,none⟩=some (.int .i64 z))(hn63:n≤100000)
    (hcl:cs.length=n) (hcs:∀j v,cs[j]? =some v→C[off+j]? =some v) (h1c:∀v∈cs,v.oneCell'=true) (hvb:vb≠b) (tA:TypeId) (kA:Nat) (hsa:w.shape? vb=some (tA,kA)) (hfa:w.frozen? ⟨vb,vo,none⟩=false) (hfe:w.frozen? ⟨vb,kA,none⟩=false):
    Calls Tryz.prog 140 #[.slice (some ⟨b,off,none⟩) n cap,.int .i64 i,.slice (some ⟨vb,vo,none⟩) 1 vc] w fun e' w'=>e'=.returned (.slice (some ⟨b,off,none⟩) (n+1) cap)∧w'=(w.drew.setCells b (off+ (i+1)) (cs.drop i)).setCells b (off+i) [.int .i64 z]:=by
  have hsb:w.shape? b=some (e,C.size):=by simp[World.shape?,hC]
  have hcell:∀q,w.cell? ⟨b,q,none⟩=C[q]? :=fun q=>by simp[World.cell?,hC]
  have hfz:∀q,w.frozen? ⟨b,q,none⟩=false:=fun q=>by simp[World.frozen?,hC]
  have hsp:∀j,j<n+1→(w.cell? ⟨b,off+j,none⟩).isSome=true:=fun j hj=>by rw[hcell,Array.getElem?_eq_getElem (by omega)];rfl
  have hsz:(Tryz.prog.info? 3).map (·.size)=some 1:=by kernel_rfl
  have hov:∀lb cb,(callFunc 189 #[.slice (some ⟨vb,vo,none⟩) 1 vc,.slice (some ⟨b,off+ (i+1),none⟩) lb cb]).run Tryz.prog w=.ok (.value (.bool false)) w:=fun lb cb=>by
    rw [run_callFunc_extern Tryz.func189 (by kernel_rfl) (by kernel_rfl) (by kernel_rfl) (e:=Extern.SlicesOverlaps.overlaps #[33,33] #[4]) (by kernel_rfl),
      Lib.run_overlaps_apart w 33 4 3 Tryz.underlying33 1 Tryz.sizeOf3 ⟨vb,vo,none⟩ ⟨b,off+ (i+1),none⟩ 1 vc lb cb hvb tA e kA C.size hsa hsb (by omega) hfa hfe]
    rfl
  have hdl:(cs.drop i).length=n-i:=by rw[List.length_drop,hcl]
  have hcp1:∀ty dc sc,(Builtin.copy_ #[33,33] ty #[.slice (some ⟨b,off+ (i+1),none⟩) (n-i) dc,.slice (some ⟨b,off+i,none⟩) (n+1-i) sc]).run Tryz.prog w.drew=.ok (goInt (cs.drop i).length) (w.drew.setCells b (off+ (i+1)) (cs.drop i)):=fun ty dc sc=>
    run_copy_cells w.drew _ _ ty 3 b (off+ (i+1)) (n-i) dc ⟨b,off+i,none⟩ (n+1-i) sc (cs.drop i) Tryz.underlying33 hsz (by rw[hdl];simp only[Nat.min_def];split<;>omega)
      (fun j v hj=>by rw[Addr.add_lit,Nat.add_assoc];show w.cell? _=_;rw[hcell];exact hcs (i+j) v (by rwa [List.getElem?_drop] at hj))
      (fun j hj=>by rw[Nat.add_assoc];exact hsp _ (by omega)) (fun j hj=>hfz _) (fun v hv=>h1c v (List.mem_of_mem_drop hv))
  obtain⟨W1,hW1⟩:∃W1,W1=w.drew.setCells b (off+ (i+1)) (cs.drop i):=⟨_,rfl⟩
  have hsp1:∀k,k<n+1→(W1.cell? ⟨b,off+k,none⟩).isSome=true:=fun k hk=>by
    rw[hW1]
    exact isSome_setCells b _ _ _ (fun j hj=>by rw[Nat.add_assoc];exact hsp _ (by omega)) _ (hsp k hk)
  have hcp2:∀ (W:World),(∀x,W.cell? x=W1.cell? x)→(∀x,W.frozen? x=W1.frozen? x)→∀ty dc,(Builtin.copy_ #[33,33] ty #[.slice (some ⟨b,off+i,none⟩) (n+1-i) dc,.slice (some ⟨vb,vo,none⟩) 1 vc]).run Tryz.prog W=.ok (goInt ([.int .i64 z]:List Value).length) (W.setCells b (off+i) [.int .i64 z]):=fun W hWc hWf ty dc=>
    run_copy_cells W _ _ ty 3 b (off+i) (n+1-i) dc ⟨vb,vo,none⟩ 1 vc [.int .i64 z] Tryz.underlying33 hsz (by show 1=_;simp only[Nat.min_def];split<;>omega)
      (fun j v hj=>by
        have hj0:j=0:=by have:=(bj hj).1;simp at this;exact this
        subst hj0
        cases hj
        rw[Addr.add_lit,hWc,hW1,World.cell?_setCells_out b _ _ _ _ (fun h _=>absurd h hvb)]
        exact hx)
      (fun j hj=>by rw[hWc,Nat.add_assoc];exact hsp1 _ (by simp at hj;omega)) (fun j hj=>by rw[hWf,hW1,World.frozen?_setCells];exact hfz _) (fun v hv=>by simp at hv;subst hv;rfl)
  rw[←hW1] at hcp1
  have mixed:Tryz.prog.follows Departure.mixedOrders=true:=by kernel_rfl
  have hic:n≤cap:=by omega
  have hib:i≤cap:=by omega
  have hin:i≤n:=by omega
  have hp1:(0:Int)≤ (i:Int)+1:=by omega
  have hw1:IntKind.i64.wrap ((i:Int)+1)=(i:Int)+1:=by rw[IntKind.wrap_i64];omega
  have hw2:IntKind.i64.wrap ((n:Int)+1)=(n:Int)+1:=by rw[IntKind.wrap_i64];omega
  have hz2:¬ ((i:Int)=(n:Int)):=by omega
  have htn:((i:Int)+1).toNat=i+1:=by omega
  have hb2:¬ (cap=i+1):=by omega
  have hb3:(i:Int)≤ (n:Int)+1:=by omega
  have hb4:¬ (cap=i):=by omega
  clear hC
  go_enter Tryz.func140,Tryz.ntmps140
  go_wp2_with (simp only[hov])
  go_region_law_o (refine step_copy_runI rfl (.tmp 73) (.tmp 76) 33 33 rfl _ _ (by simp[Act.eval,Act.put]) (by simp[Act.eval,Act.put]) (hcp1 _ _ _) ?_)
  go_wp2_with (at_builtin;refine wpList_copy_runI _ rfl _ _ 33 33 rfl _ _ rfl rfl (hcp2 _ (fun _=>rfl) (fun _=>rfl) _ _) ?_)
  go_ret
  exact⟨rfl,rfl⟩
end Go.Proofs.Heir
namespace Go.Proofs.Heir
open Go.Am Go.RowKit Go.Lib Go.Shelf
set_option maxRecDepth 100000
set_option maxHeartbeats 8000000
theorem Fu (b off n c i vb vo vc:Nat)(z:Int)(cs:List Value)(w:World)(hi:i<n)(hnc:n≤c)(hroom:c<n+1)(hn:n≤100000)(hcl:cs.length=n)(hcs:∀j v,cs[j]? =some v→w.cell? ⟨b,off+j,none⟩=some v)(hx:w.cell? ⟨vb,vo,none⟩=some (.int .i64 z))(h1c:∀v∈cs,v.oneCell'=true):
    Calls Tryz.prog 140 #[.slice (some ⟨b,off,none⟩) n c,.int .i64 i,.slice (some ⟨vb,vo,none⟩) 1 vc] w fun e w'=>
      e=.returned (.slice (some ⟨w.heap.size,0,none⟩) (n+1) (grownCap w (n+1) c 3))∧
      w'=(((w.alloc (.cells ((cs.take i).toArray++Builtin.zeroCells (Value.int .i64 0).cells (n+1-i)++Builtin.zeroCells (Value.int .i64 0).cells (grownCap w (n+1) c 3- (n+1))) 3)).drew.setCells w.heap.size i [.int .i64 z]).drew).setCells w.heap.size (i+1) (cs.drop i):=
  Any2.slices_Insert_int_grow Tryz.DZ b off n c i vb vo 1 vc cs [.int .i64 z] w hi (by decide) hnc hroom (by omega) hcl rfl hcs (fun j v hj=>by
    cases j with
    |zero=>cases hj;exact hx
    |succ j=>simp at hj) h1c (fun v hv=>by simp at hv;subst hv;rfl)
theorem qE (base:Option Addr)(n c vb vo vc:Nat)(z:Int)(cs:List Value)(w:World)(hnc:n≤c)(hroom:c<n+1)(hn:n≤100000)(hcl:cs.length=n)(hnil:base=none→n=0)(hcs:∀a,base=some a→∀j v,cs[j]? =some v→w.cell? (a.add j)=some v)(hx:w.cell? ⟨vb,vo,none⟩=some (.int .i64 z)):
    Calls Tryz.prog 140 #[.slice base n c,.int .i64 n,.slice (some ⟨vb,vo,none⟩) 1 vc] w fun e w'=>
      e=.returned (.slice (some ⟨w.heap.size,0,none⟩) (n+1) (grownCap w (n+1) c 3))∧
      w'=w.drew.alloc (.cells ((cs++ [Value.int .i64 z]).toArray++Builtin.zeroCells (Value.int .i64 0).cells (grownCap w (n+1) c 3- (n+1))) 3):=
  Any2.slices_Insert_int_end_grow Tryz.DZ base n c vb vo 1 vc cs [.int .i64 z] w (by decide) hnc hroom (by omega) hcl rfl hnil hcs (fun j v hj=>by
    cases j with
    |zero=>cases hj;exact hx
    |succ j=>simp at hj) (fun v hv=>by simp at hv;subst hv;rfl)
end Go.Proofs.Heir
namespace Go.Proofs.Heir
open Go.Am Go.RowKit Go.Lib
set_option maxRecDepth 100000
set_option maxHeartbeats 8000000
theorem zA (w:World)(C C':Array Value)(e:TypeId):(w.alloc (.cells C e)).setRow w.heap.size C'=w.alloc (.cells C' e):=by
  unfold World.setRow World.alloc
  congr 1
  apply Array.ext_getElem?
  intro k
  simp only[Array.getElem?_modify,Array.getElem?_push]
  by_cases h:w.heap.size=k
  ·subst h;simp
  · have:¬k=w.heap.size:=fun q=>h q.symm
    simp[h,this]
theorem nF (w:World)(C:Array Value)(e:TypeId)(vs:List Value)(o:Nat)(h:o+vs.length≤C.size):
    ∃C',(w.alloc (.cells C e)).setCells w.heap.size o vs=w.alloc (.cells C' e)∧C'.size=C.size∧∀q,C'[q]? =if o≤q∧q<o+vs.length then vs[q-o]? else C[q]? :=by
  have hb:(w.alloc (.cells C e)).heap[w.heap.size]? =some (.cells C e (0,0)):=by
    show(w.heap.push _)[w.heap.size]? =_
    simp
  obtain⟨C',h1,h2,h3⟩:=fQ w.heap.size e (0,0) vs o C (w.alloc (.cells C e)) hb h
  exact⟨C',by rw[h1,zA],h2,h3⟩
end Go.Proofs.Heir
namespace Go.Proofs.Heir
open Go.Am Go.RowKit Go.Lib
set_option maxRecDepth 100000
set_option maxHeartbeats 8000000
set_option maxHeartbeats 4000000
theorem qC {α:Type}(A B:List α)(x:α)(q:Nat):(A++ [x]++B)[q]? =if q<A.length then A[q]? else if q=A.length then some x else B[q- (A.length+1)]? :=by
  rw[List.append_assoc,List.getElem?_append]
  split
  ·rfl
  · rename_i h
    by_cases hq:q=A.length
    ·subst hq;simp
    ·rw[if_neg hq,show[x]++B=x::B from rfl,show q-A.length=(q- (A.length+1))+1 from by omega,List.getElem?_cons_succ]
theorem mQ (v:Value)(n:Nat)(hv:v.cells= #[v]):(Builtin.zeroCells v.cells n).size=n:=by simp[Builtin.zeroCells,hv]
theorem vr (l:List Value)(Z:Array Value){q:Nat}(h:q<l.length):(l.toArray++Z)[q]? =l[q]? :=by
  rw[Array.getElem?_append,if_pos (by simpa using h)];simp
theorem vw (w:World)(c:Obj):(w.alloc c).drew=w.drew.alloc c:=rfl
theorem pW {rows:List AV}(hone:jP (flat rows)=true)(i:Nat)(x:Int)(hi:i≤rows.length)(hmany:rows.length≤100000):
    aj Tryz.prog 140 [.live 1 rows false,.live 1 [ah x] false] [.own 0 0 rows.length,ah i,.own 1 0 1] [.dead,.live 1 [ah x] false,.live 1 (rows.take i++ [ah x]++rows.drop i) false] (.own 2 0 (rows.length+1)):=by
  intro w W0 L vs hL hs hr
  obtain⟨v0,v1,v2,rfl⟩:∃v0 v1 v2,vs=[v0,v1,v2]:=by
    have:=hr.1
    match vs,this with
    |[a,b,c],_=>exact⟨a,b,c,rfl⟩
  have h1:=hr.2 1 _ v1 rfl rfl
  cases h1
  have h2:=hr.2 2 _ v2 rfl rfl
  have h0:=hr.2 0 _ v0 rfl rfl
  obtain⟨B,hB,hobj⟩:=hs.objs 0 1 rows false rfl
  obtain⟨B1,hB1,hobj1⟩:=hs.objs 1 1 [ah x] false rfl
  have hwd:=hobj.width
  have hwd1:=hobj1.width
  have hfl:=cQ hobj.wide
  have hwide:bJ 1 (rows.take i++ [ah x]++rows.drop i):=((hobj.wide.sub fun r hr=>List.mem_of_mem_take hr).append hobj1.wide).append (hobj.wide.sub fun r hr=>List.mem_of_mem_drop hr)
  have hlen:(rows.take i++ [ah x]++rows.drop i).length=rows.length+1:=by simp;omega
  have hfr:flat (rows.take i++ [ah x]++rows.drop i)=(flat rows).take i++ [ah x]++ (flat rows).drop i:=by
    rw[gZ,gZ,lB hobj.wide,k8 hobj.wide];simp[flat,Am.cells]
  cases h2 with
  | @own _ _ _ vc e1 n1 B1' b1 bv bp b2 b3 b4=>
  rw[hB1] at b1;cases b1
  obtain⟨D,e2,fz2,d1,d2,d3⟩:=hobj1.blk bv bp
  rw[d2 rfl] at d1
  rw[hwd1,Nat.zero_mul,Nat.add_zero]
  obtain⟨vx,k1,k2⟩:=hobj1.cell bp 0 (ah x) rfl
  cases k2
  have hx:w.cell? ⟨B1.b,B1.o,none⟩=some (.int .i64 x):=by simpa using k1
  have hfin:∀ (w1:World) (bn on cap:Nat) (sz:Nat) (e:TypeId),rows.length+1≤cap→w1.shape? bn=some (e,sz)→on+cap≤sz→
      cD (Wr W0 (bz L 2 ⟨bn,on,1,false,false⟩) (aH [.dead,.live 1 [ah x] false,.live 1 (rows.take i++ [ah x]++rows.drop i) false])) (bz L 2 ⟨bn,on,1,false,false⟩) w1 (.own 2 0 (rows.length+1)) (.slice (some ⟨bn,on,none⟩) (rows.length+1) cap):=by
    intro w1 bn on cap sz e h1 h2 h3
    have :=cD.own (W:=Wr W0 (bz L 2 ⟨bn,on,1,false,false⟩) (aH [.dead,.live 1 [ah x] false,.live 1 (rows.take i++ [ah x]++rows.drop i) false])) (μ:=bz L 2 ⟨bn,on,1,false,false⟩)
        (w:=w1) (t:=2) (off:=0) (len:=rows.length+1) (cap:=cap) (e:=e) (n:=sz) (B:=⟨bn,on,1,false,false⟩) (by simp[bz]) rfl rfl h1 h2 (by simp only[Nat.zero_add];omega)
    simpa using this
  have hgrown:∀ (k:Nat) (C2:Array Value) (cap:Nat),rows.length+1≤cap→C2.size=cap→
      (∀ (q:Nat) (c:AV),(flat (rows.take i++ [ah x]++rows.drop i))[q]? =some c→∃v,C2[q]? =some v∧cD (Wr W0 L (aH [.live 1 rows false,.live 1 [ah x] false])) L w c v)→
      ∃ μ',cz Tryz.prog 0 w W0 L μ' (bare [.dead,.live 1 [ah x] false,.live 1 (rows.take i++ [ah x]++rows.drop i) false]) iA (({w with drawn:=k}:World).alloc (.cells C2 3))∧
        cD (Wr W0 μ' (aH [.dead,.live 1 [ah x] false,.live 1 (rows.take i++ [ah x]++rows.drop i) false])) μ' (({w with drawn:=k}:World).alloc (.cells C2 3)) (.own 2 0 (rows.length+1)) (.slice (some ⟨w.heap.size,0,none⟩) (rows.length+1) cap):=by
    intro k C2 cap hcap hC2 hcell
    have hal:=(hs.drawn k).alloc (t:=2) (wd:=1) (rows:=rows.take i++ [ah x]++rows.drop i) (C:=C2) (e:=3) rfl hwide (by rw[hlen];omega) (fun q c hc=>by
      obtain⟨v,j1,j2⟩:=hcell q c hc
      exact⟨v,j1,j2.grow (Grow.drawn k)⟩)
    have hdr:=hal.drop (m':=aH [.dead,.live 1 [ah x] false,.live 1 (rows.take i++ [ah x]++rows.drop i) false]) (fun t=>by
      match t with
      |0=>exact .inr (.inl ⟨rfl,by simp[br,bare,aH]⟩)
      |1=>exact .inl rfl
      |2=>exact .inl rfl
      |t+3=>exact .inl (by simp[br,bare,aH]))
    exact⟨_,hdr,hfin _ _ _ _ cap 3 hcap (by simp[World.shape?,World.alloc,hC2]) (by omega)⟩
  generalize hn:rows.length=n at h0 hi hmany hlen hfin hgrown hfl
  cases h0 with
  | @ownNil _ _ a B' a1=>
    have hr0:rows=[]:=List.length_eq_zero_iff.1 hn
    have hi0:i=0:=by omega
    subst hi0
    have hge:=grownCap_ge w (0+1) 0 3
    have hf:=qE a 0 0 B1.b B1.o vc x [] w (Nat.le_refl _) (by omega) (by omega) rfl (fun _=>rfl) (fun _ _ j v hj=>by simp at hj) hx
    obtain⟨g,hg⟩:∃g,grownCap w (0+1) 0 3=g:=⟨_,rfl⟩
    rw[hg] at hf hge
    refine hf.mono ?_
    rintro e' w' ⟨rfl,rfl⟩
    obtain⟨μ',g1,g2⟩:=hgrown (w.drawn+1) (([]++ [Value.int .i64 x]).toArray++Builtin.zeroCells (Value.int .i64 0).cells (g- (0+1))) g hge (by
        rw[Array.size_append,mQ _ _ rfl];simp;omega) (fun q c hc=>by
        rw[hfr,hr0] at hc
        simp only[flat,List.flatMap_nil,List.take_nil,List.drop_nil,List.nil_append,List.append_nil] at hc
        have hq:q=0:=by have:=(bj hc).1;simp at this;exact this
        subst hq
        cases hc
        exact⟨.int .i64 x,by rw[vr _ _ (by simp)];rfl,.lit⟩)
    exact⟨_,μ',rfl,g1,g2⟩
  | @own _ _ _ cap e' n' B' a1 av ap a2 a3 a4=>
    rw[hB] at a1;cases a1
    obtain⟨C,e,fz,c1,c2,c3⟩:=hobj.blk av ap
    rw[c2 rfl] at c1
    have hn':C.size=n':=by simp[World.shape?,c1] at a3;exact a3.2
    rw[hwd,Nat.zero_mul,Nat.add_zero]
    rw[hwd,Nat.zero_add] at a4
    have hcell:∀ (q:Nat) (c:AV),(flat rows)[q]? =some c→∃v,C[B.o+q]? =some v∧cD (Wr W0 L (aH [.live 1 rows false,.live 1 [ah x] false])) L w c v:=fun q c hq=>by
      obtain⟨v,k1,k2⟩:=hobj.cell ap q c hq
      exact⟨v,by simpa[World.cell?,c1] using k1,k2⟩
    have hne:B1.b≠B.b:=fun h=>hs.inj 1 0 1 [ah x] 1 rows false B1 B (by decide) rfl rfl hB1 hB bv av h
    obtain⟨cs,hcs⟩:∃cs,cs=(C.toList.drop B.o).take n:=⟨_,rfl⟩
    have hcl:cs.length=n:=by rw[hcs];simp;omega
    have hcg:∀j,j<n→cs[j]? =C[B.o+j]? :=fun j hj=>by rw[hcs,List.getElem?_take,if_pos hj,List.getElem?_drop,Array.getElem?_toList]
    have hcr:∀ (q:Nat) (c:AV),(flat rows)[q]? =some c→∃v,cs[q]? =some v∧cD (Wr W0 L (aH [.live 1 rows false,.live 1 [ah x] false])) L w c v:=fun q c hq=>by
      obtain⟨v,k1,k2⟩:=hcell q c hq
      have:=(bj hq).1
      exact⟨v,by rw[hcg q (by omega)];exact k1,k2⟩
    have h1c:∀v∈cs,v.oneCell'=true:=fun v hv=>by
      obtain⟨j,hj⟩:=List.getElem?_of_mem hv
      have hjl:j<n:=by have:=(bj hj).1;omega
      obtain⟨v',k1,k2⟩:=hcr j _ (bA (by omega))
      rw[hj] at k1;cases k1
      exact k2.one (List.all_eq_true.1 hone _ (List.getElem_mem _))
    -- what the new list holds
    have hall:∀ (q:Nat) (c:AV),(flat (rows.take i++ [ah x]++rows.drop i))[q]? =some c→∃v,(cs.take i++ [Value.int .i64 x]++cs.drop i)[q]? =some v∧cD (Wr W0 L (aH [.live 1 rows false,.live 1 [ah x] false])) L w c v:=fun q c hc=>by
      rw[hfr,qC,gE,hfl,Nat.min_eq_left (by omega)] at hc
      rw[qC,gE,hcl,Nat.min_eq_left (by omega)]
      split at hc
      · rename_i hq
        rw[if_pos hq,List.getElem?_take,if_pos hq]
        rw[List.getElem?_take,if_pos hq] at hc
        exact hcr q c hc
      · rename_i hq
        rw[if_neg hq]
        split at hc
        · rename_i hq2
          cases hc
          exact⟨_,by rw[if_pos hq2],.lit⟩
        · rename_i hq2
          rw[if_neg hq2]
          rw[List.getElem?_drop] at hc ⊢
          exact hcr _ c hc
    have hst:(⟨(bare [.live 1 rows false,.live 1 [ah x] false]).slots,br (bare [.live 1 rows false,.live 1 [ah x] false]).mem [(2,.live 1 (rows.take i++ [ah x]++rows.drop i) false),(0,.dead)]⟩:aA)=bare [.dead,.live 1 [ah x] false,.live 1 (rows.take i++ [ah x]++rows.drop i) false]:=by
      unfold bare
      congr 1
      funext t
      match t with
      |0=>rfl
      |1=>rfl
      |2=>rfl
      |t+3=>simp[br,aH]
    have hplace:∀ (k:Nat) (C2:Array Value),n+1≤cap→C2.size=C.size→(∀q,q<n+1→C2[B.o+q]? =(cs.take i++ [Value.int .i64 x]++cs.drop i)[q]?)→
        ∃μ',cz Tryz.prog 0 w W0 L μ' (bare [.dead,.live 1 [ah x] false,.live 1 (rows.take i++ [ah x]++rows.drop i) false]) iA (({w with drawn:=k}:World).setRow B.b C2)∧
        cD (Wr W0 μ' (aH [.dead,.live 1 [ah x] false,.live 1 (rows.take i++ [ah x]++rows.drop i) false])) μ' (({w with drawn:=k}:World).setRow B.b C2) (.own 2 0 (n+1)) (.slice (some ⟨B.b,B.o,none⟩) (n+1) cap):=by
      intro k C2 hroom hsz hq
      have hre:=(hs.drawn k).reuse (t:=0) (tn:=2) (off:=0) (rows':=rows.take i++ [ah x]++rows.drop i) (C':=C2) rfl hB av rfl c1 hsz hwide (by rw[hlen];omega) (fun q c hc=>by
        obtain⟨v,k1,k2⟩:=hall q c hc
        have hl:q<n+1:=by have:=(bj hc).1;rw[cQ hwide,hlen] at this;omega
        refine⟨v,?_,k2.grow (Grow.drawn k)⟩
        rw[Nat.zero_mul,Nat.add_zero,hq q hl];exact k1)
      rw[hst] at hre
      simp only[Nat.zero_mul,Nat.add_zero] at hre
      exact⟨_,hre,hfin _ _ _ cap C.size e hroom (by simp[World.shape?,setRow_heap ({w with drawn:=k}:World) B.b C C2 e (0,0) c1,hsz]) (by omega)⟩
    by_cases hin:i=n
    · subst hin
      have hlist:cs.take i++ [Value.int .i64 x]++cs.drop i=cs++ [Value.int .i64 x]:=by rw[sn (by omega),List.drop_eq_nil_of_le (by omega),List.append_nil]
      by_cases hroom:i+1≤cap
      · refine(HR B.b B.o cap i B1.b B1.o vc x C e w c1 (by omega) hroom hx hmany).mono ?_
        rintro e2 w' ⟨rfl,rfl⟩
        obtain⟨C2,s1,s2,s3⟩:=fQ B.b e (0,0) [Value.int .i64 x] (B.o+i) C w c1 (by simp;omega)
        obtain⟨μ',g1,g2⟩:=hplace w.drawn C2 hroom s2 (fun q hq=>by
          rw[s3,hlist,List.getElem?_append,hcl]
          by_cases h:q<i
          ·rw[if_neg (by omega),if_pos h,hcg q h]
          ·rw[if_pos (by simp;omega),if_neg h];congr 1;omega)
        rw[s1]
        exact⟨_,μ',rfl,g1,g2⟩
      · have hge:=grownCap_ge w (i+1) cap 3
        have hf:=qE (some ⟨B.b,B.o,none⟩) i cap B1.b B1.o vc x cs w a2 (by omega) hmany hcl (fun h=>by cases h) (fun a ha j v hj=>by
          cases ha
          have hjl:j<i:=by have:=(bj hj).1;omega
          rw[hcg j hjl] at hj
          rw[Addr.add_lit];simpa[World.cell?,c1] using hj) hx
        obtain⟨g,hg⟩:∃g,grownCap w (i+1) cap 3=g:=⟨_,rfl⟩
        rw[hg] at hf hge
        refine hf.mono ?_
        rintro e2 w' ⟨rfl,rfl⟩
        obtain⟨μ',g1,g2⟩:=hgrown (w.drawn+1) ((cs++ [Value.int .i64 x]).toArray++Builtin.zeroCells (Value.int .i64 0).cells (g- (i+1))) g hge (by
            rw[Array.size_append,mQ _ _ rfl];simp[hcl];omega) (fun q c hc=>by
            obtain⟨v,k1,k2⟩:=hall q c hc
            refine⟨v,?_,k2⟩
            rw[hlist] at k1
            have hl:=(bj k1).1
            rw[vr _ _ hl]
            exact k1)
        exact⟨_,μ',rfl,g1,g2⟩
    · have hlt :i<n:=by omega
      have hcd:(cs.drop i).length=n-i:=by rw[List.length_drop,hcl]
      by_cases hroom:n+1≤cap
      · refine (Cd B.b B.o cap n i B1.b B1.o vc x cs C e w c1 (by omega) hroom hlt hx hmany hcl (fun j v hj=>by
            have hjl:j<n:=by have:=(bj hj).1;omega
            rw[hcg j hjl] at hj;exact hj) h1c hne e2 D.size (by simp[World.shape?,d1]) (by simp[World.frozen?,d1]) (by simp[World.frozen?,d1])).mono ?_
        rintro e3 w' ⟨rfl,rfl⟩
        obtain⟨C1,s1,s2,s3⟩:=fQ B.b e (0,0) (cs.drop i) (B.o+ (i+1)) C w.drew c1 (by rw[hcd];omega)
        obtain⟨C2,t1,t2,t3⟩:=fQ B.b e (0,0) [Value.int .i64 x] (B.o+i) C1 (w.drew.setRow B.b C1) (setRow_heap w.drew B.b C C1 e (0,0) c1) (by simp;omega)
        obtain ⟨μ',g1,g2⟩:=hplace (w.drawn+1) C2 hroom (by rw[t2,s2]) (fun q hq=>by
          rw[t3,qC,gE,hcl,Nat.min_eq_left (by omega)]
          by_cases h:q<i
          ·rw[if_neg (by omega),if_pos h,s3,if_neg (by omega),List.getElem?_take,if_pos h,hcg q (by omega)]
          · rw [if_neg h]
            by_cases h2:q=i
            ·rw[if_pos (by simp;omega),if_pos h2];subst h2;simp
            · rw[if_neg (by simp;omega),if_neg h2,s3,if_pos (by rw[hcd];omega)]
              congr 1;omega)
        rw[s1,t1,setRow_setRow]
        exact⟨_,μ',rfl,g1,g2⟩
      · have hge:=grownCap_ge w (n+1) cap 3
        obtain⟨g,hg⟩:∃g,grownCap w (n+1) cap 3=g:=⟨_,rfl⟩
        have hf:=Fu B.b B.o n cap i B1.b B1.o vc x cs w hlt a2 (by omega) hmany hcl (fun j v hj=>by
            have hjl:j<n:=by have:=(bj hj).1;omega
            rw[hcg j hjl] at hj
            simpa[World.cell?,c1] using hj) hx h1c
        rw[hg] at hf hge
        refine hf.mono ?_
        rintro e3 w' ⟨rfl,rfl⟩
        obtain⟨A,hA⟩:∃A,A=(cs.take i).toArray++Builtin.zeroCells (Value.int .i64 0).cells (n+1-i)++Builtin.zeroCells (Value.int .i64 0).cells (g- (n+1)):=⟨_,rfl⟩
        have hAs:A.size=g:=by rw[hA,Array.size_append,Array.size_append,mQ _ _ rfl,mQ _ _ rfl];simp[hcl];omega
        rw[←hA,vw]
        obtain⟨C1,s1,s2,s3⟩:=nF w.drew A 3 [Value.int .i64 x] i (by simp;omega)
        have s1':(w.drew.alloc (.cells A 3)).setCells w.heap.size i [Value.int .i64 x]=w.drew.alloc (.cells C1 3):=s1
        rw[s1',vw]
        obtain⟨C2,t1,t2,t3⟩:=nF w.drew.drew C1 3 (cs.drop i) (i+1) (by rw[hcd];omega)
        have t1':(w.drew.drew.alloc (.cells C1 3)).setCells w.heap.size (i+1) (cs.drop i)=w.drew.drew.alloc (.cells C2 3):=t1
        rw[t1']
        obtain ⟨μ',g1,g2⟩:=hgrown (w.drawn+1+1) C2 g hge (by rw[t2,s2,hAs]) (fun q c hc=>by
            obtain⟨v,k1,k2⟩:=hall q c hc
            refine⟨v,?_,k2⟩
            rw[←k1]
            have hl:q<n+1:=by have:=(bj hc).1;rw[cQ hwide,hlen] at this;omega
            rw[t3,qC,gE,hcl,Nat.min_eq_left (by omega)]
            by_cases h:q<i
            ·rw[if_neg (by omega),if_pos h,s3,if_neg (by omega),hA,Array.append_assoc,vr _ _ (by rw[gE,hcl];omega)]
            · rw[if_neg h]
              by_cases h2:q=i
              ·rw[if_neg (by omega),if_pos h2,s3,if_pos (by simp;omega)];subst h2;simp
              ·rw[if_pos (by rw[hcd];omega),if_neg h2])
        exact⟨_,μ',rfl,g1,g2⟩
end Go.Proofs.Heir
namespace Go.Proofs.Heir
open Go Go.Am Go.RowKit Go.Lib
set_option maxRecDepth 100000
set_option maxHeartbeats 8000000
@[reducible] def AS (y : ai) (q : AV) : AV := .agg [ah y.kind, bX y.name, bX y.is, bX y.data, cV y.attrs, ah y.parent, q, ah y.host, ah y.under, ah y.doc]
theorem iL (a ta b tb i:Nat)(y:ai):∃q,∀y':ai,y'.kids=y.kids→ef a ta b tb i y'=AS y' q:=by
  by_cases h:i=a
  ·exact⟨.own ta 0 y.kids.length,fun y' e=>by unfold ef;rw[if_pos h,←e];rfl⟩
  · by_cases c:i=b
    ·exact⟨.own tb 0 y.kids.length,fun y' e=>by unfold ef;rw[if_neg h,if_pos c,←e];rfl⟩
    ·exact⟨cq y.kids,fun y' e=>by unfold ef;rw[if_neg h,if_neg c,←e];rfl⟩
def jt (d:Int)(l:List ai)(k:Nat):List ai:=match l[k]? with
  |some y=>l.set k {y with doc:=d}
  |none=>l
theorem Bo (d:Int)(l:List ai)(k:Nat):(jt d l k).length=l.length:=by
  unfold jt
  split
  ·exact List.length_set ..
  ·rfl
theorem rD (d:Int):∀ (ks:List Nat) (l:List ai),(ks.foldl (jt d) l).length=l.length
  |[],_=>rfl
  |k::r,l=>(rD d r (jt d l k)).trans (Bo d l k)
theorem FJ (d:Int)(l:List ai)(k i:Nat)(y:ai)(h:(jt d l k)[i]? =some y):∃z,l[i]? =some z∧z.kids=y.kids:=by
  unfold jt at h
  split at h
  · rename_i z hz
    rw[List.getElem?_set] at h
    split at h
    · rename_i e
      subst e
      split at h
      ·cases h;exact⟨z,hz,rfl⟩
      ·cases h
    ·exact⟨y,h,rfl⟩
  ·exact⟨y,h,rfl⟩
theorem qa (d:Int):∀ (ks:List Nat) (l:List ai) (i:Nat) (y:ai),(ks.foldl (jt d) l)[i]? =some y→∃z,l[i]? =some z∧z.kids=y.kids
  |[],_,_,y,h=>⟨y,h,rfl⟩
  | k::r,l,i,y,h=>by
    obtain⟨z,h1,h2⟩:=qa d r (jt d l k) i y h
    obtain⟨z2,h3,h4⟩:=FJ d l k i z h1
    exact⟨z2,h3,h4.trans h2⟩
def DU (l:List Nat):List Int:=l.map Int.ofNat
theorem Kw {l:List Nat}{j k:Nat}(h:l[j]? =some k):((DU l).map bt)[j]? =some (ah (k:Int)):=by
  unfold DU
  rw[fI,fI,h];rfl
theorem JD (l:List Nat):(DU l).length=l.length:=bN ..
@[reducible] def yO (was d : Int) : aQ := ⟨3, 0, was, d, ByteArray.empty, false, false, ByteArray.empty, ByteArray.empty⟩
theorem Mj {l l1 l2:List ai}{m d:Int}{a b n:Nat}{ka kb k1 es ex:List Int}{all:List Nat}{ns n1:List aQ}{y:ai}(hl1:l1.length=l.length)(hy:l1[n]? =some y)(hd:y.doc≠d)(hall:∀k∈all,k<l1.length)(hal:all.length≤1000)(hl2:l2=all.foldl (jt d) l1)(hk1:∀y,l1[a]? =some y→y.kids=k1)(hkb:∀y,l1[b]? =some y→y.kids=kb)(he:es.length≤1000)(hn:n1.length≤100000)
    (h161:aj Tryz.prog 79 [aP m l.length 4 (.own 3 0 ns.length),aF ka,aF kb,aV ns,aU l a 1 b 2] [.ptr 0 0 0,ah n] [aP m l.length 4 (.own 6 0 n1.length),.dead,aF kb,.dead,aU l1 a 5 b 2,aF k1,aV n1] (.tup []))
    (h104:aj Tryz.prog 82 [] [aR ⟨l1,m⟩,ah n] [aF (DU all)] (.own 0 0 (DU all).length))
    (h191:aj Tryz.prog 34 [] [aR ⟨l2,m⟩,ah n] [aF (es++ex)] (.own 0 0 es.length)):
    aj Tryz.prog 139 [aP m l.length 4 (.own 3 0 ns.length),aF ka,aF kb,aV ns,aU l a 1 b 2] [.ptr 0 0 0,ah n,ah d]
      [aP m l.length 4 (.own 6 0 (n1.length+es.length)),.dead,aF kb,.dead,aU l2 a 5 b 2,aF k1,aV (n1++es.map (di (yO y.doc d)))] (.tup []):=by
  have hnl:=(bj hy).1
  have hl2l:l2.length=l.length:=by rw[hl2,rD,hl1]
  have t104:=nQ (m:=m) (ex:=[]) (rest:=[ah n]) hk1 hkb (by rw[List.append_nil];exact h104) rfl
  rw[List.append_nil] at t104
  have t164:=rG (m:=m) (n:=n) (ns:=n1) (x:=yO y.doc d) (fun z hz=>by rw[hl2] at hz;obtain⟨w,h1,h2⟩:=qa d _ _ _ _ hz;rw[←h2];exact hk1 w h1) (fun z hz=>by rw[hl2] at hz;obtain⟨w,h1,h2⟩:=qa d _ _ _ _ hz;rw[←h2];exact hkb w h1) he hn h191
  rw[hl1] at t104
  rw[hl2l] at t164
  obtain⟨q,hq⟩:=iL a 151 b 2 n y
  have g1:(aT l1 a 151 b 2)[n]? =some (AS y q):=by rw[cT hy,hq y rfl]
  have hlr:∀x:List ai,(aT x a 151 b 2).length=x.length:=fun x=>bU
  have hmem:∀ (j:Nat) (k:Nat),all[j]? =some k→k<l1.length:=fun j k h=>hall k (bV h)
  generalize hy0:y.doc=w0 at hd
  obtain⟨y1,y2,y3,y4,y5,y6,y7,y8,y9,y10⟩:=y
  dsimp only at g1 hy0 t164
  subst hy0
  refine aj.eR [(5,151)] (rvs:=[]) G au Tryz.func139 rfl Tryz.ntmps139 rfl rfl ?_;with_reducible refine wD ?_
  (have fct:=hd;(repeat' (first
    |refine gF ?_
    | ((first
      |((with_reducible show ae _ _ 79 _ _ _ _);refine ae.dx (news:=[aP m l.length 4 (.own 163 0 n1.length),.dead,aF kb,.dead,aU l1 a 151 b 2,aF k1,aV n1]) [0,1,2,3,4,151,163] [] h161 Nb ⟨⟨rfl,rfl⟩,rfl,trivial⟩ ⟨⟨rfl,.inr ⟨⟨⟨⟨rfl,rfl⟩,rfl,⟨rfl,rfl⟩,trivial⟩,trivial⟩,rfl⟩⟩,⟨rfl,.inl ⟨rfl,aa _⟩⟩,⟨rfl,.inl ⟨rfl,aa _⟩⟩,⟨rfl,.inl ⟨rfl,aq _⟩⟩,⟨rfl,bK (fun _=>rfl) (fun _=>rfl)⟩,trivial⟩ rfl ⟨⟨rfl,rfl⟩,rfl⟩ rfl ⟨⟨rfl,.inr ⟨rfl,rfl,rfl⟩⟩,⟨rfl,.inl ⟨rfl,aa _⟩⟩,⟨rfl,bF rfl rfl (by decide) (by decide)⟩,⟨rfl,.inl ⟨rfl,aa _⟩⟩,⟨rfl,.inl ⟨rfl,aq _⟩⟩,trivial⟩ rfl rfl ?_)
      |((with_reducible show eY _ _ _ _ _);refine eY.mk n rfl (by first|exact hnl|omega) ?_)
      |((with_reducible show bh _ _ _ _ _);refine bh.mk _ (by first|exact g1|(rw[Nat.zero_add];exact g1)) ?_)
      |((with_reducible show ae _ _ 82 _ _ _ _);refine ae.dx (news:=[aU l1 a 151 b 2,aF k1,aF kb,aF (DU all)]) [4,151,2,171] [] t104 OR ⟨⟨⟨rfl,rfl⟩,rfl,trivial⟩,rfl,trivial⟩ ⟨⟨rfl,bK (fun _=>rfl) (fun _=>rfl)⟩,⟨rfl,.inl ⟨rfl,aa _⟩⟩,⟨rfl,.inl ⟨rfl,aa _⟩⟩,trivial⟩ rfl ⟨⟨rfl,rfl⟩,rfl⟩ rfl ⟨⟨rfl,bF rfl rfl (by decide) (by decide)⟩,⟨rfl,.inl ⟨rfl,aa _⟩⟩,⟨rfl,.inl ⟨rfl,aa _⟩⟩,⟨rfl,.inl ⟨rfl,aa _⟩⟩,trivial⟩ rfl rfl ?_)
      |((with_reducible show aI _ _ _ _);refine dK ?_))<;>with_reducible refine wK ?_)
    |((with_reducible show(_∧_)∧_∧_);(refine eK ?_ ?_<;>with_reducible repeat' (first|exact trivial|(show _∧_;refine aK ?_ ?_))))));all_goals clear fct)
  refine bW.use G au (fun(j:Nat)=>[(0,.ptr 0 0 0),(1,ah n),(2,ah d),(6,ah y10),(29,.own 171 0 (DU all).length),(30,ah (DU all).length),(31,ah j)])
    (fun j=>[(0,aP m l.length 4 (.own 163 0 n1.length)),(1,.dead),(2,aF kb),(3,.dead),(4,aU ((all.take j).foldl (jt d) l1) a 151 b 2),(163,aV n1),(151,aF k1),(171,aF (DU all))])
    (fun j=>j≤all.length) (fun j=>all.length-j) 0 (Nat.zero_le _) ?_ ?_
  · (refine fK ?_;(with_reducible repeat' (first|exact trivial|(show _∧_;refine aK ?_ ?_)));(all_goals try rfl))
    all_goals first
      |exact⟨.refl (aa _),aa _⟩
      |exact⟨.refl (aq _),aq _⟩
      |exact bB (l:=l1) (fun _=>rfl) (fun _=>rfl)
      |trace_state
  intro j hj
  have hti:=JD all
  with_reducible refine wK ?_
  refine bq.mk (fun h1=>?_) (fun h1=>?_)<;>(try simp only[az] at h1)<;>with_reducible refine wK ?_
  · have hjl:j<all.length:=by simp only[bE,az] at h1;omega
    obtain⟨k,hk⟩:∃k,all[j]? =some k:=⟨_,bA hjl⟩
    obtain⟨lj,hlj⟩:∃lj,lj=(all.take j).foldl (jt d) l1:=⟨_,rfl⟩
    have hljl:lj.length=l.length:=by rw[hlj,rD,hl1]
    have hkl:k<lj.length:=by have:=hmem j k hk;omega
    obtain⟨z,hz⟩:∃z,lj[k]? =some z:=⟨_,bA hkl⟩
    obtain⟨p,hp⟩:=iL a 151 b 2 k z
    have gz:(aT lj a 151 b 2)[k]? =some (AS z p):=by rw[cT hz,hp z rfl]
    have hnext:(all.take (j+1)).foldl (jt d) l1=lj.set k {z with doc:=d}:=by
      rw[List.take_add_one,hk,List.foldl_append,←hlj]
      show jt d lj k=_
      unfold jt;rw[hz]
    have hrow:(aT lj a 151 b 2).set (0+k) (AS {z with doc:=d} p)=aT ((all.take (j+1)).foldl (jt d) l1) a 151 b 2:=by
      rw[hnext,Nat.zero_add,←hp {z with doc:=d} rfl,rF _ hkl]
    have hkr:k< (aT lj a 151 b 2).length:=by rw[bU];exact hkl
    have hge:=Kw hk
    rw[←hlj]
    obtain⟨z1,z2,z3,z4,z5,z6,z7,z8,z9,z10⟩:=z
    repeat' (first
    |refine gK ?_
    | ((first
      |((with_reducible show eY _ _ _ _ _);first|refine eY.mk j rfl (by first|omega|(simp;omega)) ?_|refine eY.mk k rfl (by first|exact hkl|omega) ?_)
      |((with_reducible show bh _ _ _ _ _);first|refine bh.mk (ah (k:Int)) (by first|exact hge|(rw[Nat.zero_add];exact hge)) ?_|refine bh.mk _ (by first|exact gz|(rw[Nat.zero_add];exact gz)) ?_)
      |((with_reducible show aI _ _ _ _);refine dK ?_))<;>with_reducible refine wK ?_)
    |((with_reducible show(_∧_)∧_∧_);(refine eK ?_ ?_<;>with_reducible repeat' (first|exact trivial|(show _∧_;refine aK ?_ ?_)))))
    refine bZ.mk (j+1) (by omega) (by omega) ?_
    (refine fK ?_;(with_reducible repeat' (first|exact trivial|(show _∧_;refine aK ?_ ?_)));(all_goals try rfl))
    all_goals first
      |exact⟨.refl (aa _),aa _⟩
      |exact⟨.refl (aq _),aq _⟩
      |exact cast (congrArg (dD _ _) hrow.symm) (bB (fun _=>rfl) (fun _=>rfl))
      |trace_state
  · have hjl:j=all.length:=by simp only[c9,az] at h1;omega
    subst hjl
    obtain rfl:l2=(all.take all.length).foldl (jt d) l1:=by rw[List.take_length];exact hl2
    repeat' (first
    |refine gK ?_
    | ((first
      |((with_reducible show ae _ _ 141 _ _ _ _);refine ae.dx (news:=[aP m l.length 4 (.own 173 0 (n1.length+es.length)),aF k1,aF kb,.dead,aU ((all.take all.length).foldl (jt d) l1) a 151 b 2,aV (n1++es.map (di (yO y10 d)))]) [0,151,2,163,4,173] [] t164 CZ ⟨⟨rfl,rfl⟩,rfl,⟨rfl,rfl,rfl,rfl,rfl,rfl,rfl,rfl,rfl,trivial⟩,trivial⟩ ⟨⟨rfl,.inr ⟨⟨⟨⟨rfl,rfl⟩,rfl,⟨rfl,rfl⟩,trivial⟩,trivial⟩,rfl⟩⟩,⟨rfl,.inl ⟨rfl,aa _⟩⟩,⟨rfl,.inl ⟨rfl,aa _⟩⟩,⟨rfl,.inl ⟨rfl,aq _⟩⟩,⟨rfl,bK (fun _=>rfl) (fun _=>rfl)⟩,trivial⟩ rfl ⟨⟨rfl,rfl⟩,rfl⟩ rfl ⟨⟨rfl,.inr ⟨rfl,rfl,rfl⟩⟩,⟨rfl,.inl ⟨rfl,aa _⟩⟩,⟨rfl,.inl ⟨rfl,aa _⟩⟩,⟨rfl,bF rfl rfl (by decide) (by decide)⟩,⟨rfl,.inl ⟨rfl,aq _⟩⟩,trivial⟩ rfl rfl ?_)
      |((with_reducible show aI _ _ _ _);refine dK ?_))<;>with_reducible refine wK ?_)
    |((with_reducible show(_∧_)∧_∧_);(refine eK ?_ ?_<;>with_reducible repeat' (first|exact trivial|(show _∧_;refine aK ?_ ?_)))))
    all_goals first
      |exact⟨.refl (aa _),aa _⟩
      |exact⟨.refl (aq _),aq _⟩
      |exact bB (fun _=>rfl) (fun _=>rfl)
      |(simp;done)
      |trace_state
theorem Fl {l l1:List ai}{m d:Int}{a b n:Nat}{ka kb k1:List Int}{ns n1:List aQ}{y:ai}(hl1:l1.length=l.length)(hy:l1[n]? =some y)(hd:y.doc=d)
    (h161:aj Tryz.prog 79 [aP m l.length 4 (.own 3 0 ns.length),aF ka,aF kb,aV ns,aU l a 1 b 2] [.ptr 0 0 0,ah n] [aP m l.length 4 (.own 6 0 n1.length),.dead,aF kb,.dead,aU l1 a 5 b 2,aF k1,aV n1] (.tup [])):
    aj Tryz.prog 139 [aP m l.length 4 (.own 3 0 ns.length),aF ka,aF kb,aV ns,aU l a 1 b 2] [.ptr 0 0 0,ah n,ah d]
      [aP m l.length 4 (.own 6 0 n1.length),.dead,aF kb,.dead,aU l1 a 5 b 2,aF k1,aV n1] (.tup []):=by
  have hnl:=(bj hy).1
  obtain⟨q,hq⟩:=iL a 151 b 2 n y
  have g1:(aT l1 a 151 b 2)[n]? =some (AS y q):=by rw[cT hy,hq y rfl]
  have hlr:∀x:List ai,(aT x a 151 b 2).length=x.length:=fun x=>bU
  obtain⟨y1,y2,y3,y4,y5,y6,y7,y8,y9,y10⟩:=y
  dsimp only at g1 hd
  subst hd
  refine aj.eR [(5,151)] (rvs:=[]) G au Tryz.func139 rfl Tryz.ntmps139 rfl rfl ?_;with_reducible refine wD ?_
  repeat' (first
    |refine gK ?_
    | ((first
      |((with_reducible show ae _ _ 79 _ _ _ _);refine ae.dx (news:=[aP m l.length 4 (.own 163 0 n1.length),.dead,aF kb,.dead,aU l1 a 151 b 2,aF k1,aV n1]) [0,1,2,3,4,151,163] [] h161 Nb ⟨⟨rfl,rfl⟩,rfl,trivial⟩ ⟨⟨rfl,.inr ⟨⟨⟨⟨rfl,rfl⟩,rfl,⟨rfl,rfl⟩,trivial⟩,trivial⟩,rfl⟩⟩,⟨rfl,.inl ⟨rfl,aa _⟩⟩,⟨rfl,.inl ⟨rfl,aa _⟩⟩,⟨rfl,.inl ⟨rfl,aq _⟩⟩,⟨rfl,bK (fun _=>rfl) (fun _=>rfl)⟩,trivial⟩ rfl ⟨⟨rfl,rfl⟩,rfl⟩ rfl ⟨⟨rfl,.inr ⟨rfl,rfl,rfl⟩⟩,⟨rfl,.inl ⟨rfl,aa _⟩⟩,⟨rfl,bF rfl rfl (by decide) (by decide)⟩,⟨rfl,.inl ⟨rfl,aa _⟩⟩,⟨rfl,.inl ⟨rfl,aq _⟩⟩,trivial⟩ rfl rfl ?_)
      |((with_reducible show eY _ _ _ _ _);refine eY.mk n rfl (by first|exact hnl|omega) ?_)
      |((with_reducible show bh _ _ _ _ _);refine bh.mk _ (by first|exact g1|(rw[Nat.zero_add];exact g1)) ?_)
      |((with_reducible show aI _ _ _ _);refine dK ?_))<;>with_reducible refine wK ?_)
    |((with_reducible show(_∧_)∧_∧_);(refine eK ?_ ?_<;>with_reducible repeat' (first|exact trivial|(show _∧_;refine aK ?_ ?_)))))
  all_goals first
    |exact⟨.refl (aa _),aa _⟩
    |exact⟨.refl (aq _),aq _⟩
    |exact bB (fun _=>rfl) (fun _=>rfl)
    |trace_state
theorem FD {cs:List Int}{b:Int}{i:Nat}(h:cs[i]? =some b)(hno:∀ (j:Nat) x,j<i→cs[j]? =some x→x≠b):gq (fun x=>decide (x=b)) cs=i:=
  gr h (dG rfl) fun j x hj hx=>dy (hno j x hj hx)
theorem BR (f:ForM)(n:Int)(what:ByteArray)(e:Int)(r:ForM)(ns:List aQ)(z:Int)(h77:aj Tryz.prog 77 [] [aR f,ah n] [] (.lit (hO what e)))
    (h56:aj Tryz.prog 56 [] [aR f,.lit (hO what e),.clo (.func 78) [] [.fptr (ah n) 0]] [] (.tup [aR r,lQ ns,ah z])):aj Tryz.prog 32 [] [aR f,ah n] [] (.tup [aR r,lQ ns,ah z]):=by
  obtain⟨l,m⟩:=f
  obtain⟨l',m'⟩:=r
  refine aj.aD (rvs:=[.cell 4 24,.tmp 5,.tmp 6]) G au Tryz.func32 rfl Tryz.ntmps32 rfl rfl ?_;with_reducible refine wD ?_
  repeat' (first
    |refine gK ?_
    | ((first
      |((with_reducible show ae _ _ 77 _ _ _ _);refine ae.lit [] h77 L6 ⟨⟨rfl,rfl,trivial⟩,rfl,trivial⟩ rfl rfl ?_)
      |((with_reducible show ae _ _ 56 _ _ _ _);refine ae.val [30] h56 F1 ⟨⟨rfl,rfl,trivial⟩,⟨rfl,rfl⟩,⟨rfl,trivial,⟨_,_,_,_,_,rfl,rfl,rfl,rfl,rfl,rfl⟩,trivial⟩,trivial⟩ rfl rfl rfl ?_)
      |((with_reducible show aI _ _ _ _);refine dK ?_))<;>with_reducible refine wK ?_)
    |((with_reducible show(_∧_)∧_∧_);(refine eK ?_ ?_<;>with_reducible repeat' (first|exact trivial|(show _∧_;refine aK ?_ ?_)))))
  all_goals first|rfl|trace_state
theorem CM (f:ForM)(n:Int)(r:ForM)(ns:List aQ)(z:Int)(h77:aj Tryz.prog 77 [] [aR f,ah n] [] eI)
    (h56:aj Tryz.prog 56 [] [aR f,eI,.clo (.func 78) [] [.fptr (ah n) 0]] [] (.tup [aR r,lQ ns,ah z])):aj Tryz.prog 32 [] [aR f,ah n] [] (.tup [aR r,lQ ns,ah z]):=by
  obtain⟨l,m⟩:=f
  obtain⟨l',m'⟩:=r
  refine aj.aD (rvs:=[.cell 4 24,.tmp 5,.tmp 6]) G au Tryz.func32 rfl Tryz.ntmps32 rfl rfl ?_;with_reducible refine wD ?_
  repeat' (first
    |refine gK ?_
    | ((first
      |((with_reducible show ae _ _ 77 _ _ _ _);refine ae.lit [] h77 L6 ⟨⟨rfl,rfl,trivial⟩,rfl,trivial⟩ rfl rfl ?_)
      |((with_reducible show ae _ _ 56 _ _ _ _);refine ae.val [30] h56 F1 ⟨⟨rfl,rfl,trivial⟩,⟨rfl,rfl⟩,⟨rfl,trivial,⟨_,_,_,_,_,rfl,rfl,rfl,rfl,rfl,rfl⟩,trivial⟩,trivial⟩ rfl rfl rfl ?_)
      |((with_reducible show aI _ _ _ _);refine dK ?_))<;>with_reducible refine wK ?_)
    |((with_reducible show(_∧_)∧_∧_);(refine eK ?_ ?_<;>with_reducible repeat' (first|exact trivial|(show _∧_;refine aK ?_ ?_)))))
  all_goals first|rfl|trace_state
theorem iD (l:List ai)(m:Int)(R:RF l m){n:Int}(hn:af l n=true)(x:aQ):sI l n x=(zP ⟨l,m⟩ n).map (di x):=by
  unfold sI zP Nu jQ kP di
  rw[if_pos (by rw[dI.2 R,hn];rfl)]
  simp
theorem J2 (l:List ai)(m:Int)(R:RF l m)(hl:l.length≤64)(n:Int)(hn:af l n=true):(kP ⟨l,m⟩ n).length≤1000∧(zP ⟨l,m⟩ n).length≤1000:=by
  have h:(kP ⟨l,m⟩ n).length≤1000:=by
    unfold kP
    rw[if_pos (by rw[dI.2 R,hn];rfl)]
    have:=U.tE R.tree l.length hn
    show(U.cm l l.length n).length≤1000
    omega
  exact⟨h,Nat.le_trans (List.length_filter_le ..) h⟩
theorem IF (f:ForM)(hs:bC f.nodes)(n:Int):aj Tryz.prog 32 [] [aR f,ah n] [] (.tup [aR (iv f n).1,lQ (iv f n).2.1,ah (iv f n).2.2]):=by
  cases hrt:(bw f&&af f.nodes n) with
  | false=>
    have e:iv f n=(f,[],1):=by unfold iv;rw[hrt];rfl
    rw[e]
    exact BR f n mH 1 f [] 1 (Ao f hs n hrt) (jZ f hs 78 _ mH 1)
  | true =>
    simp only[bO] at hrt
    obtain⟨hr,ht⟩:=hrt
    obtain⟨b,y,rfl,hy,_⟩:=aW.1 ht
    obtain⟨l,m⟩:=f
    have R:RF l m:=dI.1 hr
    have hnd:=cF hy
    by_cases hp:y.parent=-1
    · have e:=ve R ht (by rw[hnd];exact hp)
      rw[e]
      exact sO ⟨l,m⟩ hs hr b y hy hp
    · have hq:=R.par b ht (by rw[hnd];exact hp)
      rw[hnd] at hq
      have e:=pC R ht (by rw[hnd];exact hp)
      rw[e]
      obtain⟨a,ya,hpa,ha,_⟩:=aW.1 hq.2.1
      rw[hpa] at hq hp
      have hnda:=cF ha
      have hmem:(b:Int)∈ya.kids:=by
        have:=hq.2.2.2
        rwa [hnda] at this
      have hab:b≠a:=by
        intro e
        have h1:=R.jY ht
        rw[R.fW ht (by rw[hnd,hpa];exact hp),hnd,hpa,e] at h1
        exact h1 rfl
      obtain⟨i,hi,hib,hno,_,_,her⟩:=j7 hmem
      have hs64:l.length≤64:=hs.len
      have hkl:ya.kids.length≤60:=hs.kids ya (bV ha)
      have hel:=J2 l m R hs64 b ht
      have h35:=HG ⟨l,m⟩ hs b
      rw[show EA ⟨l,m⟩ b=kY l b by unfold EA kY;rw[hr,ht];rfl] at h35
      have h34:=Dz ⟨l,m⟩ hs b (by rw[hr,ht];rfl) (by omega)
      have h73:=qY ya.kids (by omega) b
      rw[gr hib (dG rfl) fun j x hj hx=>dy (hno j x hj hx)] at h73
      have h145:=o9 (rows:=ya.kids.map bt) (fA ya.kids) i (i+1) (by omega) (by simp;omega)
      rw[bN,←List.map_take,←List.map_drop,←iR,show i+ (ya.kids.length- (i+1))=(ya.kids.take i++ya.kids.drop (i+1)).length by simp;omega] at h145
      have hto:(if kY l b=true then sI l b (dL 2 0 0) else[])=(if kY l b=true then(zP ⟨l,m⟩ b).map (di nc) else[]):=by
        rw[iD l m R ht];rfl
      have h79:=Lu (l:=l) (m:=m) (a:=a) (b:=b) (i:=i) (ns:=[]) (told:=if kY l b=true then(zP ⟨l,m⟩ b).map (di nc) else[]) rfl (by omega) ha (kb:=y.kids) (fun z hz=>by rw[hy] at hz;cases hz;rfl) hy hab rfl hpa hi (by omega) hel.2 (by simp) h35 h34 h73 h145
      have hout:bg l b=(l.set a {ya with kids:=ya.kids.take i++ya.kids.drop (i+1)}).set b {y with parent:=-1}:=by
        unfold bg
        rw[hnd,if_neg (by rw[hpa];exact hp)]
        unfold oH
        rw[hpa,hnda]
        dsimp only
        rw[her,Int.toNat_natCast,Int.toNat_natCast]
        congr 1
        have:nd (l.set a {ya with kids:=ya.kids.take i++ya.kids.drop (i+1)}) b=y:=cF (by rw[List.getElem?_set,if_neg (fun e=>hab e.symm)];exact hy)
        rw[this]
      rw[hto,hout]
      have hlen:((l.set a {ya with kids:=ya.kids.take i++ya.kids.drop (i+1)}).set b {y with parent:=-1}).length=l.length:=by simp
      generalize(if kY l b=true then(zP ⟨l,m⟩ b).map (di nc) else[])=told at h79 ⊢
      have hA:∀z,((l.set a {ya with kids:=ya.kids.take i++ya.kids.drop (i+1)}).set b {y with parent:=-1})[a]? =some z→z.kids=ya.kids.take i++ya.kids.drop (i+1):=fun z hz=>by
        rw[List.getElem?_set,if_neg hab,List.getElem?_set,if_pos rfl,if_pos (bj ha).1] at hz
        cases hz;rfl
      have hB:∀z,((l.set a {ya with kids:=ya.kids.take i++ya.kids.drop (i+1)}).set b {y with parent:=-1})[b]? =some z→z.kids=y.kids:=fun z hz=>by
        rw[List.getElem?_set,if_pos rfl,if_pos (by rw[List.length_set];exact(bj hy).1)] at hz
        cases hz;rfl
      exact CM ⟨l,m⟩ b _ _ 0 (oo ⟨l,m⟩ hs b (by rw[hr,ht];rfl))
        (Mh ⟨l,m⟩ hs (fun e=>hab e.symm) ha hy 78 Po [.fptr (ah b) 0] rfl _ _ told hlen hA hB
          (Ae (show l.length≤1000 by omega) hy (by rw[hpa];exact hp) hlen h79 hab))
@[reducible] def lJ : aQ := ⟨1, 0, 0, 0, ByteArray.empty, false, false, ByteArray.empty, ByteArray.empty⟩
section
variable {l : List ai} {a b ta tb i : Nat}
theorem s6 {tb':Nat}(y':ai)(hb:b<l.length)(hab:b≠a):(aT l a ta b tb).set b (dV y' tb')=aT (l.set b y') a ta b tb':=by
  apply List.ext_getElem?
  intro j
  unfold aT
  rw[List.getElem?_set,List.getElem?_mapIdx,List.getElem?_mapIdx,List.getElem?_set,List.length_mapIdx]
  by_cases e:b=j
  · subst e
    rw[if_pos rfl,if_pos rfl,if_pos hb,if_pos hb]
    show _=some (ef a ta b tb' b y')
    unfold ef
    rw[if_neg hab,if_pos rfl]
  · rw [if_neg e,if_neg e]
    cases h:l[j]? with
    |none=>rfl
    | some z=>
      show some (ef a ta b tb j z)=some (ef a ta b tb' j z)
      unfold ef
      rw[if_neg (show ¬j=b from fun q=>e q.symm),if_neg (show ¬j=b from fun q=>e q.symm)]
end
def B7 (m:Int)(L a b:Nat)(before:Int)(l:List ai)(ns:List aQ)(ka kb:List Int)(k':Int)(l':List ai)(ns':List aQ)(ka' kb':List Int):Prop:=
  ∃ (k:Nat),k'=(k:Int)∧∃ (y0 y1 yk:ai) (l1:List ai) (n1:List aQ) (k1:List Int) (i:Nat) (conn:Bool) (es ex:List Int),
    l.length=L∧l1.length=L∧l[b]? =some y0∧
    aj Tryz.prog 139 [aP m L 4 (.own 3 0 ns.length),aF ka,aF kb,aV ns,aU l a 1 b 2] [.ptr 0 0 0,ah k,ah y0.doc] [aP m L 4 (.own 6 0 n1.length),.dead,aF kb,.dead,aU l1 a 5 b 2,aF k1,aV n1] (.tup [])∧
    l1[b]? =some y1∧l1[k]? =some yk∧kb=y1.kids∧i≤y1.kids.length∧(before=-1→i=y1.kids.length)∧(before≠-1→aj Tryz.prog 73 [] [cq y1.kids,ah before] [] (ah i))∧y1.kids.length≤1000∧
    l'=(l1.set b {y1 with kids:=y1.kids.take i++ [(k:Int)]++y1.kids.drop i}).set k {yk with parent:=(b:Int)}∧(k≠b∧k≠a)∧(∀y,l'[a]? =some y→y.kids=ka')∧(∀y,l'[b]? =some y→y.kids=kb')∧
    ka'=k1∧kb'=y1.kids.take i++ [(k:Int)]++y1.kids.drop i∧
    aj Tryz.prog 35 [] [aR ⟨l',m⟩,ah k] [] (bG conn)∧aj Tryz.prog 34 [] [aR ⟨l',m⟩,ah k] [aF (es++ex)] (.own 0 0 es.length)∧
    ns'=n1++ (if conn=true then es.map (di lJ) else[])∧n1.length≤100000∧es.length≤1000
def GH (m:Int)(L a b:Nat)(before:Int)(l:List ai)(ns:List aQ)(ka kb:List Int)(k':Int)(l':List ai)(ns':List aQ)(ka' kb':List Int):Prop:=
  ∃ (k:Nat),k'=(k:Int)∧∃ (y0 y1 yk:ai) (l1:List ai) (n1:List aQ) (k1:List Int) (i:Nat) (conn:Bool) (es ex:List Int),
    l.length=L∧l1.length=L∧l[a]? =some y0∧
    aj Tryz.prog 139 [aP m L 4 (.own 3 0 ns.length),aF ka,aF kb,aV ns,aU l a 1 b 2] [.ptr 0 0 0,ah k,ah y0.doc] [aP m L 4 (.own 6 0 n1.length),.dead,aF kb,.dead,aU l1 a 5 b 2,aF k1,aV n1] (.tup [])∧
    l1[a]? =some y1∧l1[k]? =some yk∧k1=y1.kids∧i≤y1.kids.length∧(before=-1→i=y1.kids.length)∧(before≠-1→aj Tryz.prog 73 [] [cq y1.kids,ah before] [] (ah i))∧y1.kids.length≤1000∧
    l'=(l1.set a {y1 with kids:=y1.kids.take i++ [(k:Int)]++y1.kids.drop i}).set k {yk with parent:=(a:Int)}∧k=b∧(∀y,l'[a]? =some y→y.kids=ka')∧(∀y,l'[b]? =some y→y.kids=kb')∧
    ka'=y1.kids.take i++ [(k:Int)]++y1.kids.drop i∧kb'=kb∧
    aj Tryz.prog 35 [] [aR ⟨l',m⟩,ah k] [] (bG conn)∧aj Tryz.prog 34 [] [aR ⟨l',m⟩,ah k] [aF (es++ex)] (.own 0 0 es.length)∧
    ns'=n1++ (if conn=true then es.map (di lJ) else[])∧n1.length≤100000∧es.length≤1000
end Go.Proofs.Heir
namespace Go.Proofs.Heir
open Go Go.Am Go.RowKit Go.Lib
set_option maxRecDepth 100000
set_option maxHeartbeats 8000000
set_option maxHeartbeats 4000000
section
variable {l : List ai} {m : Int}
theorem gL {k:Nat}(h:k<l.length):af l (k:Int)=true:=by unfold af;rw[dG (by omega:(0:Int)≤k),dG (by omega:(k:Int)<l.length)];rfl
theorem cO {k:Nat}(h:af l (k:Int)=true):k<l.length:=by
  unfold af at h
  simp only[bO,bE] at h;omega
theorem cK {k:Nat}(h:k<l.length):l[k]? =some (nd l k):=by
  obtain⟨y,hy⟩:∃y,l[k]? =some y:=⟨_,bA h⟩
  rw[cF hy];exact hy
theorem cP {k:Nat}:∀y,l[k]? =some y→y.kids=(nd l k).kids:=fun y hy=>by rw[cF hy]
theorem jC (R:RF l m)(h60:l.length≤60){n:Int}(hn:af l n=true):(kP ⟨l,m⟩ n).length≤60∧(zP ⟨l,m⟩ n).length≤60:=by
  have h:(kP ⟨l,m⟩ n).length≤60:=by
    unfold kP
    rw[if_pos (by rw[dI.2 R,hn];rfl)]
    have:=U.tE R.tree l.length hn
    show(U.cm l l.length n).length≤60
    omega
  exact⟨h,Nat.le_trans (List.length_filter_le ..) h⟩
theorem Ca (R:RF l m)(h60:l.length≤60){n:Int}(hn:af l n=true):aj Tryz.prog 35 [] [aR ⟨l,m⟩,ah n] [] (bG (kY l n)):=by
  have:=HG ⟨l,m⟩ (fm R h60) n
  rwa [show EA ⟨l,m⟩ n=kY l n by unfold EA kY;rw[dI.2 R,hn];rfl] at this
theorem za (R:RF l m)(h60:l.length≤60){n:Int}(hn:af l n=true):aj Tryz.prog 34 [] [aR ⟨l,m⟩,ah n] [aF (zP ⟨l,m⟩ n++OP ⟨l,m⟩ n)] (.own 0 0 (zP ⟨l,m⟩ n).length):=
  Dz ⟨l,m⟩ (fm R h60) n (by rw[dI.2 R,hn];rfl) (by have:=(jC R h60 hn).1;omega)
theorem Da (R:RF l m)(h60:l.length≤60){a b k:Nat}(hab:b≠a)(ha:a<l.length)(hb:b<l.length)(hk:k<l.length){ns:List aQ}(hns:ns.length≤90000)(h:(nd l k).parent=-1∨(nd l k).parent=(a:Int)):
    aj Tryz.prog 79 [aP m l.length 4 (.own 3 0 ns.length),aF (nd l a).kids,aF (nd l b).kids,aV ns,aU l a 1 b 2] [.ptr 0 0 0,ah k]
      [aP m l.length 4 (.own 6 0 (c8 (l,ns) k).2.length),.dead,aF (nd l b).kids,.dead,aU (bg l k) a 5 b 2,aF (nd (bg l k) a).kids,aV (c8 (l,ns) k).2] (.tup []):=by
  have hy:=cK hk
  by_cases hp:(nd l k).parent=-1
  · have e1:bg l k=l:=by unfold bg;rw[if_pos hp]
    have e2:c8 (l,ns) k=(l,ns):=by unfold c8;rw[if_pos hp]
    rw[e1,e2]
    obtain⟨q,hq⟩:=iL a 1 b 2 k (nd l k)
    exact FB hy ⟨q,hq _ rfl⟩ hp
  · have hpa:=h.resolve_left hp
    have ht:=gL hk
    have hq:=R.par k ht hp
    rw[hpa] at hq
    have hmem:(k:Int)∈ (nd l a).kids:=hq.2.2.2
    have hka:k≠a:=fun e=>by
      have h1:=R.jY ht
      rw[R.fW ht hp,hpa,e] at h1
      exact h1 rfl
    obtain⟨i,hi,hib,hno,_,_,her⟩:=j7 hmem
    have hs:=fm R h60
    have hkl:(nd l a).kids.length≤60:=hs.kids _ (bV (cK ha))
    have hel:=jC R h60 ht
    have h35:=Ca R h60 ht
    have h34:=za R h60 ht
    have h73:=qY (nd l a).kids (by omega) k
    rw[gr hib (dG rfl) fun j x hj hx=>dy (hno j x hj hx)] at h73
    have h145:=o9 (rows:=(nd l a).kids.map bt) (fA (nd l a).kids) i (i+1) (by omega) (by simp;omega)
    rw[bN,←List.map_take,←List.map_drop,←iR,show i+ ((nd l a).kids.length- (i+1))=((nd l a).kids.take i++ (nd l a).kids.drop (i+1)).length by simp;omega] at h145
    have hto:c8 (l,ns) k=(bg l k,ns++if kY l k=true then(zP ⟨l,m⟩ k).map (di nc) else[]):=by
      unfold c8
      rw[if_neg hp]
      simp only
      rw[iD l m R ht];rfl
    have hout:bg l k=(l.set a {nd l a with kids:=(nd l a).kids.take i++ (nd l a).kids.drop (i+1)}).set k {nd l k with parent:=-1}:=by
      unfold bg
      rw[if_neg hp]
      unfold oH
      rw[hpa]
      dsimp only
      rw[her,Int.toNat_natCast,Int.toNat_natCast]
      congr 1
      have:nd (l.set a {nd l a with kids:=(nd l a).kids.take i++ (nd l a).kids.drop (i+1)}) k=nd l k:=cF (by rw[List.getElem?_set,if_neg (fun e=>hka e.symm)];exact hy)
      rw[this]
    have hA:(nd (bg l k) a).kids=(nd l a).kids.take i++ (nd l a).kids.drop (i+1):=by
      have:(bg l k)[a]? =some {nd l a with kids:=(nd l a).kids.take i++ (nd l a).kids.drop (i+1)}:=by
        rw[hout,List.getElem?_set,if_neg hka,List.getElem?_set,if_pos rfl,if_pos ha]
      rw[cF this]
    rw[hA,hto,hout]
    by_cases hkb:k=b
    · subst hkb
      exact Lu rfl (by omega) (cK ha) cP hy hka rfl hpa hi (by omega) (by omega) (by omega) h35 h34 h73 h145
    ·exact Nz rfl (by omega) (cK ha) cP hy hka hkb rfl hpa hi (by omega) (by omega) (by omega) h35 h34 h73 h145
theorem ua (R:RF l m)(h60:l.length≤60){k:Nat}(hk:k<l.length)(ns:List aQ):(c8 (l,ns) k).2.length≤ns.length+60:=by
  unfold c8
  split
  ·simp
  · simp only
    rw[iD l m R (gL hk)]
    have:=(jC R h60 (gL hk)).2
    split<;>simp<;>omega
theorem JP (d:Int)(l:List ai)(k:Nat)(h:k<l.length):jt d l k=oH l k fun x=>{x with doc:=d}:=by
  unfold jt oH
  rw[cK h,Int.toNat_natCast]
theorem BB (d:Int):∀ (ks:List Nat) (l:List ai),(∀k∈ks,k<l.length)→ks.foldl (jt d) l=rI l (DU ks) d
  |[],_,_=>rfl
  | k::ks,l,h=>by
    have hk:=h k eS
    show ks.foldl (jt d) (jt d l k)=rI (oH l k fun x=>{x with doc:=d}) (DU ks) d
    rw[BB d ks (jt d l k) (fun j hj=>by rw[Bo];exact h j (dQ _ hj)),JP d l k hk]
theorem JL {cs:List Int}(h:∀c∈cs,0≤c):DU (cs.map Int.toNat)=cs:=by
  unfold DU
  rw[List.map_map]
  conv=>rhs;rw[←List.map_id cs]
  exact List.map_congr_left fun c hc=>by
    have:=h c hc
    show((c.toNat:Nat):Int)=c
    omega
theorem Dr (R:RF l m)(h60:l.length≤60){a b k:Nat}(hab:b≠a)(ha:a<l.length)(hb:b<l.length)(hk:k<l.length){ns:List aQ}(hns:ns.length≤80000)(h:(nd l k).parent=-1∨(nd l k).parent=(a:Int))(hkk:(nd l k).kind=1∨(nd l k).kind=2){d:Int}(hd:kR l d 0=true):
    aj Tryz.prog 139 [aP m l.length 4 (.own 3 0 ns.length),aF (nd l a).kids,aF (nd l b).kids,aV ns,aU l a 1 b 2] [.ptr 0 0 0,ah k,ah d]
      [aP m l.length 4 (.own 6 0 (jq (l,ns) k d).2.length),.dead,aF (nd l b).kids,.dead,aU (cG l k d) a 5 b 2,aF (nd (cG l k d) a).kids,aV (jq (l,ns) k d).2] (.tup []):=by
  have h79:=Da R h60 hab ha hb hk (by omega:ns.length≤90000) h
  have ht:=gL hk
  have R1:=dS R ht
  have T:=aY (cW l k)
  have hl1:=cW l (k:Int)
  have ht1:af (bg l k) k=true:=by rw[T];exact ht
  have hk1:k< (bg l k).length:=by rw[hl1];exact hk
  have hf:=lz (l,ns) (k:Int)
  have hol:=ua R h60 hk ns
  by_cases e:(nd (bg l k) k).doc=d
  · have e1:cG l k d=bg l k:=by unfold cG;rw[if_pos e]
    have e2:jq (l,ns) k d=c8 (l,ns) k:=by unfold jq;rw[hf,if_pos e]
    rw[e1,e2]
    exact Fl hl1 (cK hk1) e h79
  · have R2:=lZ R ht hkk hd
    have e1:cG l k d=rI (bg l k) (U.cm (bg l k) (bg l k).length k) d:=by unfold cG;rw[if_neg e]
    have ht2:af (cG l k d) k=true:=by rw[aY (ga l k d)];exact ht
    have e2:(jq (l,ns) k d).2=(c8 (l,ns) k).2++ (zP ⟨cG l k d,m⟩ k).map (di (yO (nd (bg l k) k).doc d)):=by
      unfold jq
      rw[hf,if_neg e]
      simp only
      rw[iD _ m R2 ht2];rfl
    have h82:=tP ⟨bg l k,m⟩ (fm R1 (by rw[hl1];exact h60)) k (by rw[dI.2 R1,ht1];rfl)
    have hall:kP ⟨bg l k,m⟩ k=U.cm (bg l k) (bg l k).length k:=by unfold kP;rw[if_pos (by rw[dI.2 R1,ht1];rfl)]
    have hpos:∀c∈U.cm (bg l k) (bg l k).length k,af (bg l k) c=true:=fun c hc=>vg (f:=⟨bg l k,m⟩) (n:=k) c (by rw[hall];exact hc)
    have hti:DU ((U.cm (bg l k) (bg l k).length k).map Int.toNat)=U.cm (bg l k) (bg l k).length k:=JL fun c hc=>(bf (hpos c hc)).1
    have hlt:∀j∈ (U.cm (bg l k) (bg l k).length k).map Int.toNat,j< (bg l k).length:=fun j hj=>by
      obtain⟨c,hc,rfl⟩:=List.mem_map.1 hj
      obtain⟨i,_,rfl,hi,_⟩:=aW.1 (hpos c hc)
      rw[Int.toNat_natCast];exact(bj hi).1
    have hlen:=(jC R1 (by rw[hl1];exact h60) ht1).1
    rw[hall] at h82 hlen
    have hL2:cG l k d=((U.cm (bg l k) (bg l k).length k).map Int.toNat).foldl (jt d) (bg l k):=by rw[BB d _ _ hlt,hti,e1]
    have h34:=za R2 (by rw[ga];exact h60) ht2
    have hel:=(jC R2 (by rw[ga];exact h60) ht2).2
    have hkb1:(nd (bg l k) b).kids=(nd l b).kids:=by
      rw[(dR R ht b (gL hb)).2.2.2]
      split
      · rename_i hpb
        rcases h with h|h
        ·rw[h] at hpb;omega
        ·rw[h] at hpb;omega
      ·rfl
    have hka2:(nd (cG l k d) a).kids=(nd (bg l k) a).kids:=by
      rw[e1]
      exact(vR hpos a (by rw[T];exact gL ha)).2.2.2
    rw[e2,hka2,jz,bN]
    exact Mj hl1 (cK hk1) e hlt (by rw[bN];omega) hL2 cP (fun y hy=>by rw[cP y hy,hkb1]) (by omega) (by omega) h79 (by rw[hti];exact h82) h34
theorem A9 (R:RF l m)(h60:l.length≤60){k:Nat}(hk:k<l.length)(hkk:(nd l k).kind=1∨(nd l k).kind=2){d:Int}(hd:kR l d 0=true)(ns:List aQ):(jq (l,ns) k d).2.length≤ns.length+120:=by
  have h1:=ua R h60 hk ns
  have ht:=gL hk
  unfold jq
  split
  ·omega
  · simp only
    have R2:=lZ R ht hkk hd
    have ht2:af (cG l k d) k=true:=by rw[aY (ga l k d)];exact ht
    rw[iD _ m R2 ht2,jz,bN]
    have:=(jC R2 (by rw[ga];exact h60) ht2).2
    omega
end
section
variable {l : List ai} {m : Int}
theorem HU (R:RF l m)(h60:l.length≤60){k:Nat}{p before:Int}(C:fE l k p before)(hd:kR l (nd l p).doc 0=true)(ns:List aQ):(cU p before (l,ns) k).2.length≤ns.length+180:=by
  have h1:=A9 R h60 (cO C.tk) C.kk hd ns
  have R':=j5 R C
  have ht:af (cA l k p before) k=true:=by rw[aY (fo l k p before)];exact C.tk
  unfold cU
  simp only
  rw[jz,iD _ m R' ht]
  have:=(jC R' (by rw[fo];exact h60) ht).2
  split<;>simp<;>omega
theorem sS (R:RF l m)(h60:l.length≤60){k t:Nat}{before:Int}(C:fE l k t before)(hd:kR l (nd l t).doc 0=true)(ns:List aQ)(hns:ns.length≤70000):
    ∃ (i:Nat) (conn:Bool) (es ex:List Int),i≤ (nd (cG l k (nd l t).doc) t).kids.length∧(before=-1→i=(nd (cG l k (nd l t).doc) t).kids.length)∧
      (before≠-1→aj Tryz.prog 73 [] [cq (nd (cG l k (nd l t).doc) t).kids,ah before] [] (ah i))∧(nd (cG l k (nd l t).doc) t).kids.length≤1000∧
      cA l k t before=((cG l k (nd l t).doc).set t {nd (cG l k (nd l t).doc) t with kids:=(nd (cG l k (nd l t).doc) t).kids.take i++ [(k:Int)]++ (nd (cG l k (nd l t).doc) t).kids.drop i}).set k {nd (cG l k (nd l t).doc) k with parent:=(t:Int)}∧
      (nd (cA l k t before) t).kids=(nd (cG l k (nd l t).doc) t).kids.take i++ [(k:Int)]++ (nd (cG l k (nd l t).doc) t).kids.drop i∧
      aj Tryz.prog 35 [] [aR ⟨cA l k t before,m⟩,ah k] [] (bG conn)∧aj Tryz.prog 34 [] [aR ⟨cA l k t before,m⟩,ah k] [aF (es++ex)] (.own 0 0 es.length)∧
      (cU t before (l,ns) k).2=(jq (l,ns) k (nd l t).doc).2++ (if conn=true then es.map (di lJ) else[])∧(jq (l,ns) k (nd l t).doc).2.length≤100000∧es.length≤1000:=by
  have hk:=cO C.tk
  have ht:=cO C.tp
  have hne:(k:Int)≠ (t:Int):=fun e=>C.w (by rw[e];exact U.cI R.tree C.tp)
  have hne':k≠t:=fun e=>hne (by rw[e])
  have hol:=A9 R h60 hk C.kk hd ns
  have R1:=lZ R C.tk C.kk hd
  have R':=j5 R C
  have htk:af (cA l k t before) k=true:=by rw[aY (fo l k t before)];exact C.tk
  have hkids:=rf R (d:=(nd l t).doc) C.tk C.kk C.tp
  obtain⟨l1,hl1⟩:∃l1,cG l k (nd l t).doc=l1:=⟨_,rfl⟩
  have hlen:l1.length=l.length:=by rw[←hl1];exact ga ..
  have hst:cA l k t before=gV l1 k t before:=by unfold cA;rw[hl1]
  rw[hl1] at R1 hkids ⊢
  have hs1:=fm R1 (by omega)
  have hkl:(nd l1 t).kids.length≤60:=hs1.kids _ (bV (cK (by omega)))
  have hfin:∀i:Nat,nS (nd l1 t).kids before k=(nd l1 t).kids.take i++ (k:Int)::(nd l1 t).kids.drop i→cA l k t before=(l1.set t {nd l1 t with kids:=(nd l1 t).kids.take i++ [(k:Int)]++ (nd l1 t).kids.drop i}).set k {nd l1 k with parent:=(t:Int)}:=fun i hi=>by
    rw[hst]
    unfold gV oH
    rw[Int.toNat_natCast,Int.toNat_natCast]
    dsimp only
    rw[hi,List.append_assoc,List.singleton_append]
    congr 1
    have:nd (l1.set t {nd l1 t with kids:=(nd l1 t).kids.take i++ (k:Int)::(nd l1 t).kids.drop i}) k=nd l1 k:=cF (by rw[List.getElem?_set,if_neg (fun e=>hne' e.symm)];exact cK (by omega))
    rw[this]
  have hfk:∀i:Nat,nS (nd l1 t).kids before k=(nd l1 t).kids.take i++ (k:Int)::(nd l1 t).kids.drop i→(nd (cA l k t before) t).kids=(nd l1 t).kids.take i++ [(k:Int)]++ (nd l1 t).kids.drop i:=fun i hi=>by
    have:(cA l k t before)[t]? =some {nd l1 t with kids:=(nd l1 t).kids.take i++ [(k:Int)]++ (nd l1 t).kids.drop i}:=by
      rw[hfin i hi,List.getElem?_set,if_neg hne',List.getElem?_set,if_pos rfl,if_pos (by omega)]
    rw[cF this]
  have hcon:=Ca R' (by rw[fo];exact h60) htk
  have hels:=za R' (by rw[fo];exact h60) htk
  have hel:=(jC R' (by rw[fo];exact h60) htk).2
  have htold:(cU t before (l,ns) k).2=(jq (l,ns) k (nd l t).doc).2++ (if kY (cA l k t before) k=true then(zP ⟨cA l k t before,m⟩ k).map (di lJ) else[]):=by
    unfold cU
    simp only
    rw[iD _ m R' htk];rfl
  by_cases hb:before=-1
  · subst hb
    have hi:nS (nd l1 t).kids (-1) k=(nd l1 t).kids.take (nd l1 t).kids.length++ (k:Int)::(nd l1 t).kids.drop (nd l1 t).kids.length:=by
      rw[K4,List.take_length,List.drop_length]
    exact⟨_,_,_,_,Nat.le_refl _,fun _=>rfl,fun h=>absurd rfl h,by omega,hfin _ hi,hfk _ hi,hcon,hels,htold,by omega,by omega⟩
  · have hmem:before∈ (nd l1 t).kids:=by
      rw[hkids]
      have:=C.ab.resolve_left hb
      exact(List.mem_erase_of_ne this.1).2 this.2
    obtain⟨i,hi,hib,hno,h4,h5,_⟩:=j7 hmem
    have h73:=qY (nd l1 t).kids (by omega) before
    rw[gr hib (dG rfl) fun j x hj hx=>dy (hno j x hj hx)] at h73
    have hii:=Nh (k:=(k:Int)) hb h4 h5
    exact⟨i,_,_,_,by omega,fun h=>absurd h hb,fun _=>h73,by omega,hfin _ hii,hfk _ hii,hcon,hels,htold,by omega,by omega⟩
theorem mW (R:RF l m){k t x:Nat}{before:Int}(C:fE l k t before)(hx:x<l.length)(hxt:x≠t)(d:Int)(hd:d=(nd l t).doc):(nd (cA l k t before) x).kids=(nd (cG l k d) x).kids:=by
  subst hd
  have h1:=(gb R C x (gL hx)).2.2.1
  have h2:=(iQ R (d:=(nd l t).doc) C.tk C.kk x (gL hx)).2.2.1
  rw[h1,h2,if_neg (by omega)]
theorem D9 (R:RF l m)(h60:l.length≤60){a b k:Nat}{before:Int}(hab:b≠a)(ha:a<l.length)(C:fE l k b before)(hd:kR l (nd l b).doc 0=true)(hka:k≠a)(h:(nd l k).parent=-1∨(nd l k).parent=(a:Int)){ns:List aQ}(hns:ns.length≤70000):
    B7 m l.length a b before l ns (nd l a).kids (nd l b).kids k (cA l k b before) (cU b before (l,ns) k).2 (nd (cA l k b before) a).kids (nd (cA l k b before) b).kids:=by
  have hb:=cO C.tp
  have hk:=cO C.tk
  have hkb:k≠b:=fun e=>C.w (by rw[e];exact U.cI R.tree C.tp)
  obtain⟨i,conn,es,ex,e1,e2,e3,e4,e5,e6,e7,e8,e9,e10,e11⟩:=sS R h60 C hd ns hns
  have hov:=Dr R h60 hab ha hb hk (by omega:ns.length≤80000) h C.kk hd
  have hl:=ga l k (nd l b).doc
  have hkk:(nd (cG l k (nd l b).doc) b).kids=(nd l b).kids:=by
    rw[(iQ R (d:=(nd l b).doc) C.tk C.kk b C.tp).2.2.1]
    split
    · rename_i hpb
      rcases h with h|h
      ·rw[h] at hpb;omega
      ·rw[h] at hpb;omega
    ·rfl
  exact⟨k,rfl,nd l b,nd (cG l k (nd l b).doc) b,nd (cG l k (nd l b).doc) k,cG l k (nd l b).doc,(jq (l,ns) k (nd l b).doc).2,(nd (cG l k (nd l b).doc) a).kids,i,conn,es,ex,
    rfl,hl,cK hb,hov,cK (by omega),cK (by omega),hkk.symm,e1,e2,e3,e4,e5,⟨hkb,hka⟩,cP,cP,mW R C ha (fun e=>hab e.symm) _ rfl,e6,e7,e8,e9,e10,e11⟩
theorem JI (R:RF l m)(h60:l.length≤60){a b:Nat}{before:Int}(hab:b≠a)(C:fE l b a before)(hd:kR l (nd l a).doc 0=true)(h:(nd l b).parent=-1∨(nd l b).parent=(a:Int)){ns:List aQ}(hns:ns.length≤70000):
    GH m l.length a b before l ns (nd l a).kids (nd l b).kids b (cA l b a before) (cU a before (l,ns) b).2 (nd (cA l b a before) a).kids (nd (cA l b a before) b).kids:=by
  have ha:=cO C.tp
  have hb:=cO C.tk
  obtain⟨i,conn,es,ex,e1,e2,e3,e4,e5,e6,e7,e8,e9,e10,e11⟩:=sS R h60 C hd ns hns
  have hov:=Dr R h60 hab ha hb hb (by omega:ns.length≤80000) h C.kk hd
  have hl:=ga l b (nd l a).doc
  have hkk:(nd (cA l b a before) b).kids=(nd l b).kids:=by
    rw[mW R C hb hab _ rfl,(iQ R (d:=(nd l a).doc) C.tk C.kk b C.tk).2.2.1]
    split
    · rename_i hpb
      rcases h with h|h
      ·rw[h] at hpb;omega
      ·rw[h] at hpb;omega
    ·rfl
  exact⟨b,rfl,nd l a,nd (cG l b (nd l a).doc) a,nd (cG l b (nd l a).doc) b,cG l b (nd l a).doc,(jq (l,ns) b (nd l a).doc).2,(nd (cG l b (nd l a).doc) a).kids,i,conn,es,ex,
    rfl,hl,cK ha,hov,cK (by omega),cK (by omega),rfl,e1,e2,e3,e4,e5,rfl,cP,cP,e6,hkk,e7,e8,e9,e10,e11⟩
end
end Go.Proofs.Heir
namespace Go.Proofs.Heir
open Go Go.Am Go.RowKit Go.Lib
set_option maxRecDepth 100000
set_option maxHeartbeats 8000000
theorem OA {m:Int}{L a b n:Nat}{before:Int}{parts:List Int}{ls:Nat→List ai}{nss:Nat→List aQ}{kas kbs:Nat→List Int}{yn:ai}(hab:b≠a)(hpl:parts.length≤1000)(hl0:(ls 0).length=L)(hn:(ls 0)[n]? =some yn)(hkind:yn.kind≠3)
    (hka0:∀y,(ls 0)[a]? =some y→y.kids=kas 0) (hkb0:∀y,(ls 0)[b]? =some y→y.kids=kbs 0)
    (h27:aj Tryz.prog 27 [] [aR ⟨ls 0,m⟩,ah n] [aF parts] (.own 0 0 parts.length))
    (hr:∀j k,parts[j]? =some k→GH m L a b before (ls j) (nss j) (kas j) (kbs j) k (ls (j+1)) (nss (j+1)) (kas (j+1)) (kbs (j+1))):
    aj Tryz.prog 75 [aP m L 4 (.own 3 0 (nss 0).length),aF (kas 0),aF (kbs 0),aV (nss 0),aU (ls 0) a 1 b 2] [.ptr 0 0 0,ah n,ah a,ah before]
      [aP m L 4 (.own 7 0 (nss parts.length).length),.dead,.dead,.dead,aU (ls parts.length) a 5 b 6,aF (kas parts.length),aF (kbs parts.length),aV (nss parts.length)] (.tup []):=by
  have hnl:=(bj hn).1
  have t27:=nQ (m:=m) (ex:=[]) (rest:=[ah n]) hka0 hkb0 (by rw[List.append_nil];exact h27) rfl
  rw[List.append_nil] at t27
  rw[hl0] at t27
  obtain⟨q,hq⟩:=iL a 1 b 2 n yn
  have g0:(aT (ls 0) a 1 b 2)[n]? =some (AS yn q):=by rw[cT hn,hq yn rfl]
  have hgp:∀ (j:Nat) (k:Int),parts[j]? =some k→(parts.map bt)[j]? =some (ah k):=fun j k h=>jL h
  have fk:=eq_false hkind
  obtain⟨x1,x2,x3,x4,x5,x6,x7,x8,x9,x10⟩:=yn
  dsimp only at g0 fk hkind
  refine aj.eR [(5,201),(6,202),(7,203)] (rvs:=[]) G au Tryz.func75 rfl Tryz.ntmps75 rfl rfl ?_;with_reducible refine wD ?_
  (have fct:=fk;(repeat' (first
    |refine gF ?_
    | ((first
      |((with_reducible show eY _ _ _ _ _);refine eY.mk n rfl (by first|exact hnl|omega) ?_)
      |((with_reducible show bh _ _ _ _ _);refine bh.mk _ (by first|exact g0|(rw[Nat.zero_add];exact g0)) ?_)
      |((with_reducible show ae _ _ 27 _ _ _ _);refine ae.dx (news:=[aU (ls 0) a 1 b 2,aF (kas 0),aF (kbs 0),aF parts]) [4,1,2,191] [] t27 Jd ⟨⟨⟨rfl,rfl⟩,rfl,trivial⟩,rfl,trivial⟩ ⟨⟨rfl,bK (fun _=>rfl) (fun _=>rfl)⟩,⟨rfl,.inl ⟨rfl,aa _⟩⟩,⟨rfl,.inl ⟨rfl,aa _⟩⟩,trivial⟩ rfl ⟨⟨rfl,rfl⟩,rfl⟩ rfl ⟨⟨rfl,bF rfl rfl (by decide) (by decide)⟩,⟨rfl,.inl ⟨rfl,aa _⟩⟩,⟨rfl,.inl ⟨rfl,aa _⟩⟩,⟨rfl,.inl ⟨rfl,aa _⟩⟩,trivial⟩ rfl rfl ?_)
      |((with_reducible show aI _ _ _ _);refine dK ?_))<;>with_reducible refine wK ?_)
    |((with_reducible show(_∧_)∧_∧_);(refine eK ?_ ?_<;>with_reducible repeat' (first|exact trivial|(show _∧_;refine aK ?_ ?_))))));all_goals clear fct)
  refine bW.Gw G au (fun(j:Nat)=>[(0,.ptr 0 0 0),(2,ah a),(3,ah before),(40,.own 191 0 parts.length),(41,ah parts.length),(42,ah j)])
    (fun j=>[(0,aP m L 4 (.own 203 0 (nss j).length)),(1,.dead),(2,.dead),(3,.dead),(4,aU (ls j) a 201 b 202),(201,aF (kas j)),(202,aF (kbs j)),(203,aV (nss j)),(191,aF parts)])
    (fun j=>j≤parts.length) (fun j=>parts.length-j) 0 [(201,1),(202,2),(203,3)] (Nat.zero_le _) ?_ ?_
  · (refine fK ?_;(with_reducible repeat' (first|exact trivial|(show _∧_;refine aK ?_ ?_)));(all_goals try rfl))
    all_goals first
      |exact⟨.refl (aa _),aa _⟩
      |exact⟨.refl (aq _),aq _⟩
      |exact bB (fun _=>rfl) (fun _=>rfl)
      |trace_state
  intro j hj
  with_reducible refine wK ?_
  refine bq.mk (fun h1=>?_) (fun h1=>?_)<;>(try simp only[az] at h1)<;>with_reducible refine wK ?_
  · have hjl:j<parts.length:=by simp only[bE,az] at h1;omega
    obtain⟨k0,hk0⟩:∃k,parts[j]? =some k:=⟨_,bA hjl⟩
    have R:=hr j k0 hk0
    have hgk:=hgp _ _ hk0
    obtain⟨l',hl'⟩:∃x,ls (j+1)=x:=⟨_,rfl⟩
    obtain⟨ns',hn'⟩:∃x,nss (j+1)=x:=⟨_,rfl⟩
    obtain⟨ka',hka'⟩:∃x,kas (j+1)=x:=⟨_,rfl⟩
    obtain⟨kb',hkb'⟩:∃x,kbs (j+1)=x:=⟨_,rfl⟩
    rw[hl',hn',hka',hkb'] at R
    obtain⟨k,hkk,y0,y1,yk,l1,n1,k1,i,conn,es,ex,R⟩:=R
    subst hkk
    generalize ls j=l at*
    generalize nss j=ns at*
    generalize kas j=ka at*
    generalize kbs j=kb at*
    obtain⟨rl,rl1,r0,rover,r1,rk,rkids,ri,rend,ridx,rsm,rnxt,rne,rka,rkb,rca,rcb,rcon,rels,rtold,rn1,res⟩:=R
    have hbl:=(bj r0).1
    have hbl1:=(bj r1).1
    have hkl1:=(bj rk).1
    subst rne
    have e0:(aT l a 201 k 202)[a]? =some (eo y0 201):=Er r0
    have e1:(aT l1 a 211 k 202)[a]? =some (eo y1 211):=Er r1
    have e2:∀x,((aT l1 a 211 k 202).set (0+a) x)[0+k]? =some (eo yk 202):=fun x=>by rw[Nat.zero_add,Nat.zero_add,List.getElem?_set,if_neg (fun e=>hab e.symm)];exact uF rk hab
    obtain⟨k3,hk3⟩:∃k3,k3=y1.kids.take i++ [(k:Int)]++y1.kids.drop i:=⟨_,rfl⟩
    have hrow:((aT l1 a 211 k 202).set (0+a) (dV {y1 with kids:=k3} 299)).set (0+k) (dV {yk with parent:=(a:Int)} 202)=aT l' a 299 k 202:=by
      rw[rnxt,←hk3,Nat.zero_add,Nat.zero_add,qc _ hbl1,vG _ (by rw[List.length_set];exact hkl1) hab]
    rw[←hk3] at rca
    have h140:=pW (rows:=y1.kids.map bt) (fA y1.kids) i (k:Int) (by simpa using ri) (by simp;omega)
    rw[bN,←List.map_take,←List.map_drop,show[ah (k:Int)]=[(k:Int)].map bt from rfl,←iR,←iR,←hk3,show y1.kids.length+1=k3.length by rw[hk3];simp;omega] at h140
    have t73:=fun h=>nT (rest:=[ah before]) (ridx h) rfl rfl
    have rl':l'.length=L:=by rw[rnxt,List.length_set,List.length_set,rl1]
    have t35:=n3 (rest:=[ah (k:Int)]) rka rkb rcon rfl rfl
    have t141:=rG (m:=m) (n:=(k:Int)) (ns:=n1) (x:=lJ) rka rkb res rn1 rels
    rw[rl'] at t35 t141
    rw[rca] at t35 t141
    rw[rcb] at t35 t141
    have hkL:k<L:=by rw[←rl1];exact hkl1
    have htL:a<L:=by rw[←rl1];exact hbl1
    obtain⟨z1,z2,z3,z4,z5,z6,z7,z8,z9,z10⟩:=y0
    obtain⟨p1,p2,p3,p4,p5,p6,p7,p8,p9,p10⟩:=y1
    obtain⟨q1,q2,q3,q4,q5,q6,q7,q8,q9,q10⟩:=yk
    dsimp only at rkids ri rend ridx rsm h140 t73 hrow rover hk3
    subst rkids
    (have fct:=rend;(repeat' (first
    |refine pF ?_
    | ((first
      |((with_reducible show bq _ _ _ _);(refine bq.mk (fun hp=>?_) (fun hp=>?_)<;>(try simp only[az,bE,c9,Bool.not_eq_true',Bool.not_eq_false',Decidable.not_not,Int.not_lt,Int.not_le] at hp)))
      |((with_reducible show eY _ _ _ _ _);first|refine eY.mk j rfl (by first|exact hjl|omega) ?_|refine eY.mk a rfl (by first|exact htL|omega) ?_|refine eY.mk k rfl (by first|exact hkL|omega) ?_)
      |((with_reducible show bh _ _ _ _ _);first|refine bh.mk (ah (k:Int)) (by first|exact hgk|(rw[Nat.zero_add];exact hgk)) ?_|refine bh.mk _ (by first|exact e0|exact e1|exact e2 _|(rw[Nat.zero_add];first|exact e0|exact e1)) ?_)
      |((with_reducible show ae _ _ 139 _ _ _ _);refine ae.dx (news:=[aP m L 4 (.own 213 0 n1.length),.dead,aF kb,.dead,aU l1 a 211 k 202,aF k1,aV n1]) [0,201,202,203,4,211,213] [] rover JH ⟨⟨rfl,rfl⟩,rfl,rfl,trivial⟩ ⟨⟨rfl,.inr ⟨⟨⟨⟨rfl,rfl⟩,rfl,⟨rfl,rfl⟩,trivial⟩,trivial⟩,rfl⟩⟩,⟨rfl,.inl ⟨rfl,aa _⟩⟩,⟨rfl,.inl ⟨rfl,aa _⟩⟩,⟨rfl,.inl ⟨rfl,aq _⟩⟩,⟨rfl,bK (fun _=>rfl) (fun _=>rfl)⟩,trivial⟩ rfl ⟨⟨rfl,rfl⟩,rfl⟩ rfl ⟨⟨rfl,.inr ⟨rfl,rfl,rfl⟩⟩,⟨rfl,.inl ⟨rfl,aa _⟩⟩,⟨rfl,bF rfl rfl (by decide) (by decide)⟩,⟨rfl,.inl ⟨rfl,aa _⟩⟩,⟨rfl,.inl ⟨rfl,aq _⟩⟩,trivial⟩ rfl rfl ?_)
      |((with_reducible show ae _ _ 73 _ _ _ _);refine ae.dx (news:=[aF k1]) [211] [] (t73 (by assumption)) Jc ⟨⟨rfl,rfl⟩,rfl,trivial⟩ ⟨⟨rfl,.inl ⟨rfl,aa _⟩⟩,trivial⟩ rfl ⟨⟨rfl,rfl⟩,rfl⟩ rfl ⟨⟨rfl,.inl ⟨rfl,aa _⟩⟩,trivial⟩ rfl rfl ?_)
      |((with_reducible show ae _ _ 140 _ _ _ _);refine ae.dx (news:=[.dead,.live 1 [ah (k:Int)] false,aF k3]) [211,981,299] [] h140 IA ⟨⟨rfl,rfl⟩,by first|rfl|(show(i:Int)=(k1.length:Int);have:=rend (by assumption);omega),⟨rfl,rfl⟩,trivial⟩ ⟨⟨rfl,.inl ⟨rfl,aa _⟩⟩,⟨rfl,.inl ⟨rfl,rfl⟩⟩,trivial⟩ rfl ⟨⟨rfl,rfl⟩,rfl⟩ rfl ⟨⟨rfl,.inl ⟨rfl,rfl⟩⟩,⟨rfl,.inl ⟨rfl,aa _⟩⟩,trivial⟩ rfl rfl ?_)
      |((with_reducible show ae _ _ 35 _ _ _ _);refine ae.dx (news:=[aU l' a 299 k 202,aF k3,aF kb]) [4,299,202] [] t35 Lm ⟨⟨⟨rfl,rfl⟩,rfl,trivial⟩,rfl,trivial⟩ ⟨⟨rfl,cast (congrArg (vi _ _ _ _) hrow.symm) (bK (fun _=>rfl) (fun _=>rfl))⟩,⟨rfl,.inl ⟨rfl,aa _⟩⟩,⟨rfl,.inl ⟨rfl,aa _⟩⟩,trivial⟩ rfl ⟨⟨rfl,rfl⟩,rfl⟩ rfl ⟨⟨rfl,bF rfl rfl (by decide) (by decide)⟩,⟨rfl,.inl ⟨rfl,aa _⟩⟩,⟨rfl,.inl ⟨rfl,aa _⟩⟩,trivial⟩ rfl rfl ?_)
      |((with_reducible show ae _ _ 141 _ _ _ _);refine ae.dx (news:=[aP m L 4 (.own 223 0 (n1.length+es.length)),aF k3,aF kb,.dead,aU l' a 299 k 202,aV (n1++es.map (di lJ))]) [0,299,202,213,4,223] [] t141 CZ ⟨⟨rfl,rfl⟩,rfl,⟨rfl,rfl,rfl,rfl,rfl,rfl,rfl,rfl,rfl,trivial⟩,trivial⟩ ⟨⟨rfl,.inr ⟨⟨⟨⟨rfl,rfl⟩,rfl,⟨rfl,rfl⟩,trivial⟩,trivial⟩,rfl⟩⟩,⟨rfl,.inl ⟨rfl,aa _⟩⟩,⟨rfl,.inl ⟨rfl,aa _⟩⟩,⟨rfl,.inl ⟨rfl,aq _⟩⟩,⟨rfl,bK (fun _=>rfl) (fun _=>rfl)⟩,trivial⟩ rfl ⟨⟨rfl,rfl⟩,rfl⟩ rfl ⟨⟨rfl,.inr ⟨rfl,rfl,rfl⟩⟩,⟨rfl,.inl ⟨rfl,aa _⟩⟩,⟨rfl,.inl ⟨rfl,aa _⟩⟩,⟨rfl,bF rfl rfl (by decide) (by decide)⟩,⟨rfl,.inl ⟨rfl,aq _⟩⟩,trivial⟩ rfl rfl ?_)
      |((with_reducible show aI _ _ _ _);refine dK ?_))<;>with_reducible refine wK ?_)
    |((with_reducible show(_∧_)∧_∧_);(refine eK ?_ ?_<;>with_reducible repeat' (first|exact trivial|(show _∧_;refine aK ?_ ?_))))));all_goals clear fct)
    all_goals (first
      | (cases hp
         have ht:ns'=n1++es.map (di lJ):=rtold
         refine nq.mk (j+1) [(201,299),(202,202),(203,223)] (by omega) (by omega) ?_
         rw[hl',hn',hka',hkb',rca,rcb,ht,jz,bN])
      | (cases hp
         have ht:ns'=n1++ []:=rtold
         rw[List.append_nil] at ht
         refine nq.mk (j+1) [(201,299),(202,202),(203,213)] (by omega) (by omega) ?_
         rw[hl',hn',hka',hkb',rca,rcb,ht])
      |trace_state)
    all_goals (refine fK ?_;(with_reducible repeat' (first|exact trivial|(show _∧_;refine aK ?_ ?_)));(all_goals try rfl))
    all_goals first
      |exact⟨.refl (aa _),aa _⟩
      |exact⟨.refl (aq _),aq _⟩
      |exact bB (fun _=>rfl) (fun _=>rfl)
      |trace_state
  · obtain rfl:j=parts.length:=by simp only[c9,az] at h1;omega
    repeat' (first
    |refine gK ?_
    |(((with_reducible show aI _ _ _ _);refine dK ?_)<;>with_reducible refine wK ?_)
    |((with_reducible show(_∧_)∧_∧_);(refine eK ?_ ?_<;>with_reducible repeat' (first|exact trivial|(show _∧_;refine aK ?_ ?_)))))
    all_goals first
      |exact⟨.refl (aa _),aa _⟩
      |exact⟨.refl (aq _),aq _⟩
      |exact bB (fun _=>rfl) (fun _=>rfl)
      |trace_state
theorem NF {m:Int}{L a b n:Nat}{before:Int}{parts:List Int}{ls:Nat→List ai}{nss:Nat→List aQ}{kas kbs:Nat→List Int}{yn:ai}(hab:b≠a)(hpl:parts.length≤1000)(hl0:(ls 0).length=L)(hn:(ls 0)[n]? =some yn)(hkind:yn.kind≠3)
    (hka0:∀y,(ls 0)[a]? =some y→y.kids=kas 0) (hkb0:∀y,(ls 0)[b]? =some y→y.kids=kbs 0)
    (h27:aj Tryz.prog 27 [] [aR ⟨ls 0,m⟩,ah n] [aF parts] (.own 0 0 parts.length))
    (hr:∀j k,parts[j]? =some k→B7 m L a b before (ls j) (nss j) (kas j) (kbs j) k (ls (j+1)) (nss (j+1)) (kas (j+1)) (kbs (j+1))):
    aj Tryz.prog 75 [aP m L 4 (.own 3 0 (nss 0).length),aF (kas 0),aF (kbs 0),aV (nss 0),aU (ls 0) a 1 b 2] [.ptr 0 0 0,ah n,ah b,ah before]
      [aP m L 4 (.own 7 0 (nss parts.length).length),.dead,.dead,.dead,aU (ls parts.length) a 5 b 6,aF (kas parts.length),aF (kbs parts.length),aV (nss parts.length)] (.tup []):=by
  have hnl:=(bj hn).1
  have t27:=nQ (m:=m) (ex:=[]) (rest:=[ah n]) hka0 hkb0 (by rw[List.append_nil];exact h27) rfl
  rw[List.append_nil] at t27
  rw[hl0] at t27
  obtain⟨q,hq⟩:=iL a 1 b 2 n yn
  have g0:(aT (ls 0) a 1 b 2)[n]? =some (AS yn q):=by rw[cT hn,hq yn rfl]
  have hgp:∀ (j:Nat) (k:Int),parts[j]? =some k→(parts.map bt)[j]? =some (ah k):=fun j k h=>jL h
  have fk:=eq_false hkind
  obtain⟨x1,x2,x3,x4,x5,x6,x7,x8,x9,x10⟩:=yn
  dsimp only at g0 fk hkind
  refine aj.eR [(5,201),(6,202),(7,203)] (rvs:=[]) G au Tryz.func75 rfl Tryz.ntmps75 rfl rfl ?_;with_reducible refine wD ?_
  (have fct:=fk;(repeat' (first
    |refine gF ?_
    | ((first
      |((with_reducible show eY _ _ _ _ _);refine eY.mk n rfl (by first|exact hnl|omega) ?_)
      |((with_reducible show bh _ _ _ _ _);refine bh.mk _ (by first|exact g0|(rw[Nat.zero_add];exact g0)) ?_)
      |((with_reducible show ae _ _ 27 _ _ _ _);refine ae.dx (news:=[aU (ls 0) a 1 b 2,aF (kas 0),aF (kbs 0),aF parts]) [4,1,2,191] [] t27 Jd ⟨⟨⟨rfl,rfl⟩,rfl,trivial⟩,rfl,trivial⟩ ⟨⟨rfl,bK (fun _=>rfl) (fun _=>rfl)⟩,⟨rfl,.inl ⟨rfl,aa _⟩⟩,⟨rfl,.inl ⟨rfl,aa _⟩⟩,trivial⟩ rfl ⟨⟨rfl,rfl⟩,rfl⟩ rfl ⟨⟨rfl,bF rfl rfl (by decide) (by decide)⟩,⟨rfl,.inl ⟨rfl,aa _⟩⟩,⟨rfl,.inl ⟨rfl,aa _⟩⟩,⟨rfl,.inl ⟨rfl,aa _⟩⟩,trivial⟩ rfl rfl ?_)
      |((with_reducible show aI _ _ _ _);refine dK ?_))<;>with_reducible refine wK ?_)
    |((with_reducible show(_∧_)∧_∧_);(refine eK ?_ ?_<;>with_reducible repeat' (first|exact trivial|(show _∧_;refine aK ?_ ?_))))));all_goals clear fct)
  refine bW.Gw G au (fun(j:Nat)=>[(0,.ptr 0 0 0),(2,ah b),(3,ah before),(40,.own 191 0 parts.length),(41,ah parts.length),(42,ah j)])
    (fun j=>[(0,aP m L 4 (.own 203 0 (nss j).length)),(1,.dead),(2,.dead),(3,.dead),(4,aU (ls j) a 201 b 202),(201,aF (kas j)),(202,aF (kbs j)),(203,aV (nss j)),(191,aF parts)])
    (fun j=>j≤parts.length) (fun j=>parts.length-j) 0 [(201,1),(202,2),(203,3)] (Nat.zero_le _) ?_ ?_
  · (refine fK ?_;(with_reducible repeat' (first|exact trivial|(show _∧_;refine aK ?_ ?_)));(all_goals try rfl))
    all_goals first
      |exact⟨.refl (aa _),aa _⟩
      |exact⟨.refl (aq _),aq _⟩
      |exact bB (fun _=>rfl) (fun _=>rfl)
      |trace_state
  intro j hj
  with_reducible refine wK ?_
  refine bq.mk (fun h1=>?_) (fun h1=>?_)<;>(try simp only[az] at h1)<;>with_reducible refine wK ?_
  · have hjl:j<parts.length:=by simp only[bE,az] at h1;omega
    obtain⟨k0,hk0⟩:∃k,parts[j]? =some k:=⟨_,bA hjl⟩
    have R:=hr j k0 hk0
    have hgk:=hgp _ _ hk0
    obtain⟨l',hl'⟩:∃x,ls (j+1)=x:=⟨_,rfl⟩
    obtain⟨ns',hn'⟩:∃x,nss (j+1)=x:=⟨_,rfl⟩
    obtain⟨ka',hka'⟩:∃x,kas (j+1)=x:=⟨_,rfl⟩
    obtain⟨kb',hkb'⟩:∃x,kbs (j+1)=x:=⟨_,rfl⟩
    rw[hl',hn',hka',hkb'] at R
    obtain⟨k,hkk,y0,y1,yk,l1,n1,k1,i,conn,es,ex,R⟩:=R
    subst hkk
    generalize ls j=l at*
    generalize nss j=ns at*
    generalize kas j=ka at*
    generalize kbs j=kb at*
    obtain⟨rl,rl1,r0,rover,r1,rk,rkids,ri,rend,ridx,rsm,rnxt,rne,rka,rkb,rca,rcb,rcon,rels,rtold,rn1,res⟩:=R
    have hbl:=(bj r0).1
    have hbl1:=(bj r1).1
    have hkl1:=(bj rk).1
    obtain⟨hkb,hkna⟩:=rne
    have e0:(aT l a 201 b 202)[b]? =some (eo y0 202):=uF r0 hab
    have e1:(aT l1 a 211 b 202)[b]? =some (eo y1 202):=uF r1 hab
    have e2:∀x,((aT l1 a 211 b 202).set (0+b) x)[0+k]? =some (aL yk):=fun x=>by rw[Nat.zero_add,Nat.zero_add,List.getElem?_set,if_neg (fun e=>hkb e.symm)];exact GD rk hkna hkb
    obtain⟨k3,hk3⟩:∃k3,k3=y1.kids.take i++ [(k:Int)]++y1.kids.drop i:=⟨_,rfl⟩
    have hrow:((aT l1 a 211 b 202).set (0+b) (dV {y1 with kids:=k3} 299)).set (0+k) (bM {yk with parent:=(b:Int)})=aT l' a 211 b 299:=by
      rw[rnxt,←hk3,Nat.zero_add,Nat.zero_add,s6 _ hbl1 hab,o6 _ (by rw[List.length_set];exact hkl1) hkna hkb]
    rw[←hk3] at rcb
    have h140:=pW (rows:=y1.kids.map bt) (fA y1.kids) i (k:Int) (by simpa using ri) (by simp;omega)
    rw[bN,←List.map_take,←List.map_drop,show[ah (k:Int)]=[(k:Int)].map bt from rfl,←iR,←iR,←hk3,show y1.kids.length+1=k3.length by rw[hk3];simp;omega] at h140
    have t73:=fun h=>nT (rest:=[ah before]) (ridx h) rfl rfl
    have rl':l'.length=L:=by rw[rnxt,List.length_set,List.length_set,rl1]
    have t35:=n3 (rest:=[ah (k:Int)]) rka rkb rcon rfl rfl
    have t141:=rG (m:=m) (n:=(k:Int)) (ns:=n1) (x:=lJ) rka rkb res rn1 rels
    rw[rl'] at t35 t141
    rw[rca] at t35 t141
    rw[rcb] at t35 t141
    have hkL:k<L:=by rw[←rl1];exact hkl1
    have htL:b<L:=by rw[←rl1];exact hbl1
    obtain⟨z1,z2,z3,z4,z5,z6,z7,z8,z9,z10⟩:=y0
    obtain⟨p1,p2,p3,p4,p5,p6,p7,p8,p9,p10⟩:=y1
    obtain⟨q1,q2,q3,q4,q5,q6,q7,q8,q9,q10⟩:=yk
    dsimp only at rkids ri rend ridx rsm h140 t73 hrow rover hk3
    subst rkids
    (have fct:=rend;(repeat' (first
    |refine pF ?_
    | ((first
      |((with_reducible show bq _ _ _ _);(refine bq.mk (fun hp=>?_) (fun hp=>?_)<;>(try simp only[az,bE,c9,Bool.not_eq_true',Bool.not_eq_false',Decidable.not_not,Int.not_lt,Int.not_le] at hp)))
      |((with_reducible show eY _ _ _ _ _);first|refine eY.mk j rfl (by first|exact hjl|omega) ?_|refine eY.mk b rfl (by first|exact htL|omega) ?_|refine eY.mk k rfl (by first|exact hkL|omega) ?_)
      |((with_reducible show bh _ _ _ _ _);first|refine bh.mk (ah (k:Int)) (by first|exact hgk|(rw[Nat.zero_add];exact hgk)) ?_|refine bh.mk _ (by first|exact e0|exact e1|exact e2 _|(rw[Nat.zero_add];first|exact e0|exact e1)) ?_)
      |((with_reducible show ae _ _ 139 _ _ _ _);refine ae.dx (news:=[aP m L 4 (.own 213 0 n1.length),.dead,aF kb,.dead,aU l1 a 211 b 202,aF k1,aV n1]) [0,201,202,203,4,211,213] [] rover JH ⟨⟨rfl,rfl⟩,rfl,rfl,trivial⟩ ⟨⟨rfl,.inr ⟨⟨⟨⟨rfl,rfl⟩,rfl,⟨rfl,rfl⟩,trivial⟩,trivial⟩,rfl⟩⟩,⟨rfl,.inl ⟨rfl,aa _⟩⟩,⟨rfl,.inl ⟨rfl,aa _⟩⟩,⟨rfl,.inl ⟨rfl,aq _⟩⟩,⟨rfl,bK (fun _=>rfl) (fun _=>rfl)⟩,trivial⟩ rfl ⟨⟨rfl,rfl⟩,rfl⟩ rfl ⟨⟨rfl,.inr ⟨rfl,rfl,rfl⟩⟩,⟨rfl,.inl ⟨rfl,aa _⟩⟩,⟨rfl,bF rfl rfl (by decide) (by decide)⟩,⟨rfl,.inl ⟨rfl,aa _⟩⟩,⟨rfl,.inl ⟨rfl,aq _⟩⟩,trivial⟩ rfl rfl ?_)
      |((with_reducible show ae _ _ 73 _ _ _ _);refine ae.dx (news:=[aF kb]) [202] [] (t73 (by assumption)) Jc ⟨⟨rfl,rfl⟩,rfl,trivial⟩ ⟨⟨rfl,.inl ⟨rfl,aa _⟩⟩,trivial⟩ rfl ⟨⟨rfl,rfl⟩,rfl⟩ rfl ⟨⟨rfl,.inl ⟨rfl,aa _⟩⟩,trivial⟩ rfl rfl ?_)
      |((with_reducible show ae _ _ 140 _ _ _ _);refine ae.dx (news:=[.dead,.live 1 [ah (k:Int)] false,aF k3]) [202,981,299] [] h140 IA ⟨⟨rfl,rfl⟩,by first|rfl|(show(i:Int)=(kb.length:Int);have:=rend (by assumption);omega),⟨rfl,rfl⟩,trivial⟩ ⟨⟨rfl,.inl ⟨rfl,aa _⟩⟩,⟨rfl,.inl ⟨rfl,rfl⟩⟩,trivial⟩ rfl ⟨⟨rfl,rfl⟩,rfl⟩ rfl ⟨⟨rfl,.inl ⟨rfl,rfl⟩⟩,⟨rfl,.inl ⟨rfl,aa _⟩⟩,trivial⟩ rfl rfl ?_)
      |((with_reducible show ae _ _ 35 _ _ _ _);refine ae.dx (news:=[aU l' a 211 b 299,aF k1,aF k3]) [4,211,299] [] t35 Lm ⟨⟨⟨rfl,rfl⟩,rfl,trivial⟩,rfl,trivial⟩ ⟨⟨rfl,cast (congrArg (vi _ _ _ _) hrow.symm) (bK (fun _=>rfl) (fun _=>rfl))⟩,⟨rfl,.inl ⟨rfl,aa _⟩⟩,⟨rfl,.inl ⟨rfl,aa _⟩⟩,trivial⟩ rfl ⟨⟨rfl,rfl⟩,rfl⟩ rfl ⟨⟨rfl,bF rfl rfl (by decide) (by decide)⟩,⟨rfl,.inl ⟨rfl,aa _⟩⟩,⟨rfl,.inl ⟨rfl,aa _⟩⟩,trivial⟩ rfl rfl ?_)
      |((with_reducible show ae _ _ 141 _ _ _ _);refine ae.dx (news:=[aP m L 4 (.own 223 0 (n1.length+es.length)),aF k1,aF k3,.dead,aU l' a 211 b 299,aV (n1++es.map (di lJ))]) [0,211,299,213,4,223] [] t141 CZ ⟨⟨rfl,rfl⟩,rfl,⟨rfl,rfl,rfl,rfl,rfl,rfl,rfl,rfl,rfl,trivial⟩,trivial⟩ ⟨⟨rfl,.inr ⟨⟨⟨⟨rfl,rfl⟩,rfl,⟨rfl,rfl⟩,trivial⟩,trivial⟩,rfl⟩⟩,⟨rfl,.inl ⟨rfl,aa _⟩⟩,⟨rfl,.inl ⟨rfl,aa _⟩⟩,⟨rfl,.inl ⟨rfl,aq _⟩⟩,⟨rfl,bK (fun _=>rfl) (fun _=>rfl)⟩,trivial⟩ rfl ⟨⟨rfl,rfl⟩,rfl⟩ rfl ⟨⟨rfl,.inr ⟨rfl,rfl,rfl⟩⟩,⟨rfl,.inl ⟨rfl,aa _⟩⟩,⟨rfl,.inl ⟨rfl,aa _⟩⟩,⟨rfl,bF rfl rfl (by decide) (by decide)⟩,⟨rfl,.inl ⟨rfl,aq _⟩⟩,trivial⟩ rfl rfl ?_)
      |((with_reducible show aI _ _ _ _);refine dK ?_))<;>with_reducible refine wK ?_)
    |((with_reducible show(_∧_)∧_∧_);(refine eK ?_ ?_<;>with_reducible repeat' (first|exact trivial|(show _∧_;refine aK ?_ ?_))))));all_goals clear fct)
    all_goals (first
      | (cases hp
         have ht:ns'=n1++es.map (di lJ):=rtold
         refine nq.mk (j+1) [(201,211),(202,299),(203,223)] (by omega) (by omega) ?_
         rw[hl',hn',hka',hkb',rca,rcb,ht,jz,bN])
      | (cases hp
         have ht:ns'=n1++ []:=rtold
         rw[List.append_nil] at ht
         refine nq.mk (j+1) [(201,211),(202,299),(203,213)] (by omega) (by omega) ?_
         rw[hl',hn',hka',hkb',rca,rcb,ht])
      |trace_state)
    all_goals (refine fK ?_;(with_reducible repeat' (first|exact trivial|(show _∧_;refine aK ?_ ?_)));(all_goals try rfl))
    all_goals first
      |exact⟨.refl (aa _),aa _⟩
      |exact⟨.refl (aq _),aq _⟩
      |exact bB (fun _=>rfl) (fun _=>rfl)
      |trace_state
  · obtain rfl:j=parts.length:=by simp only[c9,az] at h1;omega
    repeat' (first
    |refine gK ?_
    |(((with_reducible show aI _ _ _ _);refine dK ?_)<;>with_reducible refine wK ?_)
    |((with_reducible show(_∧_)∧_∧_);(refine eK ?_ ?_<;>with_reducible repeat' (first|exact trivial|(show _∧_;refine aK ?_ ?_)))))
    all_goals first
      |exact⟨.refl (aa _),aa _⟩
      |exact⟨.refl (aq _),aq _⟩
      |exact bB (fun _=>rfl) (fun _=>rfl)
      |trace_state
theorem NC {m:Int}{L a b n:Nat}{before:Int}{parts:List Int}{us:Nat→List ai}{uns:Nat→List aQ}{uka:Nat→List Int}{ls:Nat→List ai}{nss:Nat→List aQ}{kas kbs:Nat→List Int}{yn:ai}(hab:b≠a)(hpl:parts.length≤1000)(hl0:(us 0).length=L)(hn:(us 0)[n]? =some yn)(hkind:yn.kind=3)
    (hka0:∀y,(us 0)[a]? =some y→y.kids=uka 0) (hkb0:∀y,(us 0)[b]? =some y→y.kids=kbs 0)
    (h27:aj Tryz.prog 27 [] [aR ⟨us 0,m⟩,ah n] [aF parts] (.own 0 0 parts.length))
    (hu:∀j k,parts[j]? =some k→aj Tryz.prog 79 [aP m L 4 (.own 3 0 (uns j).length),aF (uka j),aF (kbs 0),aV (uns j),aU (us j) a 1 b 2] [.ptr 0 0 0,ah k] [aP m L 4 (.own 6 0 (uns (j+1)).length),.dead,aF (kbs 0),.dead,aU (us (j+1)) a 5 b 2,aF (uka (j+1)),aV (uns (j+1))] (.tup []))
    (hls:ls 0=us parts.length) (hns:nss 0=uns parts.length) (hks:kas 0=uka parts.length)
    (hr:∀j k,parts[j]? =some k→B7 m L a b before (ls j) (nss j) (kas j) (kbs j) k (ls (j+1)) (nss (j+1)) (kas (j+1)) (kbs (j+1))):
    aj Tryz.prog 75 [aP m L 4 (.own 3 0 (uns 0).length),aF (uka 0),aF (kbs 0),aV (uns 0),aU (us 0) a 1 b 2] [.ptr 0 0 0,ah n,ah b,ah before]
      [aP m L 4 (.own 7 0 (nss parts.length).length),.dead,.dead,.dead,aU (ls parts.length) a 5 b 6,aF (kas parts.length),aF (kbs parts.length),aV (nss parts.length)] (.tup []):=by
  have hnl:=(bj hn).1
  have t27:=nQ (m:=m) (ex:=[]) (rest:=[ah n]) hka0 hkb0 (by rw[List.append_nil];exact h27) rfl
  rw[List.append_nil] at t27
  rw[hl0] at t27
  obtain⟨q,hq⟩:=iL a 1 b 2 n yn
  have g0:(aT (us 0) a 1 b 2)[n]? =some (AS yn q):=by rw[cT hn,hq yn rfl]
  have hgp:∀ (j:Nat) (k:Int),parts[j]? =some k→(parts.map bt)[j]? =some (ah k):=fun j k h=>jL h
  have fk:=eq_true hkind
  obtain⟨x1,x2,x3,x4,x5,x6,x7,x8,x9,x10⟩:=yn
  dsimp only at g0 fk hkind
  refine aj.eR [(5,201),(6,202),(7,203)] (rvs:=[]) G au Tryz.func75 rfl Tryz.ntmps75 rfl rfl ?_;with_reducible refine wD ?_
  (have fct:=fk;(repeat' (first
    |refine gF ?_
    | ((first
      |((with_reducible show eY _ _ _ _ _);refine eY.mk n rfl (by first|exact hnl|omega) ?_)
      |((with_reducible show bh _ _ _ _ _);refine bh.mk _ (by first|exact g0|(rw[Nat.zero_add];exact g0)) ?_)
      |((with_reducible show ae _ _ 27 _ _ _ _);refine ae.dx (news:=[aU (us 0) a 1 b 2,aF (uka 0),aF (kbs 0),aF parts]) [4,1,2,191] [] t27 Jd ⟨⟨⟨rfl,rfl⟩,rfl,trivial⟩,rfl,trivial⟩ ⟨⟨rfl,bK (fun _=>rfl) (fun _=>rfl)⟩,⟨rfl,.inl ⟨rfl,aa _⟩⟩,⟨rfl,.inl ⟨rfl,aa _⟩⟩,trivial⟩ rfl ⟨⟨rfl,rfl⟩,rfl⟩ rfl ⟨⟨rfl,bF rfl rfl (by decide) (by decide)⟩,⟨rfl,.inl ⟨rfl,aa _⟩⟩,⟨rfl,.inl ⟨rfl,aa _⟩⟩,⟨rfl,.inl ⟨rfl,aa _⟩⟩,trivial⟩ rfl rfl ?_)
      |((with_reducible show aI _ _ _ _);refine dK ?_))<;>with_reducible refine wK ?_)
    |((with_reducible show(_∧_)∧_∧_);(refine eK ?_ ?_<;>with_reducible repeat' (first|exact trivial|(show _∧_;refine aK ?_ ?_))))));all_goals clear fct)
  refine bW.Gw G au (fun(j:Nat)=>[(0,.ptr 0 0 0),(1,ah n),(2,ah b),(3,ah before),(8,.own 191 0 parts.length),(30,.own 191 0 parts.length),(31,ah parts.length),(32,ah j)])
    (fun j=>[(0,aP m L 4 (.own 203 0 (uns j).length)),(1,.dead),(2,aF (kbs 0)),(3,.dead),(4,aU (us j) a 201 b 2),(201,aF (uka j)),(203,aV (uns j)),(191,aF parts)])
    (fun j=>j≤parts.length) (fun j=>parts.length-j) 0 [(201,1),(203,3)] (Nat.zero_le _) ?_ ?_
  · (refine fK ?_;(with_reducible repeat' (first|exact trivial|(show _∧_;refine aK ?_ ?_)));(all_goals try rfl))
    all_goals first
      |exact⟨.refl (aa _),aa _⟩
      |exact⟨.refl (aq _),aq _⟩
      |exact bB (fun _=>rfl) (fun _=>rfl)
      |trace_state
  intro u hu0
  with_reducible refine wK ?_
  refine bq.mk (fun h1=>?_) (fun h1=>?_)<;>(try simp only[az] at h1)<;>with_reducible refine wK ?_
  · have hul:u<parts.length:=by simp only[bE,az] at h1;omega
    obtain⟨k,hk⟩:∃k,parts[u]? =some k:=⟨_,bA hul⟩
    have h79:=hu u k hk
    repeat' (first
    |refine gK ?_
    | ((first
      |((with_reducible show eY _ _ _ _ _);refine eY.mk u rfl (by first|exact hul|omega) ?_)
      |((with_reducible show bh _ _ _ _ _);refine bh.mk (ah k) (by first|exact hgp _ _ hk|(rw[Nat.zero_add];exact hgp _ _ hk)) ?_)
      |((with_reducible show ae _ _ 79 _ _ _ _);refine ae.dx (news:=[aP m L 4 (.own 213 0 (uns (u+1)).length),.dead,aF (kbs 0),.dead,aU (us (u+1)) a 211 b 2,aF (uka (u+1)),aV (uns (u+1))]) [0,201,2,203,4,211,213] [] h79 Nb ⟨⟨rfl,rfl⟩,rfl,trivial⟩ ⟨⟨rfl,.inr ⟨⟨⟨⟨rfl,rfl⟩,rfl,⟨rfl,rfl⟩,trivial⟩,trivial⟩,rfl⟩⟩,⟨rfl,.inl ⟨rfl,aa _⟩⟩,⟨rfl,.inl ⟨rfl,aa _⟩⟩,⟨rfl,.inl ⟨rfl,aq _⟩⟩,⟨rfl,bK (fun _=>rfl) (fun _=>rfl)⟩,trivial⟩ rfl ⟨⟨rfl,rfl⟩,rfl⟩ rfl ⟨⟨rfl,.inr ⟨rfl,rfl,rfl⟩⟩,⟨rfl,.inl ⟨rfl,aa _⟩⟩,⟨rfl,bF rfl rfl (by decide) (by decide)⟩,⟨rfl,.inl ⟨rfl,aa _⟩⟩,⟨rfl,.inl ⟨rfl,aq _⟩⟩,trivial⟩ rfl rfl ?_)
      |((with_reducible show aI _ _ _ _);refine dK ?_))<;>with_reducible refine wK ?_)
    |((with_reducible show(_∧_)∧_∧_);(refine eK ?_ ?_<;>with_reducible repeat' (first|exact trivial|(show _∧_;refine aK ?_ ?_)))))
    refine nq.mk (u+1) [(201,211),(203,213)] (by omega) (by omega) ?_
    (refine fK ?_;(with_reducible repeat' (first|exact trivial|(show _∧_;refine aK ?_ ?_)));(all_goals try rfl))
    all_goals first
      |exact⟨.refl (aa _),aa _⟩
      |exact⟨.refl (aq _),aq _⟩
      |exact bB (fun _=>rfl) (fun _=>rfl)
      |trace_state
  obtain rfl:u=parts.length:=by simp only[c9,az] at h1;omega
  rw[←hls,←hns,←hks]
  repeat' (first
    |refine gK ?_
    |(((with_reducible show aI _ _ _ _);refine dK ?_)<;>with_reducible refine wK ?_)
    |((with_reducible show(_∧_)∧_∧_);(refine eK ?_ ?_<;>with_reducible repeat' (first|exact trivial|(show _∧_;refine aK ?_ ?_)))))
  refine bW.Gw G au (fun(j:Nat)=>[(0,.ptr 0 0 0),(2,ah b),(3,ah before),(40,.own 191 0 parts.length),(41,ah parts.length),(42,ah j)])
    (fun j=>[(0,aP m L 4 (.own 203 0 (nss j).length)),(1,.dead),(2,.dead),(3,.dead),(4,aU (ls j) a 201 b 202),(201,aF (kas j)),(202,aF (kbs j)),(203,aV (nss j)),(191,aF parts)])
    (fun j=>j≤parts.length) (fun j=>parts.length-j) 0 [(201,201),(202,2),(203,203)] (Nat.zero_le _) ?_ ?_
  · (refine fK ?_;(with_reducible repeat' (first|exact trivial|(show _∧_;refine aK ?_ ?_)));(all_goals try rfl))
    all_goals first
      |exact⟨.refl (aa _),aa _⟩
      |exact⟨.refl (aq _),aq _⟩
      |exact bB (fun _=>rfl) (fun _=>rfl)
      |trace_state
  intro j hj
  with_reducible refine wK ?_
  refine bq.mk (fun h1=>?_) (fun h1=>?_)<;>(try simp only[az] at h1)<;>with_reducible refine wK ?_
  · have hjl:j<parts.length:=by simp only[bE,az] at h1;omega
    obtain⟨k0,hk0⟩:∃k,parts[j]? =some k:=⟨_,bA hjl⟩
    have R:=hr j k0 hk0
    have hgk:=hgp _ _ hk0
    obtain⟨l',hl'⟩:∃x,ls (j+1)=x:=⟨_,rfl⟩
    obtain⟨ns',hn'⟩:∃x,nss (j+1)=x:=⟨_,rfl⟩
    obtain⟨ka',hka'⟩:∃x,kas (j+1)=x:=⟨_,rfl⟩
    obtain⟨kb',hkb'⟩:∃x,kbs (j+1)=x:=⟨_,rfl⟩
    rw[hl',hn',hka',hkb'] at R
    obtain⟨k,hkk,y0,y1,yk,l1,n1,k1,i,conn,es,ex,R⟩:=R
    subst hkk
    generalize ls j=l at*
    generalize nss j=ns at*
    generalize kas j=ka at*
    generalize kbs j=kb at*
    obtain⟨rl,rl1,r0,rover,r1,rk,rkids,ri,rend,ridx,rsm,rnxt,rne,rka,rkb,rca,rcb,rcon,rels,rtold,rn1,res⟩:=R
    have hbl:=(bj r0).1
    have hbl1:=(bj r1).1
    have hkl1:=(bj rk).1
    obtain⟨hkb,hkna⟩:=rne
    have e0:(aT l a 201 b 202)[b]? =some (eo y0 202):=uF r0 hab
    have e1:(aT l1 a 211 b 202)[b]? =some (eo y1 202):=uF r1 hab
    have e2:∀x,((aT l1 a 211 b 202).set (0+b) x)[0+k]? =some (aL yk):=fun x=>by rw[Nat.zero_add,Nat.zero_add,List.getElem?_set,if_neg (fun e=>hkb e.symm)];exact GD rk hkna hkb
    obtain⟨k3,hk3⟩:∃k3,k3=y1.kids.take i++ [(k:Int)]++y1.kids.drop i:=⟨_,rfl⟩
    have hrow:((aT l1 a 211 b 202).set (0+b) (dV {y1 with kids:=k3} 299)).set (0+k) (bM {yk with parent:=(b:Int)})=aT l' a 211 b 299:=by
      rw[rnxt,←hk3,Nat.zero_add,Nat.zero_add,s6 _ hbl1 hab,o6 _ (by rw[List.length_set];exact hkl1) hkna hkb]
    rw[←hk3] at rcb
    have h140:=pW (rows:=y1.kids.map bt) (fA y1.kids) i (k:Int) (by simpa using ri) (by simp;omega)
    rw[bN,←List.map_take,←List.map_drop,show[ah (k:Int)]=[(k:Int)].map bt from rfl,←iR,←iR,←hk3,show y1.kids.length+1=k3.length by rw[hk3];simp;omega] at h140
    have t73:=fun h=>nT (rest:=[ah before]) (ridx h) rfl rfl
    have rl':l'.length=L:=by rw[rnxt,List.length_set,List.length_set,rl1]
    have t35:=n3 (rest:=[ah (k:Int)]) rka rkb rcon rfl rfl
    have t141:=rG (m:=m) (n:=(k:Int)) (ns:=n1) (x:=lJ) rka rkb res rn1 rels
    rw[rl'] at t35 t141
    rw[rca] at t35 t141
    rw[rcb] at t35 t141
    have hkL:k<L:=by rw[←rl1];exact hkl1
    have htL:b<L:=by rw[←rl1];exact hbl1
    obtain⟨z1,z2,z3,z4,z5,z6,z7,z8,z9,z10⟩:=y0
    obtain⟨p1,p2,p3,p4,p5,p6,p7,p8,p9,p10⟩:=y1
    obtain⟨q1,q2,q3,q4,q5,q6,q7,q8,q9,q10⟩:=yk
    dsimp only at rkids ri rend ridx rsm h140 t73 hrow rover hk3
    subst rkids
    (have fct:=rend;(repeat' (first
    |refine pF ?_
    | ((first
      |((with_reducible show bq _ _ _ _);(refine bq.mk (fun hp=>?_) (fun hp=>?_)<;>(try simp only[az,bE,c9,Bool.not_eq_true',Bool.not_eq_false',Decidable.not_not,Int.not_lt,Int.not_le] at hp)))
      |((with_reducible show eY _ _ _ _ _);first|refine eY.mk j rfl (by first|exact hjl|omega) ?_|refine eY.mk b rfl (by first|exact htL|omega) ?_|refine eY.mk k rfl (by first|exact hkL|omega) ?_)
      |((with_reducible show bh _ _ _ _ _);first|refine bh.mk (ah (k:Int)) (by first|exact hgk|(rw[Nat.zero_add];exact hgk)) ?_|refine bh.mk _ (by first|exact e0|exact e1|exact e2 _|(rw[Nat.zero_add];first|exact e0|exact e1)) ?_)
      |((with_reducible show ae _ _ 139 _ _ _ _);refine ae.dx (news:=[aP m L 4 (.own 213 0 n1.length),.dead,aF kb,.dead,aU l1 a 211 b 202,aF k1,aV n1]) [0,201,202,203,4,211,213] [] rover JH ⟨⟨rfl,rfl⟩,rfl,rfl,trivial⟩ ⟨⟨rfl,.inr ⟨⟨⟨⟨rfl,rfl⟩,rfl,⟨rfl,rfl⟩,trivial⟩,trivial⟩,rfl⟩⟩,⟨rfl,.inl ⟨rfl,aa _⟩⟩,⟨rfl,.inl ⟨rfl,aa _⟩⟩,⟨rfl,.inl ⟨rfl,aq _⟩⟩,⟨rfl,bK (fun _=>rfl) (fun _=>rfl)⟩,trivial⟩ rfl ⟨⟨rfl,rfl⟩,rfl⟩ rfl ⟨⟨rfl,.inr ⟨rfl,rfl,rfl⟩⟩,⟨rfl,.inl ⟨rfl,aa _⟩⟩,⟨rfl,bF rfl rfl (by decide) (by decide)⟩,⟨rfl,.inl ⟨rfl,aa _⟩⟩,⟨rfl,.inl ⟨rfl,aq _⟩⟩,trivial⟩ rfl rfl ?_)
      |((with_reducible show ae _ _ 73 _ _ _ _);refine ae.dx (news:=[aF kb]) [202] [] (t73 (by assumption)) Jc ⟨⟨rfl,rfl⟩,rfl,trivial⟩ ⟨⟨rfl,.inl ⟨rfl,aa _⟩⟩,trivial⟩ rfl ⟨⟨rfl,rfl⟩,rfl⟩ rfl ⟨⟨rfl,.inl ⟨rfl,aa _⟩⟩,trivial⟩ rfl rfl ?_)
      |((with_reducible show ae _ _ 140 _ _ _ _);refine ae.dx (news:=[.dead,.live 1 [ah (k:Int)] false,aF k3]) [202,981,299] [] h140 IA ⟨⟨rfl,rfl⟩,by first|rfl|(show(i:Int)=(kb.length:Int);have:=rend (by assumption);omega),⟨rfl,rfl⟩,trivial⟩ ⟨⟨rfl,.inl ⟨rfl,aa _⟩⟩,⟨rfl,.inl ⟨rfl,rfl⟩⟩,trivial⟩ rfl ⟨⟨rfl,rfl⟩,rfl⟩ rfl ⟨⟨rfl,.inl ⟨rfl,rfl⟩⟩,⟨rfl,.inl ⟨rfl,aa _⟩⟩,trivial⟩ rfl rfl ?_)
      |((with_reducible show ae _ _ 35 _ _ _ _);refine ae.dx (news:=[aU l' a 211 b 299,aF k1,aF k3]) [4,211,299] [] t35 Lm ⟨⟨⟨rfl,rfl⟩,rfl,trivial⟩,rfl,trivial⟩ ⟨⟨rfl,cast (congrArg (vi _ _ _ _) hrow.symm) (bK (fun _=>rfl) (fun _=>rfl))⟩,⟨rfl,.inl ⟨rfl,aa _⟩⟩,⟨rfl,.inl ⟨rfl,aa _⟩⟩,trivial⟩ rfl ⟨⟨rfl,rfl⟩,rfl⟩ rfl ⟨⟨rfl,bF rfl rfl (by decide) (by decide)⟩,⟨rfl,.inl ⟨rfl,aa _⟩⟩,⟨rfl,.inl ⟨rfl,aa _⟩⟩,trivial⟩ rfl rfl ?_)
      |((with_reducible show ae _ _ 141 _ _ _ _);refine ae.dx (news:=[aP m L 4 (.own 223 0 (n1.length+es.length)),aF k1,aF k3,.dead,aU l' a 211 b 299,aV (n1++es.map (di lJ))]) [0,211,299,213,4,223] [] t141 CZ ⟨⟨rfl,rfl⟩,rfl,⟨rfl,rfl,rfl,rfl,rfl,rfl,rfl,rfl,rfl,trivial⟩,trivial⟩ ⟨⟨rfl,.inr ⟨⟨⟨⟨rfl,rfl⟩,rfl,⟨rfl,rfl⟩,trivial⟩,trivial⟩,rfl⟩⟩,⟨rfl,.inl ⟨rfl,aa _⟩⟩,⟨rfl,.inl ⟨rfl,aa _⟩⟩,⟨rfl,.inl ⟨rfl,aq _⟩⟩,⟨rfl,bK (fun _=>rfl) (fun _=>rfl)⟩,trivial⟩ rfl ⟨⟨rfl,rfl⟩,rfl⟩ rfl ⟨⟨rfl,.inr ⟨rfl,rfl,rfl⟩⟩,⟨rfl,.inl ⟨rfl,aa _⟩⟩,⟨rfl,.inl ⟨rfl,aa _⟩⟩,⟨rfl,bF rfl rfl (by decide) (by decide)⟩,⟨rfl,.inl ⟨rfl,aq _⟩⟩,trivial⟩ rfl rfl ?_)
      |((with_reducible show aI _ _ _ _);refine dK ?_))<;>with_reducible refine wK ?_)
    |((with_reducible show(_∧_)∧_∧_);(refine eK ?_ ?_<;>with_reducible repeat' (first|exact trivial|(show _∧_;refine aK ?_ ?_))))));all_goals clear fct)
    all_goals (first
      | (cases hp
         have ht:ns'=n1++es.map (di lJ):=rtold
         refine nq.mk (j+1) [(201,211),(202,299),(203,223)] (by omega) (by omega) ?_
         rw[hl',hn',hka',hkb',rca,rcb,ht,jz,bN])
      | (cases hp
         have ht:ns'=n1++ []:=rtold
         rw[List.append_nil] at ht
         refine nq.mk (j+1) [(201,211),(202,299),(203,213)] (by omega) (by omega) ?_
         rw[hl',hn',hka',hkb',rca,rcb,ht])
      |trace_state)
    all_goals (refine fK ?_;(with_reducible repeat' (first|exact trivial|(show _∧_;refine aK ?_ ?_)));(all_goals try rfl))
    all_goals first
      |exact⟨.refl (aa _),aa _⟩
      |exact⟨.refl (aq _),aq _⟩
      |exact bB (fun _=>rfl) (fun _=>rfl)
      |trace_state
  · obtain rfl:j=parts.length:=by simp only[c9,az] at h1;omega
    repeat' (first
    |refine gK ?_
    |(((with_reducible show aI _ _ _ _);refine dK ?_)<;>with_reducible refine wK ?_)
    |((with_reducible show(_∧_)∧_∧_);(refine eK ?_ ?_<;>with_reducible repeat' (first|exact trivial|(show _∧_;refine aK ?_ ?_)))))
    all_goals first
      |exact⟨.refl (aa _),aa _⟩
      |exact⟨.refl (aq _),aq _⟩
      |exact bB (fun _=>rfl) (fun _=>rfl)
      |trace_state
end Go.Proofs.Heir
namespace Go.Proofs.Heir
open Go Go.Am Go.RowKit Go.Lib
set_option maxRecDepth 100000
set_option maxHeartbeats 8000000
set_option maxHeartbeats 4000000
section
variable {l : List ai} {m : Int}
theorem AK {p b:Int}{ks:List Int}(R:RF l m)(h60:l.length≤60)(hd:ks.Nodup)(ns:List aQ)(hC:∀k∈ks,fE l k p b∧((nd l k).parent=-1∨ks.length=1))(h0:(nd l p).kind=0→ks.length≤1)(tp:af l p=true):
    ∀ j,j≤ks.length→RF ((ks.take j).foldl (cU p b) (l,ns)).1 m∧((ks.take j).foldl (cU p b) (l,ns)).1.length=l.length∧((ks.take j).foldl (cU p b) (l,ns)).2.length≤ns.length+180*j∧(nd ((ks.take j).foldl (cU p b) (l,ns)).1 p).kind=(nd l p).kind∧
      ∀i k,j≤i→ks[i]? =some k→fE ((ks.take j).foldl (cU p b) (l,ns)).1 k p b∧(nd ((ks.take j).foldl (cU p b) (l,ns)).1 k).parent=(nd l k).parent:=by
  intro j
  induction j with
  |zero=>exact fun _=>⟨R,rfl,Nat.le_refl _,rfl,fun i k _ hk=>⟨(hC k (bV hk)).1,rfl⟩⟩
  | succ j ih=>
    intro hj
    obtain⟨i1,i2,i3,i4,i5⟩:=ih (by omega)
    obtain⟨k,hk⟩:∃k,ks[j]? =some k:=⟨_,bA (by omega)⟩
    have hs:(ks.take (j+1)).foldl (cU p b) (l,ns)=cU p b ((ks.take j).foldl (cU p b) (l,ns)) k:=by
      rw[List.take_add_one,hk,List.foldl_append];rfl
    rw[hs]
    clear ih hs
    generalize(ks.take j).foldl (cU p b) (l,ns)=S at*
    obtain⟨s1,s2⟩:=S
    simp only at i1 i2 i3 i4 i5
    obtain⟨C,hp⟩:=i5 j k (Nat.le_refl _) hk
    obtain⟨kn,_,rfl,_,_⟩:=aW.1 C.tk
    have hl:=HU i1 (by omega) C (i1.own p C.tp).1 s2
    rw[xC]
    refine⟨j5 i1 C,by rw[fo,i2],by omega,?_,?_⟩
    ·rw[(gb i1 C p C.tp).1.kind,i4]
    · intro i c hi hc
      obtain⟨D,hq⟩:=i5 i c (by omega) hc
      have hne:c≠ (kn:Int):=fun e=>by
        have hil:=(bj hc).1
        have h1:=(bj hc).2
        have h2:=(bj hk).2
        exact(List.pairwise_iff_getElem.1 hd) j i (by omega) hil (by omega) (by rw[h1,h2,e])
      have hil:=(bj hc).1
      have hk0:(nd s1 p).kind≠0:=fun e=>by
        have:=h0 (by rw[←i4];exact e)
        omega
      refine⟨sC i1 C D hne hk0,?_⟩
      rw[(gb i1 C c D.tk).2.1,if_neg hne,hq]
theorem Ah:∀ (ks:List Int) {l:List ai} (ns:List aQ),RF l m→l.length≤60→(∀k∈ks,af l k=true)→(ks.foldl c8 (l,ns)).2.length≤ns.length+60*ks.length
  |[],l,ns,R,h60,_=>by simp
  | k ::ks,l,ns,R,h60,h=>by
    have hk:=h k eS
    obtain⟨kn,_,rfl,_,_⟩:=aW.1 hk
    have h1:=ua R h60 (cO hk) ns
    have hf:=lz (l,ns) (kn:Int)
    have hsp:c8 (l,ns) (kn:Int)=(bg l kn,(c8 (l,ns) (kn:Int)).2):=by
      rw[←hf]
    have h2:=Ah ks (l:=bg l kn) (c8 (l,ns) (kn:Int)).2 (dS R hk) (by rw[cW];exact h60) (fun j hj=>by rw[aY (cW ..)];exact h j (dQ _ hj))
    rw[List.foldl_cons,hsp,List.length_cons]
    omega
theorem Dt {n k:Int}{j:Nat}(h:[n][j]? =some k):j=0∧k=n:=by
  cases j with
  |zero=>cases h;exact⟨rfl,rfl⟩
  |succ j=>simp at h
theorem Ag (R:RF l m)(h60:l.length≤60){n p:Nat}{before:Int}(C:oR l n p before)(h3:(nd l n).kind≠3)(h:(nd l n).parent=-1∨(nd l n).parent=(p:Int)){ns:List aQ}(hns:ns.length≤1000):
    aj Tryz.prog 75 [aP m l.length 4 (.own 3 0 ns.length),aF (nd l p).kids,aF (nd l n).kids,aV ns,aU l p 1 n 2] [.ptr 0 0 0,ah n,ah p,ah before]
      [aP m l.length 4 (.own 7 0 (dA (l,ns) n p before).2.length),.dead,.dead,.dead,aU (dA (l,ns) n p before).1 p 5 n 6,aF (nd (dA (l,ns) n p before).1 p).kids,aF (nd (dA (l,ns) n p before).1 n).kids,aV (dA (l,ns) n p before).2] (.tup []):=by
  have hnl:=cO C.tn
  have hpl:=cO C.tp
  have hne:n≠p:=fun e=>C.w (by rw[e];exact U.cI R.tree C.tp)
  have h27:=zE ⟨l,m⟩ (fm R h60) n _ (cK hnl) (dI.2 R)
  have hpo:=gC h3
  unfold dA
  simp only at h27 ⊢
  rw[if_neg h3,hpo]
  rw[hpo] at h27
  exact OA (m:=m) (L:=l.length) (a:=p) (b:=n) (n:=n) (before:=before) (parts:=[(n:Int)]) (ls:=fun j=>(([(n:Int)].take j).foldl (cU p before) (l,ns)).1) (nss:=fun j=>(([(n:Int)].take j).foldl (cU p before) (l,ns)).2)
    (kas:=fun j=>(nd (([(n:Int)].take j).foldl (cU p before) (l,ns)).1 p).kids) (kbs:=fun j=>(nd (([(n:Int)].take j).foldl (cU p before) (l,ns)).1 n).kids) hne (by simp) rfl (cK hnl) h3 cP cP h27
    (fun j k hk=>by
      obtain⟨rfl,rfl⟩:=Dt hk
      exact JI R h60 hne (tL C h3) (R.own p C.tp).1 h (show ns.length≤70000 by omega))
theorem Bi (R:RF l m)(h60:l.length≤60){n p q:Nat}{before:Int}(C:oR l n p before)(h3:(nd l n).kind≠3)(hq:q<l.length)(hpq:p≠q)(hnq:n≠q)(h:(nd l n).parent=-1∨(nd l n).parent=(q:Int)){ns:List aQ}(hns:ns.length≤1000):
    aj Tryz.prog 75 [aP m l.length 4 (.own 3 0 ns.length),aF (nd l q).kids,aF (nd l p).kids,aV ns,aU l q 1 p 2] [.ptr 0 0 0,ah n,ah p,ah before]
      [aP m l.length 4 (.own 7 0 (dA (l,ns) n p before).2.length),.dead,.dead,.dead,aU (dA (l,ns) n p before).1 q 5 p 6,aF (nd (dA (l,ns) n p before).1 q).kids,aF (nd (dA (l,ns) n p before).1 p).kids,aV (dA (l,ns) n p before).2] (.tup []):=by
  have hnl:=cO C.tn
  have hpl:=cO C.tp
  have h27:=zE ⟨l,m⟩ (fm R h60) n _ (cK hnl) (dI.2 R)
  have hpo:=gC h3
  unfold dA
  simp only at h27 ⊢
  rw[if_neg h3,hpo]
  rw[hpo] at h27
  exact NF (m:=m) (L:=l.length) (a:=q) (b:=p) (n:=n) (before:=before) (parts:=[(n:Int)]) (ls:=fun j=>(([(n:Int)].take j).foldl (cU p before) (l,ns)).1) (nss:=fun j=>(([(n:Int)].take j).foldl (cU p before) (l,ns)).2)
    (kas:=fun j=>(nd (([(n:Int)].take j).foldl (cU p before) (l,ns)).1 q).kids) (kbs:=fun j=>(nd (([(n:Int)].take j).foldl (cU p before) (l,ns)).1 p).kids) hpq (by simp) rfl (cK hnl) h3 cP cP h27
    (fun j k hk=>by
      obtain⟨rfl,rfl⟩:=Dt hk
      exact D9 R h60 hpq hq (tL C h3) (R.own p C.tp).1 hnq h (show ns.length≤70000 by omega))
theorem Br (R:RF l m)(h60:l.length≤60){n p:Nat}{before:Int}(C:oR l n p before)(h3:(nd l n).kind=3){ns:List aQ}(hns:ns.length≤1000):
    aj Tryz.prog 75 [aP m l.length 4 (.own 3 0 ns.length),aF (nd l n).kids,aF (nd l p).kids,aV ns,aU l n 1 p 2] [.ptr 0 0 0,ah n,ah p,ah before]
      [aP m l.length 4 (.own 7 0 (dA (l,ns) n p before).2.length),.dead,.dead,.dead,aU (dA (l,ns) n p before).1 n 5 p 6,aF (nd (dA (l,ns) n p before).1 n).kids,aF (nd (dA (l,ns) n p before).1 p).kids,aV (dA (l,ns) n p before).2] (.tup []):=by
  have hnl:=cO C.tn
  have hpl:=cO C.tp
  have hne:p≠n:=fun e=>C.w (by rw[←e];exact U.cI R.tree C.tp)
  have h27:=zE ⟨l,m⟩ (fm R h60) n _ (cK hnl) (dI.2 R)
  have hpo:cr l n=(nd l n).kids:=by unfold cr;rw[if_pos h3]
  obtain⟨hf1,hf2,hf3,hf4⟩:=uC R C h3
  have hks:∀k∈ (nd l n).kids,af l k=true:=fun k hk=>(R.kid n C.tn k hk).1
  have hdup:=R.dup n C.tn
  have hkl:(nd l n).kids.length≤60:=(fm R h60).kids _ (bV (cK hnl))
  have hpar:∀k∈ (nd l n).kids,(nd l k).parent=n:=fun k hk=>(R.kid n C.tn k hk).2.1
  unfold dA
  simp only at h27 ⊢
  rw[if_pos h3,hpo]
  rw[hpo] at h27
  have hnself:∀k∈ (nd l n).kids,k≠ (n:Int):=fun k hk e=>by
    have h1:=R.jY C.tn
    rw[R.fW C.tn (by rw[←e,hpar k hk];omega)] at h1
    have:=hpar k hk
    rw[e] at this
    exact h1 this
  generalize hks0:(nd l n).kids=ks at*
  -- the states of the first loop
  have hU:∀j,((ks.take j).foldl c8 (l,ns)).1=(ks.take j).foldl bg l:=fun j=>iN _ _
  have hin:∀j,∀k∈ks.take j,k∈ks:=fun j k hk=>List.mem_of_mem_take hk
  have hR:∀j,RF ((ks.take j).foldl bg l) m∧((ks.take j).foldl bg l).length=l.length:=fun j=>pB _ R fun k hk=>hks k (hin j k hk)
  have hL:=fun(j:Nat) (x:Int) (hx:af l x=true)=>lI (ks.take j) R (fun k hk=>hks k (hin j k hk)) n (fun k hk=>.inl (hpar k (hin j k hk))) x hx
  have hN:∀j,((ks.take j).foldl c8 (l,ns)).2.length≤ns.length+60*ks.length:=fun j=>by
    have h1:=Ah (m:=m) (ks.take j) ns R h60 (fun k hk=>hks k (hin j k hk))
    have h2:(ks.take j).length≤ks.length:=by rw[gE];omega
    have:60* (ks.take j).length≤60*ks.length:=Nat.mul_le_mul_left 60 h2
    omega
  have hTl:ks.take ks.length=ks:=List.take_length
  have hsp:ks.foldl c8 (l,ns)=(ks.foldl bg l,(ks.foldl c8 (l,ns)).2):=Prod.ext (iN ks (l,ns)) rfl
  have hkp:∀j,(nd ((ks.take j).foldl c8 (l,ns)).1 p).kids=(nd l p).kids:=fun j=>by
    rw[hU j];exact(hL j p C.tp).2.2.2 (by omega)
  have hstate:=AK (p:=(p:Int)) (b:=before) (ks:=ks) (m:=m) hf1 (by rw[hf2];exact h60) hdup (ks.foldl c8 (l,ns)).2 (fun k hk=>⟨(hf3 k hk).1,.inl (hf3 k hk).2⟩) (fun e=>hf4 (by
    have:=(hL ks.length p C.tp).1.kind
    rw[hTl] at this
    rw[←this];exact e)) (by rw[aY hf2];exact C.tp)
  rw[←hsp] at hstate
  have hkb:(nd l p).kids=(nd ((ks.take 0).foldl (cU p before) (ks.foldl c8 (l,ns))).1 p).kids:=by
    have:=hkp ks.length
    rw[hTl] at this
    exact this.symm
  have hend:(ks.take ks.length).foldl (cU p before) (ks.foldl c8 (l,ns))=ks.foldl (cU p before) (ks.foldl c8 (l,ns)):=by rw[hTl]
  have hk0:ks=(nd ((ks.take 0).foldl c8 (l,ns)).1 n).kids:=hks0.symm
  have main:=NC (m:=m) (L:=l.length) (a:=n) (b:=p) (n:=n) (before:=before) (parts:=ks) (us:=fun j=>((ks.take j).foldl c8 (l,ns)).1) (uns:=fun j=>((ks.take j).foldl c8 (l,ns)).2) (uka:=fun j=>(nd ((ks.take j).foldl c8 (l,ns)).1 n).kids)
    (ls:=fun j=>((ks.take j).foldl (cU p before) (ks.foldl c8 (l,ns))).1) (nss:=fun j=>((ks.take j).foldl (cU p before) (ks.foldl c8 (l,ns))).2)
    (kas:=fun j=>(nd ((ks.take j).foldl (cU p before) (ks.foldl c8 (l,ns))).1 n).kids) (kbs:=fun j=>(nd ((ks.take j).foldl (cU p before) (ks.foldl c8 (l,ns))).1 p).kids) hne (by omega) rfl (cK hnl) h3 cP (fun y hy=>by rw[cP y hy];exact hkb) h27
    (fun j k hk=>by
      have hkm:=bV hk
      have htk:=hks k hkm
      obtain⟨kn,_,rfl,_,_⟩:=aW.1 htk
      have hnext:(ks.take (j+1)).foldl c8 (l,ns)=c8 ((ks.take j).foldl c8 (l,ns)) kn:=by
        rw[List.take_add_one,hk,List.foldl_append];rfl
      have hRj:=hR j
      have hUj:=hU j
      have hNj:=hN j
      have hkpj:=hkp j
      have hpj:(nd ((ks.take j).foldl bg l) kn).parent=-1∨(nd ((ks.take j).foldl bg l) kn).parent=(n:Int):=by
        rw[(hL j kn htk).2.2.1]
        split
        ·exact .inl rfl
        ·exact .inr (hpar kn hkm)
      try dsimp only
      rw[hnext,←hkb,←hkpj]
      rw[←hUj] at hRj hpj
      clear hnext hUj hkpj
      generalize(ks.take j).foldl c8 (l,ns)=S at*
      obtain⟨s1,s2⟩:=S
      simp only at hRj hpj hNj
      rw[lz,←hRj.2]
      exact Da hRj.1 (by rw[hRj.2];exact h60) hne (by rw[hRj.2];exact hnl) (by rw[hRj.2];exact hpl) (by rw[hRj.2];exact cO htk) (ns:=s2) (by omega) hpj)
    (by first|(rw[hTl];rfl)|(dsimp only;rw[hTl];rfl)) (by first|(rw[hTl];rfl)|(dsimp only;rw[hTl];rfl)) (by first|(rw[hTl];rfl)|(dsimp only;rw[hTl];rfl))
    (fun j k hk=>by
      have hkm:=bV hk
      have hjl:=(bj hk).1
      have htk:=hks k hkm
      obtain⟨kn,_,rfl,_,_⟩:=aW.1 htk
      obtain⟨i1,i2,i3,i4,i5⟩:=hstate j (by omega)
      obtain⟨D,hpD⟩:=i5 j kn (Nat.le_refl _) hk
      have hnext:(ks.take (j+1)).foldl (cU p before) (ks.foldl c8 (l,ns))=cU p before ((ks.take j).foldl (cU p before) (ks.foldl c8 (l,ns))) kn:=by
        rw[List.take_add_one,hk,List.foldl_append];rfl
      have hNT:=hN ks.length
      rw[hTl] at hNT
      have hlT:(ks.foldl c8 (l,ns)).1.length=l.length:=by rw[iN];exact hf2
      have hpT:(nd (ks.foldl c8 (l,ns)).1 kn).parent=-1:=by rw[iN];exact(hf3 kn hkm).2
      try dsimp only
      rw[hnext]
      generalize ks.foldl c8 (l,ns)=T at*
      rw[(hf3 kn hkm).2] at hpD
      clear hnext i5
      generalize(ks.take j).foldl (cU p before) T=S at*
      obtain⟨s1,s2⟩:=S
      simp only at i1 i2 i3 i4 D hpD
      rw[xC]
      have hl1:s1.length=l.length:=by rw[i2,hf2]
      have:=D9 i1 (by rw[hl1];exact h60) hne (by rw[hl1];exact hnl) D (i1.own p D.tp).1 (fun e=>hnself kn hkm (by rw[e])) (.inl hpD) (ns:=s2) (by
        have:60*ks.length≤3600:=by omega
        have:180*j≤180*60:=by omega
        omega)
      rw[hl1] at this
      exact this)
  try dsimp only at main
  rw[hend,←hkb,←hk0] at main
  exact main
end
theorem yD (f:ForM)(hs:bC f.nodes)(h60:f.nodes.length≤60)(n p c:Int):aj Tryz.prog 29 [] [aR f,ah n,ah p,ah c] [] (.tup [aR (eL f n p c).1,lQ (eL f n p c).2.1,ah (eL f n p c).2.2]):=by
  have h30:=C6 f hs n p c
  by_cases e0:ni f n p c=0
  · have ha:eU f n p c=true:=by
      cases h:eU f n p c with
      |true=>rfl
      |false=>unfold ni at e0;rw[h] at e0;simp at e0
    have ht:eX f.nodes p c (-1) n=0:=by unfold ni at e0;rw[if_pos ha] at e0;exact e0
    unfold eU at ha
    simp only[bO,kg,bE] at ha
    obtain⟨⟨hr,hn,hp⟩,hc⟩:=ha
    have h28:=Iv f hs n p c
    rw[e0] at h30
    obtain⟨l,m⟩:=f
    have R:RF l m:=dI.1 hr
    have C:=Dg R hn hp hc ht
    have hbef:dW ⟨l,m⟩ n p c=if c≠n then c else bT (nd l p).kids n:=by unfold dW;rw[if_neg (fun q=>q e0)]
    rw[←hbef] at C
    have e:eL ⟨l,m⟩ n p c=(⟨(dA (l,[]) n p (dW ⟨l,m⟩ n p c)).1,m⟩,(dA (l,[]) n p (dW ⟨l,m⟩ n p c)).2,0):=by unfold eL;rw[if_pos e0]
    rw[e]
    clear e hbef
    generalize dW ⟨l,m⟩ n p c=before at*
    obtain⟨a,_,rfl,_,_⟩:=aW.1 hn
    obtain⟨b,_,rfl,_,_⟩:=aW.1 hp
    have hal:=cO hn
    have hbl:=cO hp
    have hab:b≠a:=fun e=>C.w (by rw[←e];exact U.cI R.tree C.tp)
    have hlen:=(sj R [] C).2
    simp only at h60 hs
    by_cases h3:(nd l a).kind=3
    · have h75:=Br R h60 C h3 (ns:=[]) (by simp)
      exact oZ ⟨l,m⟩ a b c ⟨_,m⟩ _ 0 h30 (lH zw) (oc ⟨l,m⟩ hs (fun e=>hab e.symm) (cK hal) (cK hbl) 74 OM _ rfl _ _ _ _ hlen cP cP (pY h28 h75))
    · by_cases hq:(nd l a).parent=-1∨(nd l a).parent=(b:Int)
      · have h75:=Ag R h60 C h3 hq (ns:=[]) (by simp)
        exact oZ ⟨l,m⟩ a b c ⟨_,m⟩ _ 0 h30 (lH zw) (oc ⟨l,m⟩ hs hab (cK hbl) (cK hal) 74 OM _ rfl _ _ _ _ hlen cP cP (pY h28 h75))
      · have hq1:(nd l a).parent≠-1:=fun e=>hq (.inl e)
        have hpar:=(R.par a hn hq1).2.1
        obtain⟨q,_,hqe,_,_⟩:=aW.1 hpar
        have hql:q<l.length:=by rw[hqe] at hpar;exact cO hpar
        have hbq:b≠q:=fun e=>hq (.inr (by rw[hqe,e]))
        have haq:a≠q:=fun e=>by
          have h1:=R.jY hn
          rw[R.fW hn hq1,hqe,←e] at h1
          exact h1 rfl
        have h75:=Bi R h60 C h3 hql hbq haq (.inr hqe) (ns:=[]) (by simp)
        exact oZ ⟨l,m⟩ a b c ⟨_,m⟩ _ 0 h30 (lH zw) (oc ⟨l,m⟩ hs (fun e=>hbq e.symm) (cK hql) (cK hbl) 74 OM _ rfl _ _ _ _ hlen cP cP (pY h28 h75))
  · rw[rV e0]
    exact BT f n p c _ f [] _ h30 (jM zw _ e0) (jZ f hs 74 _ zw _)
end Go.Proofs.Heir
namespace Go.Proofs.Heir
open Go Go.Am Go.RowKit Go.Lib
set_option maxRecDepth 100000
set_option maxHeartbeats 8000000


end Go.Proofs.Heir
namespace Go.Proofs.Heir
open Go Go.Am Go.RowKit Go.Lib
set_option maxRecDepth 100000
set_option maxHeartbeats 8000000
set_option maxHeartbeats 8000000
theorem xQ (a:aQ)(y z:Operand)(w:World):((do eqGuard .neq 53 y z (.agg #[.int .i64 a.kind,.int .i64 a.node,.int .i64 a.src,.int .i64 a.dst,.string a.name,.bool a.had,.bool a.has,.string a.old,.string a.new]) (.agg #[.int .i64 a.kind,.int .i64 a.node,.int .i64 a.src,.int .i64 a.dst,.string a.name,.bool a.had,.bool a.has,.string a.old,.string a.new]);binOp .neq 53 (.agg #[.int .i64 a.kind,.int .i64 a.node,.int .i64 a.src,.int .i64 a.dst,.string a.name,.bool a.had,.bool a.has,.string a.old,.string a.new]) (.agg #[.int .i64 a.kind,.int .i64 a.node,.int .i64 a.src,.int .i64 a.dst,.string a.name,.bool a.had,.bool a.has,.string a.old,.string a.new]):Sem Value)).run Tryz.prog w=.ok (.bool false) w:=by
  have hS:Tryz.prog.underlying 53=some (.struct (Tryz.prog.fieldsOf 53)):=by kernel_rfl
  have hp:Tryz.prog.stoodInHeld 53=false:=by kernel_rfl
  have u3:=Tryz.underlying3
  have a3:=Tryz.isAgg3
  have z3:=Tryz.sizeOf3
  have u4:=Tryz.underlying4
  have a4:=Tryz.isAgg4
  have z4:=Tryz.sizeOf4
  have u9:=Tryz.underlying9
  have a9:=Tryz.isAgg9
  have z9:=Tryz.sizeOf9
  rw[Sem.run_bind,run_eqGuard_agg w .neq 53 y z _ _ (by kernel_rfl),Result.andThen_ok,run_neq_struct,show(10000:Nat)=9999+1 from rfl,run_equalIn_agg w 9999 53 _ _ hS hp]
  simp only[Program.fieldsOf,Tryz.underlying53]
  go_simp
theorem Hh (x:ai)(h1:x.attrs.length≤100000)(h2:x.kids.length≤100000):aj Tryz.prog 80 [] [aL x,aL x] [] (bG true):=by
  have ha:=KE x.attrs x.attrs h1
  rw[dG rfl] at ha
  have hk:=G7 x.kids x.kids h2
  rw[dG rfl] at hk
  obtain⟨x0,x1,x2,x3,x4,x5,x6,x7,x8,x9⟩:=x
  simp only at ha hk
  refine aj.aD (rvs:=[.tmp 4]) G au Tryz.func80 rfl Tryz.ntmps80 rfl rfl ?_;with_reducible refine wD ?_
  dsimp only[List.append];with_reducible refine wK ?_
  repeat' (first
    |refine gK ?_
    | ((first
      |((with_reducible show ae _ _ 146 _ _ _ _);refine ae.lit [] ha Pe ⟨rfl,rfl,trivial⟩ rfl rfl ?_)
      |((with_reducible show ae _ _ 25 _ _ _ _);refine ae.lit [] hk Nl ⟨rfl,rfl,trivial⟩ rfl rfl ?_))<;>with_reducible refine wK ?_)
    |((with_reducible show(_∧_)∧_∧_);(refine eK ?_ ?_<;>with_reducible repeat' (first|exact trivial|(show _∧_;refine aK ?_ ?_)))))
  all_goals first|rfl|(simp;done)|trace_state
theorem n5 (f:ForM)(hs:bC f.nodes):aj Tryz.prog 33 [] [aR f,aR f] [] (bG true):=by
  have hl1:=hs.len
  have hone:∀x∈f.nodes,aj Tryz.prog 80 [] [aL x,aL x] [] (bG true):=fun x hx=>Hh x (by have:=hs.attrs x hx;omega) (by have:=hs.kids x hx;omega)
  obtain⟨l,m⟩:=f
  have hlm:(l.map bM).length=l.length:=bN ..
  simp only at hone hl1
  refine aj.aD (rvs:=[.tmp 4]) G au Tryz.func33 rfl Tryz.ntmps33 rfl rfl ?_;with_reducible refine wD ?_
  (have fct:=hlm;(repeat' (first
    |refine gF ?_
    |((with_reducible show(_∧_)∧_∧_);(refine eK ?_ ?_<;>with_reducible repeat' (first|exact trivial|(show _∧_;refine aK ?_ ?_))))));all_goals clear fct)
  refine bW.use G au (fun(k:Nat)=>[(2,.ptr 20 0 0),(3,.ptr 30 0 0),(5,ah k)]) (fun _=>[(20,.live 2 [aR ⟨l,m⟩] false),(30,.live 2 [aR ⟨l,m⟩] false)]) (fun k=>k≤l.length) (fun k=>l.length-k) 0 (Nat.zero_le _)
    ⟨⟨rfl,rfl⟩,⟨⟨rfl,rfl⟩,⟨rfl,rfl⟩,rfl,trivial⟩,⟨⟨rfl,rfl,trivial⟩,trivial⟩,⟨⟨rfl,rfl,trivial⟩,trivial⟩,trivial⟩ ?_
  intro k0 hk0
  with_reducible refine wK ?_
  refine bq.mk (fun h0=>?_) (fun h0=>?_)<;>(try simp only[az] at h0)<;>with_reducible refine wK ?_
  · have hk':k0<l.length:=by simp only[bE] at h0;omega
    obtain⟨x,hx⟩:∃x,l[k0]? =some x:=⟨_,bA hk'⟩
    have hx1:=hone x (bV hx)
    obtain⟨y0,y1,y2,y3,y4,y5,y6,y7,y8,y9⟩:=x
    repeat' (first
    |refine gK ?_
    | ((first
      |((with_reducible show aN _ _ _ _ _);refine aN.mk k0 (aL ⟨y0,y1,y2,y3,y4,y5,y6,y7,y8,y9⟩) rfl (ay hx) ?_)
      |((with_reducible show ae _ _ 80 _ _ _ _);refine ae.lit [] hx1 P2 ⟨⟨rfl,rfl,rfl,rfl,rfl,rfl,rfl,rfl,rfl,rfl,trivial⟩,⟨rfl,rfl,rfl,rfl,rfl,rfl,rfl,rfl,rfl,rfl,trivial⟩,trivial⟩ rfl rfl ?_)
      |((with_reducible show aI _ _ _ _);refine dK ?_)
      |((with_reducible show bZ _ _);refine bZ.mk (k0+1) (by omega) (by omega) ⟨⟨rfl,rfl⟩,⟨⟨rfl,rfl⟩,⟨rfl,rfl⟩,by show((k0+1:Nat):Int)=(k0:Int)+1;omega,trivial⟩,⟨⟨rfl,rfl,trivial⟩,trivial⟩,⟨⟨rfl,rfl,trivial⟩,trivial⟩,trivial⟩))<;>with_reducible refine wK ?_)
    |((with_reducible show(_∧_)∧_∧_);(refine eK ?_ ?_<;>with_reducible repeat' (first|exact trivial|(show _∧_;refine aK ?_ ?_)))))
  · repeat' (first
    |refine gK ?_
    |((with_reducible show(_∧_)∧_∧_);(refine eK ?_ ?_<;>with_reducible repeat' (first|exact trivial|(show _∧_;refine aK ?_ ?_)))))
end Go.Proofs.Heir
namespace Go.Proofs.Heir
open Go Go.Am Go.RowKit Go.Lib
set_option maxRecDepth 100000
set_option maxHeartbeats 8000000
set_option maxHeartbeats 2000000
section
variable {l l' : List ai} {m : Int}
end
end Go.Proofs.Heir
namespace Go.Proofs.Heir
open Go Go.Am Go.RowKit Go.Lib
set_option maxRecDepth 100000
set_option maxHeartbeats 8000000
set_option maxHeartbeats 16000000
def pT:List Int→Int→Int
  |[],_=> -1
  |a::r,n=>if a≠n then a else pT r n
theorem n7 {r:List Int}{u:Nat}{z n:Int}(h:r[u]? =some z):pT (r.drop u) n=if z≠n then z else pT (r.drop (u+1)) n:=by
  obtain⟨hl,he⟩:=bj h
  rw[List.drop_eq_getElem_cons hl,he];rfl
theorem oU {r:List Int}{u:Nat}{n:Int}(h:r.length≤u):pT (r.drop u) n=-1:=by rw[List.drop_eq_nil_of_le h];rfl
theorem qe {ks:List Int}(hd:ks.Nodup){i:Nat}{c:Int}(h:ks[i]? =some c):∀ (j:Nat) x,j<i→ks[j]? =some x→x≠c:=fun j x hj hx e=>by
  obtain⟨h1,e1⟩:=bj h
  obtain⟨h2,e2⟩:=bj hx
  exact(List.pairwise_iff_getElem.1 hd) j i h2 h1 hj (by rw[e1,e2,e])
theorem yN {ks:List Int}{i:Nat}{c n:Int}(hd:ks.Nodup)(h:ks[i]? =some c)(hn:n≠-1):(if bT ks c≠n then bT ks c else bT ks n)=pT (ks.drop (i+1)) n:=by
  rw[ql h (qe hd h)]
  cases h1:ks[i+1]? with
  | none=>
    rw[oU (List.getElem?_eq_none_iff.1 h1)]
    show(if(-1:Int)≠n then(-1:Int) else _)=-1
    rw[if_pos (fun e=>hn e.symm)]
  | some z=>
    rw[n7 h1]
    show(if z≠n then z else bT ks n)=_
    by_cases e:z=n
    · subst e
      rw[if_neg (fun q=>q rfl),if_neg (fun q=>q rfl),ql h1 (qe hd h1)]
      cases h2:ks[i+1+1]? with
      |none=>rw[oU (List.getElem?_eq_none_iff.1 h2)];rfl
      | some w=>
        rw[n7 h2]
        show w=_
        rw[if_pos (fun e=>qe hd h2 (i+1) z (by omega) h1 e.symm)]
    ·rw[if_pos e,if_pos e]
theorem Mo {l:List ai}{m:Int}(hs:bC l){ci pi:Nat}{x y:ai}(hx:l[ci]? =some x)(hp:x.parent=(pi:Int))(hy:l[pi]? =some y){i:Nat}(hi:y.kids[i]? =some (ci:Int))(hd:y.kids.Nodup)(n:Int)(hn:n≠-1)(f:ForM)(hf:f=⟨l,m⟩):
    aj Tryz.prog 87 [] [aR f,ah ci,ah n] [] (ah (if bT y.kids ci≠n then bT y.kids ci else bT y.kids n)):=by
  subst hf
  rw[yN hd hi hn]
  have hkl:y.kids.length≤60:=hs.kids y (bV hy)
  have h73:=qY y.kids (by omega) ci
  rw[FD hi (qe hd hi)] at h73
  have hil:=(bj hi).1
  obtain⟨x1,x2,x3,x4,x5,x6,x7,x8,x9,x10⟩:=x
  obtain⟨y1,y2,y3,y4,y5,y6,y7,y8,y9,y10⟩:=y
  simp only at*
  subst hp
  have hyl:(y7.map bt).length=y7.length:=bN ..
  obtain⟨r,hr⟩:∃r,r=y7.drop (i+1):=⟨_,rfl⟩
  have hrl:r.length=y7.length- (i+1):=by rw[hr,List.length_drop]
  have cut:r.map bt=((y7.map bt).drop (i+1)).take r.length:=by
    rw[←List.map_drop,←hr,sn (by rw[bN];omega)]
  rw[←hr]
  have hrm:(r.map bt).length=r.length:=bN ..
  refine aj.aD (rvs:=[.tmp 6]) G au Tryz.func87 rfl Tryz.ntmps87 rfl rfl ?_;with_reducible refine wD ?_
  (have fct:=hyl;(repeat' (first
    |refine gF ?_
    | ((first
      |((with_reducible show aN _ _ _ _ _);first|refine aN.mk ci (aL _) rfl (ay hx) ?_|refine aN.mk pi (aL _) rfl (ay hy) ?_)
      |((with_reducible show ae _ _ 73 _ _ _ _);refine ae.lit [] h73 Jc ⟨rfl,rfl,trivial⟩ rfl rfl ?_)
      |((with_reducible show Bz _ _ _ _ _ _);refine Bz.mk (i+1) r.length (r.map bt) (by(try simp only[az]);first|rfl|omega) (by(try simp only[az]);omega) (by rw[hyl];omega) cut ?_)
      |((with_reducible show aI _ _ _ _);refine dK ?_))<;>with_reducible refine wK ?_)
    |((with_reducible show(_∧_)∧_∧_);(refine eK ?_ ?_<;>with_reducible repeat' (first|exact trivial|(show _∧_;refine aK ?_ ?_))))));all_goals clear fct)
  obtain⟨v,hv⟩:∃v,v=pT r n:=⟨_,rfl⟩
  rw[←hv]
  refine bW.use G au (fun(u:Nat)=>[(2,ah n),(26,cq r),(27,ah r.length),(28,ah u)]) (fun _=>[]) (fun u=>u≤r.length∧pT (r.drop u) n=v) (fun u=>r.length-u) 0 ⟨Nat.zero_le _,by rw[hv,List.drop_zero]⟩ ?_ ?_
  · (refine fK ?_;(with_reducible repeat' (first|exact trivial|(show _∧_;refine aK ?_ ?_)));(all_goals try rfl))
    all_goals first|rfl|(rw[hrm])|trace_state
  rintro u ⟨hu,hfv⟩
  with_reducible refine wK ?_
  refine bq.mk (fun h1=>?_) (fun h1=>?_)<;>(try simp only[az] at h1)<;>with_reducible refine wK ?_
  · have hul:u<r.length:=by simp only[bE,az] at h1;omega
    obtain⟨z,hz⟩:∃z,r[u]? =some z:=⟨_,bA hul⟩
    rw[n7 hz] at hfv
    by_cases e:z=n
    · rw[if_neg (fun q=>q e)] at hfv
      have fz:=eq_true e
      (have fct:=fz;(repeat' (first
    |refine gF ?_
    |(((with_reducible show aN _ _ _ _ _);refine aN.mk u (ah z) rfl (cR hz) ?_)<;>with_reducible refine wK ?_)
    | ((with_reducible show(_∧_)∧_∧_);(refine eK ?_ ?_<;>with_reducible repeat' (first|exact trivial|(show _∧_;refine aK ?_ ?_))))));all_goals clear fct)
      refine bZ.mk (u+1) ⟨by omega,hfv⟩ (by omega) ?_
      (refine fK ?_;(with_reducible repeat' (first|exact trivial|(show _∧_;refine aK ?_ ?_)));(all_goals try rfl))
      all_goals first|rfl|trace_state
    · rw[if_pos e] at hfv
      subst hfv
      have fz:=eq_false e
      (have fct:=fz;(repeat' (first
    |refine gF ?_
    |(((with_reducible show aN _ _ _ _ _);refine aN.mk u (ah z) rfl (cR hz) ?_)<;>with_reducible refine wK ?_)
    | ((with_reducible show(_∧_)∧_∧_);(refine eK ?_ ?_<;>with_reducible repeat' (first|exact trivial|(show _∧_;refine aK ?_ ?_))))));all_goals clear fct)
      all_goals first|rfl|trace_state
  · have hul:r.length≤u:=by simp only[c9,az] at h1;omega
    rw[oU hul] at hfv
    subst hfv
    repeat' (first
    |refine gK ?_
    |((with_reducible show(_∧_)∧_∧_);(refine eK ?_ ?_<;>with_reducible repeat' (first|exact trivial|(show _∧_;refine aK ?_ ?_)))))
    all_goals first|rfl|trace_state
theorem vM {l:List ai}{a ta b tb:Nat}(h:a≠b):aT l a ta b tb=aT l b tb a ta:=by
  apply List.ext_getElem?
  intro j
  unfold aT
  rw[List.getElem?_mapIdx,List.getElem?_mapIdx]
  cases l[j]? with
  |none=>rfl
  | some y=>
    show some (ef a ta b tb j y)=some (ef b tb a ta j y)
    unfold ef
    by_cases e:j=a
    ·rw[if_pos e,if_neg (fun q=>h (by omega)),if_pos e]
    ·rw[if_neg e,if_neg e]
theorem AZ {l l1 l':List ai}{m n p c next:Int}{a b:Nat}{ka kb k1 ka' kb':List Int}{t1 told:List aQ}
    (h87:aj Tryz.prog 87 [] [aR ⟨l,m⟩,ah c,ah n] [] (ah next))
    (h79:aj Tryz.prog 79 [aP m l.length 4 (.own 3 0 0),aF ka,aF kb,aV [],aU l a 1 b 2] [.ptr 0 0 0,ah c]
      [aP m l.length 4 (.own 6 0 t1.length),.dead,aF kb,.dead,aU l1 a 5 b 2,aF k1,aV t1] (.tup []))
    (h75:aj Tryz.prog 75 [aP m l.length 4 (.own 3 0 t1.length),aF k1,aF kb,aV t1,aU l1 a 1 b 2] [.ptr 0 0 0,ah n,ah p,ah next]
      [aP m l.length 4 (.own 7 0 told.length),.dead,.dead,.dead,aU l' a 5 b 6,aF ka',aF kb',aV told] (.tup [])):
    aj Tryz.prog 86 [aP m l.length 4 (.own 3 0 0),aF ka,aF kb,aV [],aU l a 1 b 2] (.ptr 0 0 0::kL ⟨l,m⟩ n p c)
      [aP m l.length 4 (.own 7 0 told.length),.dead,.dead,.dead,aU l' a 5 b 6,aF ka',aF kb',aV told] eI:=by
  unfold kL
  refine aj.eR [(5,191),(6,192),(7,193)] (rvs:=[.tmp 6]) G au Tryz.func86 rfl Tryz.ntmps86 rfl rfl ?_;with_reducible refine wD ?_
  repeat' (first
    |refine gK ?_
    | ((first
      |((with_reducible show ae _ _ 87 _ _ _ _);refine ae.lit [] h87 PF ⟨⟨rfl,rfl,trivial⟩,rfl,rfl,trivial⟩ rfl rfl ?_)
      |((with_reducible show ae _ _ 79 _ _ _ _);refine ae.dx (news:=[aP m l.length 4 (.own 143 0 t1.length),.dead,aF kb,.dead,aU l1 a 141 b 2,aF k1,aV t1]) [0,1,2,3,4,141,143] [] h79 Nb ⟨⟨rfl,rfl⟩,rfl,trivial⟩ ⟨⟨rfl,.inr ⟨⟨⟨⟨rfl,rfl⟩,rfl,⟨rfl,rfl⟩,trivial⟩,trivial⟩,rfl⟩⟩,⟨rfl,.inl ⟨rfl,aa _⟩⟩,⟨rfl,.inl ⟨rfl,aa _⟩⟩,⟨rfl,.inl ⟨rfl,aq _⟩⟩,⟨rfl,bK (fun _=>rfl) (fun _=>rfl)⟩,trivial⟩ rfl ⟨⟨rfl,rfl⟩,rfl⟩ rfl ⟨⟨rfl,.inr ⟨rfl,rfl,rfl⟩⟩,⟨rfl,.inl ⟨rfl,aa _⟩⟩,⟨rfl,bF rfl rfl (by decide) (by decide)⟩,⟨rfl,.inl ⟨rfl,aa _⟩⟩,⟨rfl,.inl ⟨rfl,aq _⟩⟩,trivial⟩ rfl rfl ?_)
      |((with_reducible show ae _ _ 75 _ _ _ _);refine ae.dx (news:=[aP m l.length 4 (.own 193 0 told.length),.dead,.dead,.dead,aU l' a 191 b 192,aF ka',aF kb',aV told]) [0,141,2,143,4,191,192,193] [] h75 ON ⟨⟨rfl,rfl⟩,rfl,rfl,rfl,trivial⟩ ⟨⟨rfl,.inr ⟨⟨⟨⟨rfl,rfl⟩,rfl,⟨rfl,rfl⟩,trivial⟩,trivial⟩,rfl⟩⟩,⟨rfl,.inl ⟨rfl,aa _⟩⟩,⟨rfl,.inl ⟨rfl,aa _⟩⟩,⟨rfl,.inl ⟨rfl,aq _⟩⟩,⟨rfl,bK (fun _=>rfl) (fun _=>rfl)⟩,trivial⟩ rfl ⟨⟨rfl,rfl⟩,rfl⟩ rfl ⟨⟨rfl,.inr ⟨rfl,rfl,rfl⟩⟩,⟨rfl,bF rfl rfl (by decide) (by decide)⟩,⟨rfl,.inl ⟨rfl,aa _⟩⟩,⟨rfl,.inl ⟨rfl,aa _⟩⟩,⟨rfl,.inl ⟨rfl,aq _⟩⟩,trivial⟩ rfl rfl ?_)
      |((with_reducible show aI _ _ _ _);refine dK ?_))<;>with_reducible refine wK ?_)
    |((with_reducible show(_∧_)∧_∧_);(refine eK ?_ ?_<;>with_reducible repeat' (first|exact trivial|(show _∧_;refine aK ?_ ?_)))))
  all_goals first
    |rfl
    |exact⟨.refl (aa _),aa _⟩
    |exact⟨.refl (aq _),aq _⟩
    |exact bB (fun _=>rfl) (fun _=>rfl)
    |trace_state
theorem sV {l l1 l':List ai}{m n p c next:Int}{a b:Nat}(hab:a≠b){ka kb k1 ka' kb':List Int}{t1 told:List aQ}
    (h87:aj Tryz.prog 87 [] [aR ⟨l,m⟩,ah c,ah n] [] (ah next))
    (h79:aj Tryz.prog 79 [aP m l.length 4 (.own 3 0 0),aF kb,aF ka,aV [],aU l b 1 a 2] [.ptr 0 0 0,ah c]
      [aP m l.length 4 (.own 6 0 t1.length),.dead,aF ka,.dead,aU l1 b 5 a 2,aF k1,aV t1] (.tup []))
    (h75:aj Tryz.prog 75 [aP m l.length 4 (.own 3 0 t1.length),aF ka,aF k1,aV t1,aU l1 a 1 b 2] [.ptr 0 0 0,ah n,ah p,ah next]
      [aP m l.length 4 (.own 7 0 told.length),.dead,.dead,.dead,aU l' a 5 b 6,aF ka',aF kb',aV told] (.tup [])):
    aj Tryz.prog 86 [aP m l.length 4 (.own 3 0 0),aF ka,aF kb,aV [],aU l a 1 b 2] (.ptr 0 0 0::kL ⟨l,m⟩ n p c)
      [aP m l.length 4 (.own 7 0 told.length),.dead,.dead,.dead,aU l' a 5 b 6,aF ka',aF kb',aV told] eI:=by
  unfold kL
  have hr1:aT l a 1 b 2=aT l b 2 a 1:=vM hab
  have hr2:aT l1 b 141 a 1=aT l1 a 1 b 141:=vM (fun e=>hab e.symm)
  refine aj.eR [(5,191),(6,192),(7,193)] (rvs:=[.tmp 6]) G au Tryz.func86 rfl Tryz.ntmps86 rfl rfl ?_;with_reducible refine wD ?_
  repeat' (first
    |refine gK ?_
    | ((first
      |((with_reducible show ae _ _ 87 _ _ _ _);refine ae.lit [] h87 PF ⟨⟨rfl,rfl,trivial⟩,rfl,rfl,trivial⟩ rfl rfl ?_)
      |((with_reducible show ae _ _ 79 _ _ _ _);refine ae.dx (news:=[aP m l.length 4 (.own 143 0 t1.length),.dead,aF ka,.dead,aU l1 b 141 a 1,aF k1,aV t1]) [0,2,1,3,4,141,143] [] h79 Nb ⟨⟨rfl,rfl⟩,rfl,trivial⟩ ⟨⟨rfl,.inr ⟨⟨⟨⟨rfl,rfl⟩,rfl,⟨rfl,rfl⟩,trivial⟩,trivial⟩,rfl⟩⟩,⟨rfl,.inl ⟨rfl,aa _⟩⟩,⟨rfl,.inl ⟨rfl,aa _⟩⟩,⟨rfl,.inl ⟨rfl,aq _⟩⟩,⟨rfl,cast (congrArg (vi _ _ _ _) hr1.symm) (bK (fun _=>rfl) (fun _=>rfl))⟩,trivial⟩ rfl ⟨⟨rfl,rfl⟩,rfl⟩ rfl ⟨⟨rfl,.inr ⟨rfl,rfl,rfl⟩⟩,⟨rfl,.inl ⟨rfl,aa _⟩⟩,⟨rfl,bF rfl rfl (by decide) (by decide)⟩,⟨rfl,.inl ⟨rfl,aa _⟩⟩,⟨rfl,.inl ⟨rfl,aq _⟩⟩,trivial⟩ rfl rfl ?_)
      |((with_reducible show ae _ _ 75 _ _ _ _);refine ae.dx (news:=[aP m l.length 4 (.own 193 0 told.length),.dead,.dead,.dead,aU l' a 191 b 192,aF ka',aF kb',aV told]) [0,1,141,143,4,191,192,193] [] h75 ON ⟨⟨rfl,rfl⟩,rfl,rfl,rfl,trivial⟩ ⟨⟨rfl,.inr ⟨⟨⟨⟨rfl,rfl⟩,rfl,⟨rfl,rfl⟩,trivial⟩,trivial⟩,rfl⟩⟩,⟨rfl,.inl ⟨rfl,aa _⟩⟩,⟨rfl,.inl ⟨rfl,aa _⟩⟩,⟨rfl,.inl ⟨rfl,aq _⟩⟩,⟨rfl,cast (congrArg (vi _ _ _ _) hr2.symm) (bK (fun _=>rfl) (fun _=>rfl))⟩,trivial⟩ rfl ⟨⟨rfl,rfl⟩,rfl⟩ rfl ⟨⟨rfl,.inr ⟨rfl,rfl,rfl⟩⟩,⟨rfl,bF rfl rfl (by decide) (by decide)⟩,⟨rfl,.inl ⟨rfl,aa _⟩⟩,⟨rfl,.inl ⟨rfl,aa _⟩⟩,⟨rfl,.inl ⟨rfl,aq _⟩⟩,trivial⟩ rfl rfl ?_)
      |((with_reducible show aI _ _ _ _);refine dK ?_))<;>with_reducible refine wK ?_)
    |((with_reducible show(_∧_)∧_∧_);(refine eK ?_ ?_<;>with_reducible repeat' (first|exact trivial|(show _∧_;refine aK ?_ ?_)))))
  all_goals first
    |rfl
    |exact⟨.refl (aa _),aa _⟩
    |exact⟨.refl (aq _),aq _⟩
    |exact bB (fun _=>rfl) (fun _=>rfl)
    |trace_state
end Go.Proofs.Heir
namespace Go.Proofs.Heir
open Go Go.Am Go.RowKit Go.Lib
set_option maxRecDepth 100000
set_option maxHeartbeats 8000000
set_option maxHeartbeats 4000000
theorem B9 {f:ForM}{n p c:Int}(h:qt f n p c≠0):replaceM f n p c=(f,[],qt f n p c):=by unfold replaceM;rw[if_neg h]
theorem O4 (f:ForM)(hs:bC f.nodes)(h60:f.nodes.length≤60)(n p c:Int):aj Tryz.prog 36 [] [aR f,ah n,ah p,ah c] [] (.tup [aR (replaceM f n p c).1,lQ (replaceM f n p c).2.1,ah (replaceM f n p c).2.2]):=by
  have h85:=MV f hs n p c
  by_cases e0:qt f n p c=0
  · have ha:eU f n p c=true:=by
      cases h:eU f n p c with
      |true=>rfl
      |false=>unfold qt at e0;rw[h] at e0;simp at e0
    have ht2:(decide (c=-1)&&(decide (eX f.nodes p c c n=0)||uV f.nodes n p))=false∧eX f.nodes p c c n=0:=by
      unfold qt at e0
      rw[if_pos ha] at e0
      cases h:(decide (c=-1)&&(decide (eX f.nodes p c c n=0)||uV f.nodes n p)) with
      |true=>rw[h] at e0;simp at e0
      |false=>rw[h] at e0;exact⟨rfl,by simpa using e0⟩
    obtain⟨h1,ht⟩:=ht2
    rw[dG ht,Bool.true_or,Bool.and_true,c9] at h1
    unfold eU at ha
    simp only[bO,kg,bE] at ha
    obtain⟨⟨hr,hn,hp⟩,hc⟩:=ha
    have hct:=hc.resolve_left h1
    rw[e0] at h85
    obtain⟨l,m⟩:=f
    have R:RF l m:=dI.1 hr
    obtain⟨hmem,C⟩:=Gp R hn hp hct ht
    have e:replaceM ⟨l,m⟩ n p c=(⟨(dA (c8 (l,[]) c) n p (lY l n p c)).1,m⟩,(dA (c8 (l,[]) c) n p (lY l n p c)).2,0):=by unfold replaceM;rw[if_pos e0]
    rw[e]
    have hbeh:lY l n p c=if bT (nd l p).kids c≠n then bT (nd l p).kids c else bT (nd l p).kids n:=rfl
    rw[←hbeh] at C
    clear e
    simp only at h60 hs hn hp hct
    obtain⟨a,_,rfl,_,_⟩:=aW.1 hn
    obtain⟨b,y,rfl,hy,hyn⟩:=aW.1 hp
    obtain⟨k,x,rfl,hx,hxn⟩:=aW.1 hct
    have hal:=cO hn
    have hbl:=cO hp
    have hkl:=cO hct
    have hpar:(nd l k).parent=(b:Int):=(R.kid b hp k hmem).2.1
    have h87:aj Tryz.prog 87 [] [aR ⟨l,m⟩,ah k,ah a] [] (ah (lY l a b k)):=by
      rw[hyn] at hmem
      obtain⟨i,_,hi,_⟩:=j7 hmem
      have:=Mo hs hx (by rw[←hxn];exact hpar) hy hi (by rw[←hyn];exact R.dup b hp) (a:Int) (by omega) ⟨l,m⟩ rfl
      rw[hbeh,hyn]
      exact this
    have hS:c8 (l,[]) (k:Int)=(bg l k,(c8 (l,[]) (k:Int)).2):=Prod.ext (lz _ _) rfl
    have ht1:=ua R h60 hkl []
    have R1:=dS R hct
    have hl1:(bg l k).length=l.length:=cW ..
    have L1:=fun z hz=>(dR R hct z hz).2.2.2
    have P1:=(dR R hct a hn).2.2.1
    rw[hS]
    generalize(c8 (l,[]) (k:Int)).2=t1 at*
    generalize lY l a b k=next at*
    clear hbeh
    have h601:(bg l k).length≤60:=by rw[hl1];exact h60
    have hab:b≠a:=fun e=>C.w (by rw[←e];exact U.cI R1.tree C.tp)
    have hlen:=(sj R1 t1 C).2
    rw[hl1] at hlen
    have hka:(nd (bg l k) a).kids=(nd l a).kids:=by rw[L1 a hn,if_neg (by rw[hpar];omega)]
    have h79:=fun q (hq:q<l.length) (hqb:q≠b)=>Da R h60 hqb hbl hq hkl (ns:=[]) (by simp) (.inr hpar)
    have ht1':t1.length≤1000:=by simp at ht1;omega
    by_cases h3:(nd (bg l k) a).kind=3
    · have h75:=Br R1 h601 C h3 (ns:=t1) ht1'
      rw[hl1] at h75
      have h79:=h79 a hal (fun e=>hab e.symm)
      rw[hS] at h79
      rw[hka] at h75
      exact nn ⟨l,m⟩ a b k ⟨_,m⟩ _ 0 h85 (lH qx) (oc ⟨l,m⟩ hs (fun e=>hab e.symm) (cK hal) (cK hbl) 86 Pd _ rfl _ _ _ _ hlen cP cP (sV (fun e=>hab e.symm) h87 h79 h75))
    · by_cases hq:(nd (bg l k) a).parent=-1∨(nd (bg l k) a).parent=(b:Int)
      · have h75:=Ag R1 h601 C h3 hq (ns:=t1) ht1'
        rw[hl1] at h75
        have h79:=h79 a hal (fun e=>hab e.symm)
        rw[hS] at h79
        rw[hka] at h75
        exact nn ⟨l,m⟩ a b k ⟨_,m⟩ _ 0 h85 (lH qx) (oc ⟨l,m⟩ hs hab (cK hbl) (cK hal) 86 Pd _ rfl _ _ _ _ hlen cP cP (AZ h87 h79 h75))
      · have hq1:(nd (bg l k) a).parent≠-1:=fun e=>hq (.inl e)
        have T1:=aY hl1
        have hpar1:=(R1.par a (by rw[T1];exact hn) hq1).2.1
        rw[T1] at hpar1
        obtain⟨q,_,hqe,_,_⟩:=aW.1 hpar1
        have hql:q<l.length:=by rw[hqe] at hpar1;exact cO hpar1
        have hbq:b≠q:=fun e=>hq (.inr (by rw[hqe,e]))
        have haq:a≠q:=fun e=>by
          have hn1:af (bg l k) a=true:=by rw[T1];exact hn
          have h1:=R1.jY hn1
          rw[R1.fW hn1 hq1,hqe,←e] at h1
          exact h1 rfl
        have h75:=Bi R1 h601 C h3 (by rw[hl1];exact hql) hbq haq (.inr hqe) (ns:=t1) ht1'
        rw[hl1] at h75
        have h79:=h79 q hql (fun e=>hbq e.symm)
        rw[hS] at h79
        have hkq:(nd (bg l k) q).kids=(nd l q).kids:=by rw[L1 q (gL hql),if_neg (by rw[hpar];omega)]
        rw[hkq] at h75
        exact nn ⟨l,m⟩ a b k ⟨_,m⟩ _ 0 h85 (lH qx) (oc ⟨l,m⟩ hs (fun e=>hbq e.symm) (cK hql) (cK hbl) 86 Pd _ rfl _ _ _ _ hlen cP cP (sV (fun e=>hbq e.symm) h87 h79 h75))
  · rw[B9 e0]
    exact A3 f n p c _ f [] _ h85 (jM qx _ e0) (jZ f hs 86 _ qx _)
end Go.Proofs.Heir
