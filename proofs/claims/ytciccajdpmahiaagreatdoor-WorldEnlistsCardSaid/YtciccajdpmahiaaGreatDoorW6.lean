/- Models, plain laws and contracts of functions of the given program; conditions as stated in each theorem. By an AI agent. -/
import Derived.Test.YtciccajdpmahiaaGreatDoorW5
import Derived.Test.YtciccajdpmahiaaGreatDoorW4
set_option linter.unusedSimpArgs false
set_option linter.unusedVariables false
namespace Go.Proofs.Heir
open Go Go.Am Go.RowKit Go.Lib
set_option maxRecDepth 100000
set_option maxHeartbeats 8000000
set_option maxHeartbeats 8000000
theorem r8 {l:List au}{n:Int}(h:elemV l n=true):∃ (k:Nat) (x:au),n=k∧l[k]? =some x∧nd l n=x∧x.kind=1:=by
 unfold elemV at h
 rw[Bool.and_eq_true,decide_eq_true_eq] at h
 obtain⟨k,x,hk,hx,e⟩:=bC.1 h.1
 exact⟨k,x,hk,hx,e,by rw[←e];exact h.2⟩
def CC (w:ai)(ph df:Int):Prop:=((ph=2∨ph=3)∧dO w df=true)∨((ph=0∨ph=1∨ph=4)∧(df=-1∨dO w df=true))
theorem EO {w:ai}{x:au}{s:StateM}(h:gy w x s=true)(hk:x.kind=1):(s.owner=-1∨ak w.f.nodes s.owner=true)∧CC w s.phase s.df:=by
 unfold gy at h
 rw[if_pos hk,Bool.and_eq_true,Bool.or_eq_true,decide_eq_true_eq] at h
 refine⟨h.1,?_⟩
 have h2:=h.2
 split at h2
 ·rename_i e;exact .inl ⟨e,h2⟩
 ·simp only[Bool.and_eq_true,Bool.or_eq_true,decide_eq_true_eq] at h2
  exact .inr ⟨by rcases h2.1 with(q|q)|q<;>simp[q],h2.2⟩
theorem Ld {w:ai}{x:au}{s:StateM}(ho:s.owner=-1∨ak w.f.nodes s.owner=true)(h:CC w s.phase s.df)(hk:x.kind=1):gy w x s=true:=by
 unfold gy
 rw[if_pos hk,Bool.and_eq_true,Bool.or_eq_true,decide_eq_true_eq]
 refine⟨ho,?_⟩
 rcases h with⟨p,q⟩|⟨p,q⟩
 ·rw[if_pos p];exact q
 ·rw[if_neg (by omega),Bool.and_eq_true,Bool.or_eq_true,Bool.or_eq_true,Bool.or_eq_true,decide_eq_true_eq,decide_eq_true_eq,decide_eq_true_eq,decide_eq_true_eq]
  exact⟨by omega,q⟩
theorem pX {w:ai}{k:Nat}{s:StateM}(hs:w.states[k]? =some s)(ph df:Int)(n:Nat):(bE w k ph df).states[n]? =if k=n then some (IG s ph df) else w.states[n]? :=by
 show(w.states.set (k:Int).toNat (IG (eI w.states k) ph df))[n]? =_
 rw[Int.toNat_natCast,bX hs,List.getElem?_set]
 by_cases e:k=n
 ·rw[if_pos e,if_pos e,if_pos (List.getElem?_eq_some_iff.1 hs).1]
 ·rw[if_neg e,if_neg e]
theorem kn {w:ai}(R:aP w){n ph df:Int}(he:elemV w.f.nodes n=true)(h:CC w ph df):aP (bE w n ph df):=by
 obtain⟨k,x,rfl,hx,_,hk⟩:=r8 he
 have hkl:=(List.getElem?_eq_some_iff.1 hx).1
 have sl:=R.sl
 have hs:w.states[k]? =some w.states[k]:=List.getElem?_eq_getElem (by omega)
 refine⟨by show(w.states.set _ _).length=_;rw[List.length_set];exact sl,R.tl,R.cl,R.rf,R.rd,R.ln,?_,R.td,R.ta,R.bu⟩
 intro m y s hy hm
 rw[pX hs] at hm
 split at hm
 ·rename_i e
  subst e
  have e2:x=y:=Option.some.inj (hx.symm.trans hy)
  subst e2
  have hm:=Option.some.inj hm
  subst hm
  exact Ld (EO (R.st k x _ hx hs) hk).1 h hk
 ·exact R.st m y s hy hm
theorem DF {w:ai}(R:aP w)(n:Int):aP {w with line:=jJ w.line n}:=by
 refine⟨R.sl,by show(w.line.todos.set _ _).length=_;rw[List.length_set];exact R.tl,R.cl,R.rf,R.rd,?_,R.st,?_,R.ta,R.bu⟩
 ·have:=R.ln
  unfold vo at this ⊢
  have hi:∀m,dG (jJ w.line n) m=dG w.line m:=fun m=>by
   unfold dG;show(_&&decide (m< ((w.line.todos.set n.toNat []).length:Int)))=_;rw[List.length_set]
  have hf:dG (jJ w.line n)=dG w.line:=funext hi
  show(w.line.stack.all (fun s=>s.all (dG (jJ w.line n)))&&w.line.back.all (dG (jJ w.line n)))=true
  rw[hf];exact this
 ·intro l hl t ht
  have hl:l∈w.line.todos.set n.toNat []:=hl
  rcases mF hl with e|e
  ·exact R.td l e t ht
  ·subst e;cases ht
theorem u6 {w:ai}(R:aP w){n:Int}(he:elemV w.f.nodes n=true):aP (di w n):=DF (kn R he (.inr ⟨.inr (.inr rfl),.inl rfl⟩)) n
theorem j6 {w:ai}(R:aP w){l:List aY}(h:∀b∈l,gS w b=true):aP {w with builds:=l}:=⟨R.sl,R.tl,R.cl,R.rf,R.rd,R.ln,R.st,R.td,R.ta,h⟩
theorem jD {w:ai}:dQ w w.f=true:=eH.2 ⟨rfl,Nat.le_refl _,fun n x y hx hy=>by rw[hx] at hy;rw[Option.some.inj hy]⟩
theorem CB {w:ai}(R:aP w):jP w w.f=true:=xW.2 ⟨R,R.rf,jD⟩
theorem tE {w:ai}(R:aP w){n:Int}(he:elemV w.f.nodes n=true)(hp:(eI w.states n).phase=2∨(eI w.states n).phase=3):CC w 3 (eI w.states n).df:=by
 obtain⟨k,x,rfl,hx,_,hk⟩:=r8 he
 have hkl:=(List.getElem?_eq_some_iff.1 hx).1
 have sl:=R.sl
 have hs:w.states[k]? =some w.states[k]:=List.getElem?_eq_getElem (by omega)
 rw[bX hs] at hp ⊢
 rcases(EO (R.st k x _ hx hs) hk).2 with q|q
 ·exact .inl ⟨.inr rfl,q.2⟩
 ·exact absurd q.1 (by omega)
theorem done_eq {w:ai}(R:aP w){n:Int}(he:elemV w.f.nodes n=true)(hp:(eI w.states n).phase=2∨(eI w.states n).phase=3):eC w n=dR (bE w n 3 (eI w.states n).df) w.f []∧aP (eC w n):=by
 have P:=kn R he (tE R he hp)
 have e:eC w n=dR (bE w n 3 (eI w.states n).df) w.f []:=by
  have ok:jP (bE w n 3 (eI w.states n).df) w.f=true:=CB P
  unfold eC jG
  rw[if_pos ok]
 refine⟨e,?_⟩
 rw[e]
 exact xI P R.rf jD []
theorem Cj {w:ai}{n:Int}:∀d∈cC w.f w.states w.desk w.classes n,dW w d=true:=by
 intro d hd
 unfold cC at hd
 split at hd
 ·rename_i h
  rw[Bool.and_eq_true,Bool.and_eq_true] at h
  obtain⟨k,x,rfl,hx,_,_⟩:=r8 h.1.2
  have ht:=dj hx
  unfold wo at hd
  rcases List.mem_append.1 hd with e|e
  ·obtain⟨a,_,ha⟩:=List.mem_flatMap.1 e
   unfold l6 at ha
   split at ha
   ·rw[List.mem_singleton.1 ha];unfold dW;rw[ht];rfl
   ·cases ha
  ·unfold yH at e
   split at e
   ·rw[List.mem_singleton.1 e];unfold dW;rw[ht];rfl
   ·cases e
 ·cases hd
theorem start_eq {w:ai}{n df:Int}(h:cD w n df=true):aP (bE w n 2 df)∧bg w n df=(let x:=bE w n 2 df;{bN x (cC x.f x.states x.desk x.classes n) with builds:=w.builds++ [⟨df,n⟩]})∧aP (bg w n df):=by
 unfold cD jd at h
 simp only[Bool.and_eq_true,decide_eq_true_eq] at h
 obtain⟨⟨⟨h1,h2⟩,h3⟩,h4⟩:=h
 have R:=bH.1 h1
 have P:=kn R h2 (.inl ⟨.inl rfl,h3⟩:CC w 2 df)
 have ok:cW (bE w n 2 df) (cC (bE w n 2 df).f (bE w n 2 df).states (bE w n 2 df).desk (bE w n 2 df).classes n)=true:=dB.2 ⟨P,Cj⟩
 have E:=jj _ _ P (Cj (w:=bE w n 2 df) (n:=n))
 have e:bg w n df={bN (bE w n 2 df) (cC (bE w n 2 df).f (bE w n 2 df).states (bE w n 2 df).desk (bE w n 2 df).classes n) with builds:=w.builds++ [⟨df,n⟩]}:=by
  have e0:bg w n df={ (bV (bE w n 2 df) (cC (bE w n 2 df).f (bE w n 2 df).states (bE w n 2 df).desk (bE w n 2 df).classes n)).1 with builds:=(bV (bE w n 2 df) (cC (bE w n 2 df).f (bE w n 2 df).states (bE w n 2 df).desk (bE w n 2 df).classes n)).1.builds++ [⟨df,n⟩]}:=rfl
  have e1:bV (bE w n 2 df) (cC (bE w n 2 df).f (bE w n 2 df).states (bE w n 2 df).desk (bE w n 2 df).classes n)=(bN (bE w n 2 df) (cC (bE w n 2 df).f (bE w n 2 df).states (bE w n 2 df).desk (bE w n 2 df).classes n),0):=if_pos ok
  rw[e0,e1]
  show ai.mk _ _ _ _ _ ((bN (bE w n 2 df) (cC (bE w n 2 df).f (bE w n 2 df).states (bE w n 2 df).desk (bE w n 2 df).classes n)).builds++_) _=_
  rw[gE];rfl
 refine⟨P,e,?_⟩
 rw[e]
 refine j6 E fun b hb=>?_
 have key:∀b,gS (bN (bE w n 2 df) (cC (bE w n 2 df).f (bE w n 2 df).states (bE w n 2 df).desk (bE w n 2 df).classes n)) b=gS w b:=fun b=>by
  unfold gS dO;rw[nT,gH];rfl
 rw[key]
 rcases List.mem_append.1 hb with q|q
 ·exact R.bu b q
 ·rw[List.mem_singleton.1 q]
  unfold gS
  rw[h3,h2];simp
theorem qI {f:ForM}{st:List StateM}{d:aZ}{cs:List aH}{n:Int}:∀x∈cC f st d cs n,x.node=n:=by
 intro x hx
 unfold cC at hx
 split at hx
 ·unfold wo at hx
  rcases List.mem_append.1 hx with e|e
  ·obtain⟨a,_,ha⟩:=List.mem_flatMap.1 e
   unfold l6 at ha
   split at ha
   ·rw[List.mem_singleton.1 ha]
   ·cases ha
  ·unfold yH at e
   split at e
   ·rw[List.mem_singleton.1 e]
   ·cases e
 ·cases hx
theorem filter_all {α:Type}{p:α→Bool}{l:List α}(h:∀x∈l,p x=true):l.filter p=l:=List.filter_eq_self.2 h
theorem GY {α:Type}{p:α→Bool}{l:List α}(h:∀x∈l,p x=false):l.filter p=[]:=List.filter_eq_nil_iff.2 fun x hx=>by rw[h x hx];simp
theorem Jm {w:ai}{n df:Int}(h:cD w n df=true){m:Int}(hm:ak w.f.nodes m=true):lY (bg w n df).line m=lY w.line m++if m=n then(cC w.f (bE w n 2 df).states w.desk w.classes n).map bB.todo else[]:=by
 obtain⟨P,e,R⟩:=start_eq h
 have he:elemV w.f.nodes n=true:=by unfold cD jd at h;simp only[Bool.and_eq_true] at h;exact h.1.1.2
 rw[e]
 show lY (bN (bE w n 2 df) (cC w.f (bE w n 2 df).states w.desk w.classes n)).line m=_
 have hn:ak w.f.nodes n=true:=by unfold elemV at he;rw[Bool.and_eq_true] at he;exact he.1
 rw[I0 _ _ m (fun d hd=>by rw[vE P,qI d hd];exact hn) (by rw[vE P];exact hm)]
 show lY w.line m++_=_
 congr 1
 split
 ·rename_i q
  subst q
  rw[filter_all (fun x hx=>decide_eq_true (qI x hx))]
 ·rename_i q
  rw[GY (fun x hx=>decide_eq_false (by rw[qI x hx];exact fun z=>q z.symm))];rfl
theorem we {w:ai}{n df:Int}(h:cD w n df=true):(bg w n df).states=(bE w n 2 df).states∧(bg w n df).f=w.f∧(bg w n df).desk=w.desk∧(bg w n df).classes=w.classes∧(bg w n df).builds=w.builds++ [⟨df,n⟩]:=by
 obtain⟨P,e,R⟩:=start_eq h
 rw[e]
 exact⟨gI ..,nT ..,gH ..,dF ..,rfl⟩
def cE (s is:ByteArray)(doc:Int):au:=⟨1,ek s,is,⟨#[]⟩,[],0,[],0,0,doc⟩
def kZ (s is:ByteArray):Bool:=bO s&& !(decide (qp ⟨#[]⟩ is=1)&& !cK is)
def gb (w:ai)(s is:ByteArray)(doc:Int):ai×Int×Int:=
 if (cf w&&ak w.f.nodes doc)=true then
  (if (nd w.f.nodes doc).kind=0 then
   (if kZ s is=true then
    (if(eX w.f (cE s is doc)).2.2=0 then((jG w (eX w.f (cE s is doc)).1 []).1,(eX w.f (cE s is doc)).2.1,(jG w (eX w.f (cE s is doc)).1 []).2)
     else(w,-1,(eX w.f (cE s is doc)).2.2))
    else(w,-1,4))
   else(w,-1,5))
  else(w,-1,1)
def iO (d:aZ)(n:Int):bD:=(d.defs[n.toNat]?).getD ⟨⟨#[]⟩,⟨#[]⟩,0⟩
def ny (l:List aY)(n:Int):aY:=(l[n.toNat]?).getD ⟨0,0⟩
def iw (x:bD):ByteArray:=if x.locl=x.name then⟨#[]⟩ else x.name
def A3 (w:ai)(df:Int):ai×Int×Bool×Int:=
 if(gb w (iO w.desk df).locl (iw (iO w.desk df)) 0).2.2=0 then(bE (gb w (iO w.desk df).locl (iw (iO w.desk df)) 0).1 (gb w (iO w.desk df).locl (iw (iO w.desk df)) 0).2.1 2 df,(gb w (iO w.desk df).locl (iw (iO w.desk df)) 0).2.1,true,0)
 else(w,-1,false,(gb w (iO w.desk df).locl (iw (iO w.desk df)) 0).2.2)
def takeB (w:ai)(df:Int):ai×Int×Bool×Int:=
 if(ny w.builds (je w.builds df)).node=-4 then(w,-1,false,7)
 else({w with builds:=w.builds.set (je w.builds df).toNat ⟨(ny w.builds (je w.builds df)).df,-4⟩},(ny w.builds (je w.builds df)).node,false,0)
def mO (w:ai)(cl:Int):Bool:=cf w&&(decide (0≤cl)&&decide (cl< (w.classes.length:Int)))
def gq (w:ai)(cl:Int):ai×Int×Bool×Int:=
 if mO w cl=true then
  (if eo w.desk cl=-1 then(w,-1,false,6)
   else if je w.builds (eo w.desk cl)<0 then A3 w (eo w.desk cl) else takeB w (eo w.desk cl))
 else(w,-1,false,1)
theorem KZ (is:ByteArray):(decide (qp ⟨#[]⟩ is=1))=!decide (is=⟨#[]⟩):=by
 unfold qp
 rw[show cK ⟨#[]⟩=false from by decide,Bool.or_false]
 by_cases e:is=⟨#[]⟩
 ·rw[decide_eq_true e];rfl
 ·rw[decide_eq_false e];rfl
theorem wu {s is:ByteArray}:kZ s is=true↔bO s=true∧(is=⟨#[]⟩∨cK is=true):=by
 unfold kZ
 rw[KZ,Bool.and_eq_true]
 constructor
 ·rintro⟨h1,h2⟩
  refine⟨h1,?_⟩
  by_cases e:is=⟨#[]⟩
  ·exact .inl e
  ·rw[decide_eq_false e] at h2;simp at h2;exact .inr h2
 ·rintro⟨h1,h2⟩
  refine⟨h1,?_⟩
  rcases h2 with e|e
  ·rw[decide_eq_true e];rfl
  ·rw[e];simp
theorem mB {w:ai}(hr:aV w.f=true){s is:ByteArray}{doc:Int}(ht:ak w.f.nodes doc=true)(hk:(nd w.f.nodes doc).kind=0)(hb:kZ s is=true):nH w.f (cE s is doc)=true:=by
 have⟨h1,h2⟩:=wu.1 hb
 unfold nH
 rw[hr]
 have hn:kF (cU w.f (cE s is doc))=true:=by
  unfold kF
  rw[if_pos (show(cU w.f (cE s is doc)).kind=1 from rfl)]
  show((((bO (ek s)&&decide (ek (ek s)=ek s))&&(decide (is=⟨#[]⟩)||cK is))&&decide ((⟨#[]⟩:ByteArray)=⟨#[]⟩))&&kW [])=true
  rw[DP,h1,Ka,decide_eq_true (rfl:ek s=ek s),decide_eq_true (rfl:(⟨#[]⟩:ByteArray)=⟨#[]⟩),show kW []=true from by decide]
  rcases h2 with e|e
  ·rw[decide_eq_true e];rfl
  ·rw[e];simp
 rw[hn]
 show(true&&(!decide ((1:Int)=4)&&(decide ((1:Int)=0)||uo w.f.nodes doc 0)))=true
 unfold uo
 rw[ht,hk];rfl
@[reducible] def gQ (f : ForM) (y : au) : ForM := ⟨f.nodes ++ [y], f.most⟩
theorem nA (w:ai)(y:au):dQ w (gQ w.f y)=true:=by
 refine eH.2 ⟨rfl,by show _≤ (w.f.nodes++ [y]).length;rw[List.length_append];omega,fun n x z hx hz=>?_⟩
 have hz:(w.f.nodes++ [y])[n]? =some z:=hz
 rw[List.getElem?_append_left (List.getElem?_eq_some_iff.1 hx).1,hx] at hz
 rw[Option.some.inj hz]
theorem FV {w:ai}(R:aP w){s is:ByteArray}{doc:Int}(ht:ak w.f.nodes doc=true)(hk:(nd w.f.nodes doc).kind=0)(hb:kZ s is=true):
  gb w s is doc=if(w.f.nodes.length:Int)=w.f.most then(w,(-1:Int),(8:Int)) else(dR w (gQ w.f (cU w.f (cE s is doc))) [],(w.f.nodes.length:Int),(0:Int)):=by
 unfold gb
 rw[if_pos (by rw[bH.2 R,ht];rfl),if_pos hk,if_pos hb]
 have hm:eX w.f (cE s is doc)=if(w.f.nodes.length:Int)=w.f.most then(w.f,(-1:Int),(8:Int)) else(gQ w.f (cU w.f (cE s is doc)),(w.f.nodes.length:Int),(0:Int)):=by
  unfold eX;rw[if_pos (mB R.rf ht hk hb)]
 rw[hm]
 by_cases e:(w.f.nodes.length:Int)=w.f.most
 ·rw[if_pos e,if_pos e];rfl
 ·rw[if_neg e,if_neg e]
  have ok:jP w (gQ w.f (cU w.f (cE s is doc)))=true:=xW.2 ⟨R,qN (mB R.rf ht hk hb) e,nA w _⟩
  have e1:jG w (gQ w.f (cU w.f (cE s is doc))) []=(dR w (gQ w.f (cU w.f (cE s is doc))) [],0):=if_pos ok
  rw[e1];rfl
theorem xH {w:ai}(R:aP w){s is:ByteArray}{doc:Int}(ht:ak w.f.nodes doc=true)(hk:(nd w.f.nodes doc).kind=0)(hb:kZ s is=true)(e:(w.f.nodes.length:Int)≠w.f.most):aP (dR w (gQ w.f (cU w.f (cE s is doc))) []):=xI R (qN (mB R.rf ht hk hb) e) (nA w _) []
theorem tu {w:ai}(R:aP w){n:Int}(h:dO w n=true):∃ (k:Nat) (x:bD),n=k∧w.desk.defs[k]? =some x∧iO w.desk n=x∧gW x=true∧BE w.desk.defs x.cls=n∧eo w.desk x.cls=n∧mO w x.cls=true:=by
 unfold dO at h
 simp only[Bool.and_eq_true,decide_eq_true_eq] at h
 have hk:n.toNat<w.desk.defs.length:=by omega
 have hx:w.desk.defs[n.toNat]? =some w.desk.defs[n.toNat]:=List.getElem?_eq_getElem hk
 have rd:=R.rd
 have rd':=rd
 unfold eW at rd
 simp only[Bool.and_eq_true] at rd
 have db:=rd.1.1.1
 unfold fO at db
 simp only[Bool.and_eq_true,decide_eq_true_eq,List.all_eq_true] at db
 have hp:=Lw db.2 hx
 have hg:=db.1.1 _ (List.mem_of_getElem? hx)
 have hn:((n.toNat:Nat):Int)=n:=by omega
 rw[hn] at hp
 refine⟨n.toNat,_,hn.symm,hx,by unfold iO;rw[hx];rfl,hg,hp,by unfold eo;rw[if_pos rd'];exact hp,?_⟩
 unfold mO
 rw[bH.2 R,Bool.true_and]
 have cl:=R.cl
 unfold k8 at cl
 rw[Bool.and_eq_true] at cl
 have c2:=cl.2
 rw[Bool.not_eq_true',List.any_eq_false] at c2
 have c3:=c2 _ (List.mem_of_getElem? hx)
 rw[decide_eq_true_eq] at c3
 unfold gW at hg
 simp only[Bool.and_eq_true,decide_eq_true_eq] at hg
 rw[decide_eq_true hg.1.2,Bool.true_and,decide_eq_true_eq]
 omega
theorem tJ (l:List aY)(b:aY):je (l++ [b]) b.df=l.length:=by
 unfold je
 rw[List.reverse_append,List.reverse_singleton,List.singleton_append,List.findIdx?_cons,decide_eq_true (rfl:b.df=b.df)]
 simp
theorem E8 (l:List aY)(b:aY):ny (l++ [b]) l.length=b:=by
 unfold ny
 rw[Int.toNat_natCast,List.getElem?_append_right (Nat.le_refl _),Nat.sub_self];rfl
theorem Ih (l:List aY)(b c:aY):(l++ [b]).set (l.length:Int).toNat c=l++ [c]:=by
 rw[Int.toNat_natCast,List.set_append_right _ _ (Nat.le_refl _),Nat.sub_self];rfl
theorem zC {w:ai}{l:List aY}{b:aY}(hb:w.builds=l++ [b])(hn:b.node≠-4):takeB w b.df=({w with builds:=l++ [⟨b.df,-4⟩]},b.node,false,0):=by
 unfold takeB
 rw[hb,tJ,E8,if_neg hn,Ih]
theorem ED {w:ai}{l:List aY}{b:aY}(hb:w.builds=l++ [b])(hn:b.node=-4):takeB w b.df=(w,-1,false,7):=by
 unfold takeB
 rw[hb,tJ,E8,if_pos hn]
theorem qS {w:ai}(R:aP w){l:List aY}{b:aY}(hb:w.builds=l++ [b])(hd:dO w b.df=true):gq w (iO w.desk b.df).cls=takeB w b.df:=by
 obtain⟨k,x,hk,hx,he,_,_,hc,hs⟩:=tu R hd
 rw[he]
 unfold gq
 rw[if_pos hs,hc,if_neg (by omega),hb,tJ,if_neg (by omega)]
end Go.Proofs.Heir
namespace Go.Proofs.Heir
open Go Go.Am Go.RowKit Go.Lib
set_option maxRecDepth 100000
set_option maxHeartbeats 8000000
theorem nB {α:Type}(p:α→Bool)(l:List α):l.any p=decide (0≤gh p l):=by
 unfold gh
 cases h:l.findIdx? p with
 | none=>
   rw[List.findIdx?_eq_none_iff] at h
   have:l.any p=false:=by rw[List.any_eq_false];intro x hx;rw[h x hx];simp
   rw[this];rfl
 | some i=>
   rw[List.findIdx?_eq_some_iff_getElem] at h
   obtain⟨hi,h1,_⟩:=h
   have:l.any p=true:=List.any_eq_true.2 ⟨_,List.getElem_mem hi,h1⟩
   rw[this];exact(decide_eq_true (Int.natCast_nonneg i)).symm
theorem ND (g:Nat)(cg:ae Tryz.prog g)(caps:List AV)(hcaps:aN caps=true)(p:ByteArray→Bool)(l:List ByteArray)(hl:l.length≤100000)(hf:∀a,a∈l→ah Tryz.prog g [] (cm a::caps) [] (aA (p a))):
  ah Tryz.prog 157 [] [qu l,.clo (.func g) [] caps] [] (aq (gh p l)):=by
 have hlm:(l.map kU).length=l.length:=List.length_map ..
 refine ah.af (rvs:=[.tmp 4]) G aa Tryz.func157 rfl Tryz.ntmps157 rfl rfl ?_;with_reducible refine wD ?_
 refine aU.use G aa (fun(k:Nat)=>[(0,qu l),(1,.clo (.func g) [] caps),(7,aq l.length),(8,aq k)]) (fun _=>[]) (fun k=>k≤l.length∧∀j x,j<k→l[j]? =some x→p x=false) (fun k=>l.length-k) 0 ⟨Nat.zero_le _,fun j x h=>by omega⟩
  ⟨⟨rfl,rfl⟩,⟨rfl,⟨rfl,trivial,aD hcaps⟩,by show(l.length:Int)=((l.map kU).length:Int);rw[hlm],rfl,trivial⟩,trivial⟩ ?_
 rintro k ⟨hk,hno⟩
 with_reducible refine wK ?_
 refine bq.mk (fun h1=>?_) (fun h1=>?_)<;>(try simp only[aF] at h1)<;>with_reducible refine wK ?_
 ·simp only[decide_eq_true_eq] at h1
  have hk':k<l.length:=by omega
  obtain⟨a,ha⟩:∃a,l[k]? =some a:=⟨_,List.getElem?_eq_getElem hk'⟩
  refine ay.mk k (cm a) rfl (mA ha) ?_;with_reducible refine wK ?_
  refine aj.lit [] (hf a (List.mem_of_getElem? ha)) cg ⟨rfl,aD hcaps⟩ rfl rfl ?_;with_reducible refine wK ?_
  refine bq.mk (fun h2=>?_) (fun h2=>?_)<;>(try simp only[aF] at h2)<;>with_reducible refine wK ?_
  ·(refine eK ?_ ?_<;>with_reducible repeat' (first|exact trivial|(show _∧_;refine aK ?_ ?_)))
   exact fD ha h2 hno
  ·refine nK ?_;with_reducible refine wK ?_
   refine aL.mk (k+1) ⟨by omega,fun j x hj hx=>?_⟩ (by omega) ⟨⟨rfl,rfl⟩,⟨rfl,⟨rfl,trivial,aD hcaps⟩,rfl,by show((k+1:Nat):Int)=(k:Int)+1;omega,trivial⟩,trivial⟩
   rcases Nat.lt_or_ge j k with h6|h6
   ·exact hno j x h6 hx
   ·have:j=k:=by omega
    subst this
    rw[ha] at hx;cases hx;exact h2
 ·(refine eK ?_ ?_<;>with_reducible repeat' (first|exact trivial|(show _∧_;refine aK ?_ ?_)))
  have:k=l.length:=by simp only[decide_eq_false_iff_not] at h1;omega
  exact ei fun j x hx=>hno j x (by have:=(List.getElem?_eq_some_iff.1 hx).1;omega) hx
theorem NN (g:Nat)(cg:ae Tryz.prog g)(caps:List AV)(hcaps:aN caps=true)(p:ByteArray→Bool)(l:List ByteArray)(hl:l.length≤100000)(hf:∀a,a∈l→ah Tryz.prog g [] (cm a::caps) [] (aA (p a))):
  ah Tryz.prog 84 [] [qu l,.clo (.func g) [] caps] [] (aA (l.any p)):=by
 refine ah.af (rvs:=[.tmp 4]) G aa Tryz.func84 rfl Tryz.ntmps84 rfl rfl ?_;with_reducible refine wD ?_
 refine aj.lit [] (ND g cg caps hcaps p l hl hf) RF ⟨rfl,⟨rfl,trivial,aD hcaps⟩,trivial⟩ rfl rfl ?_;with_reducible refine wK ?_
 (refine eK ?_ ?_<;>with_reducible repeat' (first|exact trivial|(show _∧_;refine aK ?_ ?_)))
 exact nB p l
theorem MW (g:Nat)(cg:ae Tryz.prog g)(caps:List AV)(hcaps:aN caps=true)(p:dx→Bool)(l:List dx)(hl:l.length≤100000)(hf:∀a,a∈l→ah Tryz.prog g [] (kY a::caps) [] (aA (p a))):
  ah Tryz.prog 158 [] [mL l,.clo (.func g) [] caps] [] (aq (gh p l)):=by
 have hlm:(l.map jU).length=l.length:=List.length_map ..
 refine ah.af (rvs:=[.tmp 4]) G aa Tryz.func158 rfl Tryz.ntmps158 rfl rfl ?_;with_reducible refine wD ?_
 refine aU.use G aa (fun(k:Nat)=>[(0,mL l),(1,.clo (.func g) [] caps),(7,aq l.length),(8,aq k)]) (fun _=>[]) (fun k=>k≤l.length∧∀j x,j<k→l[j]? =some x→p x=false) (fun k=>l.length-k) 0 ⟨Nat.zero_le _,fun j x h=>by omega⟩
  ⟨⟨rfl,rfl⟩,⟨rfl,⟨rfl,trivial,aD hcaps⟩,by show(l.length:Int)=((l.map jU).length:Int);rw[hlm],rfl,trivial⟩,trivial⟩ ?_
 rintro k ⟨hk,hno⟩
 with_reducible refine wK ?_
 refine bq.mk (fun h1=>?_) (fun h1=>?_)<;>(try simp only[aF] at h1)<;>with_reducible refine wK ?_
 ·simp only[decide_eq_true_eq] at h1
  have hk':k<l.length:=by omega
  obtain⟨a,ha⟩:∃a,l[k]? =some a:=⟨_,List.getElem?_eq_getElem hk'⟩
  refine ay.mk k (kY a) rfl (gT ha) ?_;with_reducible refine wK ?_
  refine aj.lit [] (hf a (List.mem_of_getElem? ha)) cg ⟨⟨rfl,rfl,trivial⟩,aD hcaps⟩ rfl rfl ?_;with_reducible refine wK ?_
  refine bq.mk (fun h2=>?_) (fun h2=>?_)<;>(try simp only[aF] at h2)<;>with_reducible refine wK ?_
  ·(refine eK ?_ ?_<;>with_reducible repeat' (first|exact trivial|(show _∧_;refine aK ?_ ?_)))
   exact fD ha h2 hno
  ·refine nK ?_;with_reducible refine wK ?_
   refine aL.mk (k+1) ⟨by omega,fun j x hj hx=>?_⟩ (by omega) ⟨⟨rfl,rfl⟩,⟨rfl,⟨rfl,trivial,aD hcaps⟩,rfl,by show((k+1:Nat):Int)=(k:Int)+1;omega,trivial⟩,trivial⟩
   rcases Nat.lt_or_ge j k with h6|h6
   ·exact hno j x h6 hx
   ·have:j=k:=by omega
    subst this
    rw[ha] at hx;cases hx;exact h2
 ·(refine eK ?_ ?_<;>with_reducible repeat' (first|exact trivial|(show _∧_;refine aK ?_ ?_)))
  have:k=l.length:=by simp only[decide_eq_false_iff_not] at h1;omega
  exact ei fun j x hx=>hno j x (by have:=(List.getElem?_eq_some_iff.1 hx).1;omega) hx
theorem K9 (g:Nat)(cg:ae Tryz.prog g)(caps:List AV)(hcaps:aN caps=true)(p:dx→Bool)(l:List dx)(hl:l.length≤100000)(hf:∀a,a∈l→ah Tryz.prog g [] (kY a::caps) [] (aA (p a))):
  ah Tryz.prog 85 [] [mL l,.clo (.func g) [] caps] [] (aA (l.any p)):=by
 refine ah.af (rvs:=[.tmp 4]) G aa Tryz.func85 rfl Tryz.ntmps85 rfl rfl ?_;with_reducible refine wD ?_
 refine aj.lit [] (MW g cg caps hcaps p l hl hf) RR ⟨rfl,⟨rfl,trivial,aD hcaps⟩,trivial⟩ rfl rfl ?_;with_reducible refine wK ?_
 (refine eK ?_ ?_<;>with_reducible repeat' (first|exact trivial|(show _∧_;refine aK ?_ ?_)))
 exact nB p l
theorem Ln (g:Nat)(cg:ae Tryz.prog g)(caps:List AV)(hcaps:aN caps=true)(p:aH→Bool)(l:List aH)(hl:l.length≤100000)(hf:∀a,a∈l→ah Tryz.prog g [] (cN a::caps) [] (aA (p a))):
  ah Tryz.prog 246 [] [bJ l,.clo (.func g) [] caps] [] (aq (gh p l)):=by
 have hlm:(l.map dM).length=l.length:=List.length_map ..
 refine ah.af (rvs:=[.tmp 4]) G aa Tryz.func246 rfl Tryz.ntmps246 rfl rfl ?_;with_reducible refine wD ?_
 refine aU.use G aa (fun(k:Nat)=>[(0,bJ l),(1,.clo (.func g) [] caps),(7,aq l.length),(8,aq k)]) (fun _=>[]) (fun k=>k≤l.length∧∀j x,j<k→l[j]? =some x→p x=false) (fun k=>l.length-k) 0 ⟨Nat.zero_le _,fun j x h=>by omega⟩
  ⟨⟨rfl,rfl⟩,⟨rfl,⟨rfl,trivial,aD hcaps⟩,by show(l.length:Int)=((l.map dM).length:Int);rw[hlm],rfl,trivial⟩,trivial⟩ ?_
 rintro k ⟨hk,hno⟩
 with_reducible refine wK ?_
 refine bq.mk (fun h1=>?_) (fun h1=>?_)<;>(try simp only[aF] at h1)<;>with_reducible refine wK ?_
 ·simp only[decide_eq_true_eq] at h1
  have hk':k<l.length:=by omega
  obtain⟨a,ha⟩:∃a,l[k]? =some a:=⟨_,List.getElem?_eq_getElem hk'⟩
  refine ay.mk k (cN a) rfl (jm ha) ?_;with_reducible refine wK ?_
  refine aj.lit [] (hf a (List.mem_of_getElem? ha)) cg ⟨⟨rfl,rfl,rfl,rfl,rfl,trivial⟩,aD hcaps⟩ rfl rfl ?_;with_reducible refine wK ?_
  refine bq.mk (fun h2=>?_) (fun h2=>?_)<;>(try simp only[aF] at h2)<;>with_reducible refine wK ?_
  ·(refine eK ?_ ?_<;>with_reducible repeat' (first|exact trivial|(show _∧_;refine aK ?_ ?_)))
   exact fD ha h2 hno
  ·refine nK ?_;with_reducible refine wK ?_
   refine aL.mk (k+1) ⟨by omega,fun j x hj hx=>?_⟩ (by omega) ⟨⟨rfl,rfl⟩,⟨rfl,⟨rfl,trivial,aD hcaps⟩,rfl,by show((k+1:Nat):Int)=(k:Int)+1;omega,trivial⟩,trivial⟩
   rcases Nat.lt_or_ge j k with h6|h6
   ·exact hno j x h6 hx
   ·have:j=k:=by omega
    subst this
    rw[ha] at hx;cases hx;exact h2
 ·(refine eK ?_ ?_<;>with_reducible repeat' (first|exact trivial|(show _∧_;refine aK ?_ ?_)))
  have:k=l.length:=by simp only[decide_eq_false_iff_not] at h1;omega
  exact ei fun j x hx=>hno j x (by have:=(List.getElem?_eq_some_iff.1 hx).1;omega) hx
theorem Lo (g:Nat)(cg:ae Tryz.prog g)(caps:List AV)(hcaps:aN caps=true)(p:aH→Bool)(l:List aH)(hl:l.length≤100000)(hf:∀a,a∈l→ah Tryz.prog g [] (cN a::caps) [] (aA (p a))):
  ah Tryz.prog 207 [] [bJ l,.clo (.func g) [] caps] [] (aA (l.any p)):=by
 refine ah.af (rvs:=[.tmp 4]) G aa Tryz.func207 rfl Tryz.ntmps207 rfl rfl ?_;with_reducible refine wD ?_
 refine aj.lit [] (Ln g cg caps hcaps p l hl hf) Q5 ⟨rfl,⟨rfl,trivial,aD hcaps⟩,trivial⟩ rfl rfl ?_;with_reducible refine wK ?_
 (refine eK ?_ ?_<;>with_reducible repeat' (first|exact trivial|(show _∧_;refine aK ?_ ?_)))
 exact nB p l
theorem Ll (g:Nat)(cg:ae Tryz.prog g)(caps:List AV)(hcaps:aN caps=true)(p:bD→Bool)(l:List bD)(hl:l.length≤100000)(hf:∀a,a∈l→ah Tryz.prog g [] (jH a::caps) [] (aA (p a))):
  ah Tryz.prog 247 [] [nY l,.clo (.func g) [] caps] [] (aq (gh p l)):=by
 have hlm:(l.map fH).length=l.length:=List.length_map ..
 refine ah.af (rvs:=[.tmp 4]) G aa Tryz.func247 rfl Tryz.ntmps247 rfl rfl ?_;with_reducible refine wD ?_
 refine aU.use G aa (fun(k:Nat)=>[(0,nY l),(1,.clo (.func g) [] caps),(7,aq l.length),(8,aq k)]) (fun _=>[]) (fun k=>k≤l.length∧∀j x,j<k→l[j]? =some x→p x=false) (fun k=>l.length-k) 0 ⟨Nat.zero_le _,fun j x h=>by omega⟩
  ⟨⟨rfl,rfl⟩,⟨rfl,⟨rfl,trivial,aD hcaps⟩,by show(l.length:Int)=((l.map fH).length:Int);rw[hlm],rfl,trivial⟩,trivial⟩ ?_
 rintro k ⟨hk,hno⟩
 with_reducible refine wK ?_
 refine bq.mk (fun h1=>?_) (fun h1=>?_)<;>(try simp only[aF] at h1)<;>with_reducible refine wK ?_
 ·simp only[decide_eq_true_eq] at h1
  have hk':k<l.length:=by omega
  obtain⟨a,ha⟩:∃a,l[k]? =some a:=⟨_,List.getElem?_eq_getElem hk'⟩
  refine ay.mk k (jH a) rfl (dD ha) ?_;with_reducible refine wK ?_
  refine aj.lit [] (hf a (List.mem_of_getElem? ha)) cg ⟨⟨rfl,rfl,rfl,trivial⟩,aD hcaps⟩ rfl rfl ?_;with_reducible refine wK ?_
  refine bq.mk (fun h2=>?_) (fun h2=>?_)<;>(try simp only[aF] at h2)<;>with_reducible refine wK ?_
  ·(refine eK ?_ ?_<;>with_reducible repeat' (first|exact trivial|(show _∧_;refine aK ?_ ?_)))
   exact fD ha h2 hno
  ·refine nK ?_;with_reducible refine wK ?_
   refine aL.mk (k+1) ⟨by omega,fun j x hj hx=>?_⟩ (by omega) ⟨⟨rfl,rfl⟩,⟨rfl,⟨rfl,trivial,aD hcaps⟩,rfl,by show((k+1:Nat):Int)=(k:Int)+1;omega,trivial⟩,trivial⟩
   rcases Nat.lt_or_ge j k with h6|h6
   ·exact hno j x h6 hx
   ·have:j=k:=by omega
    subst this
    rw[ha] at hx;cases hx;exact h2
 ·(refine eK ?_ ?_<;>with_reducible repeat' (first|exact trivial|(show _∧_;refine aK ?_ ?_)))
  have:k=l.length:=by simp only[decide_eq_false_iff_not] at h1;omega
  exact ei fun j x hx=>hno j x (by have:=(List.getElem?_eq_some_iff.1 hx).1;omega) hx
theorem MK (g:Nat)(cg:ae Tryz.prog g)(caps:List AV)(hcaps:aN caps=true)(p:bD→Bool)(l:List bD)(hl:l.length≤100000)(hf:∀a,a∈l→ah Tryz.prog g [] (jH a::caps) [] (aA (p a))):
  ah Tryz.prog 208 [] [nY l,.clo (.func g) [] caps] [] (aA (l.any p)):=by
 refine ah.af (rvs:=[.tmp 4]) G aa Tryz.func208 rfl Tryz.ntmps208 rfl rfl ?_;with_reducible refine wD ?_
 refine aj.lit [] (Ll g cg caps hcaps p l hl hf) Qv ⟨rfl,⟨rfl,trivial,aD hcaps⟩,trivial⟩ rfl rfl ?_;with_reducible refine wK ?_
 (refine eK ?_ ?_<;>with_reducible repeat' (first|exact trivial|(show _∧_;refine aK ?_ ?_)))
 exact nB p l
theorem LK (g:Nat)(cg:ae Tryz.prog g)(caps:List AV)(hcaps:aN caps=true)(p:br→Bool)(l:List br)(hl:l.length≤100000)(hf:∀a,a∈l→ah Tryz.prog g [] (iD a::caps) [] (aA (p a))):
  ah Tryz.prog 211 [] [cF l,.clo (.func g) [] caps] [] (aq (gh p l)):=by
 have hlm:(l.map eM).length=l.length:=List.length_map ..
 refine ah.af (rvs:=[.tmp 4]) G aa Tryz.func211 rfl Tryz.ntmps211 rfl rfl ?_;with_reducible refine wD ?_
 refine aU.use G aa (fun(k:Nat)=>[(0,cF l),(1,.clo (.func g) [] caps),(7,aq l.length),(8,aq k)]) (fun _=>[]) (fun k=>k≤l.length∧∀j x,j<k→l[j]? =some x→p x=false) (fun k=>l.length-k) 0 ⟨Nat.zero_le _,fun j x h=>by omega⟩
  ⟨⟨rfl,rfl⟩,⟨rfl,⟨rfl,trivial,aD hcaps⟩,by show(l.length:Int)=((l.map eM).length:Int);rw[hlm],rfl,trivial⟩,trivial⟩ ?_
 rintro k ⟨hk,hno⟩
 with_reducible refine wK ?_
 refine bq.mk (fun h1=>?_) (fun h1=>?_)<;>(try simp only[aF] at h1)<;>with_reducible refine wK ?_
 ·simp only[decide_eq_true_eq] at h1
  have hk':k<l.length:=by omega
  obtain⟨a,ha⟩:∃a,l[k]? =some a:=⟨_,List.getElem?_eq_getElem hk'⟩
  refine ay.mk k (iD a) rfl (vT ha) ?_;with_reducible refine wK ?_
  refine aj.lit [] (hf a (List.mem_of_getElem? ha)) cg ⟨⟨rfl,rfl,rfl,rfl,rfl,rfl,rfl,rfl,rfl,rfl,trivial⟩,aD hcaps⟩ rfl rfl ?_;with_reducible refine wK ?_
  refine bq.mk (fun h2=>?_) (fun h2=>?_)<;>(try simp only[aF] at h2)<;>with_reducible refine wK ?_
  ·(refine eK ?_ ?_<;>with_reducible repeat' (first|exact trivial|(show _∧_;refine aK ?_ ?_)))
   exact fD ha h2 hno
  ·refine nK ?_;with_reducible refine wK ?_
   refine aL.mk (k+1) ⟨by omega,fun j x hj hx=>?_⟩ (by omega) ⟨⟨rfl,rfl⟩,⟨rfl,⟨rfl,trivial,aD hcaps⟩,rfl,by show((k+1:Nat):Int)=(k:Int)+1;omega,trivial⟩,trivial⟩
   rcases Nat.lt_or_ge j k with h6|h6
   ·exact hno j x h6 hx
   ·have:j=k:=by omega
    subst this
    rw[ha] at hx;cases hx;exact h2
 ·(refine eK ?_ ?_<;>with_reducible repeat' (first|exact trivial|(show _∧_;refine aK ?_ ?_)))
  have:k=l.length:=by simp only[decide_eq_false_iff_not] at h1;omega
  exact ei fun j x hx=>hno j x (by have:=(List.getElem?_eq_some_iff.1 hx).1;omega) hx
theorem MB (g:Nat)(cg:ae Tryz.prog g)(caps:List AV)(hcaps:aN caps=true)(p:br→Bool)(l:List br)(hl:l.length≤100000)(hf:∀a,a∈l→ah Tryz.prog g [] (iD a::caps) [] (aA (p a))):
  ah Tryz.prog 147 [] [cF l,.clo (.func g) [] caps] [] (aA (l.any p)):=by
 refine ah.af (rvs:=[.tmp 4]) G aa Tryz.func147 rfl Tryz.ntmps147 rfl rfl ?_;with_reducible refine wD ?_
 refine aj.lit [] (LK g cg caps hcaps p l hl hf) Rb ⟨rfl,⟨rfl,trivial,aD hcaps⟩,trivial⟩ rfl rfl ?_;with_reducible refine wK ?_
 (refine eK ?_ ?_<;>with_reducible repeat' (first|exact trivial|(show _∧_;refine aK ?_ ?_)))
 exact nB p l
theorem LW (g:Nat)(cg:ae Tryz.prog g)(caps:List AV)(hcaps:aN caps=true)(p:gw→Bool)(l:List gw)(hl:l.length≤100000)(hf:∀a,a∈l→ah Tryz.prog g [] (qB a::caps) [] (aA (p a))):
  ah Tryz.prog 212 [] [oL l,.clo (.func g) [] caps] [] (aq (gh p l)):=by
 have hlm:(l.map gx).length=l.length:=List.length_map ..
 refine ah.af (rvs:=[.tmp 4]) G aa Tryz.func212 rfl Tryz.ntmps212 rfl rfl ?_;with_reducible refine wD ?_
 refine aU.use G aa (fun(k:Nat)=>[(0,oL l),(1,.clo (.func g) [] caps),(7,aq l.length),(8,aq k)]) (fun _=>[]) (fun k=>k≤l.length∧∀j x,j<k→l[j]? =some x→p x=false) (fun k=>l.length-k) 0 ⟨Nat.zero_le _,fun j x h=>by omega⟩
  ⟨⟨rfl,rfl⟩,⟨rfl,⟨rfl,trivial,aD hcaps⟩,by show(l.length:Int)=((l.map gx).length:Int);rw[hlm],rfl,trivial⟩,trivial⟩ ?_
 rintro k ⟨hk,hno⟩
 with_reducible refine wK ?_
 refine bq.mk (fun h1=>?_) (fun h1=>?_)<;>(try simp only[aF] at h1)<;>with_reducible refine wK ?_
 ·simp only[decide_eq_true_eq] at h1
  have hk':k<l.length:=by omega
  obtain⟨a,ha⟩:∃a,l[k]? =some a:=⟨_,List.getElem?_eq_getElem hk'⟩
  refine ay.mk k (qB a) rfl (C6 ha) ?_;with_reducible refine wK ?_
  refine aj.lit [] (hf a (List.mem_of_getElem? ha)) cg ⟨⟨rfl,rfl,rfl,trivial⟩,aD hcaps⟩ rfl rfl ?_;with_reducible refine wK ?_
  refine bq.mk (fun h2=>?_) (fun h2=>?_)<;>(try simp only[aF] at h2)<;>with_reducible refine wK ?_
  ·(refine eK ?_ ?_<;>with_reducible repeat' (first|exact trivial|(show _∧_;refine aK ?_ ?_)))
   exact fD ha h2 hno
  ·refine nK ?_;with_reducible refine wK ?_
   refine aL.mk (k+1) ⟨by omega,fun j x hj hx=>?_⟩ (by omega) ⟨⟨rfl,rfl⟩,⟨rfl,⟨rfl,trivial,aD hcaps⟩,rfl,by show((k+1:Nat):Int)=(k:Int)+1;omega,trivial⟩,trivial⟩
   rcases Nat.lt_or_ge j k with h6|h6
   ·exact hno j x h6 hx
   ·have:j=k:=by omega
    subst this
    rw[ha] at hx;cases hx;exact h2
 ·(refine eK ?_ ?_<;>with_reducible repeat' (first|exact trivial|(show _∧_;refine aK ?_ ?_)))
  have:k=l.length:=by simp only[decide_eq_false_iff_not] at h1;omega
  exact ei fun j x hx=>hno j x (by have:=(List.getElem?_eq_some_iff.1 hx).1;omega) hx
theorem Mp (g:Nat)(cg:ae Tryz.prog g)(caps:List AV)(hcaps:aN caps=true)(p:gw→Bool)(l:List gw)(hl:l.length≤100000)(hf:∀a,a∈l→ah Tryz.prog g [] (qB a::caps) [] (aA (p a))):
  ah Tryz.prog 149 [] [oL l,.clo (.func g) [] caps] [] (aA (l.any p)):=by
 refine ah.af (rvs:=[.tmp 4]) G aa Tryz.func149 rfl Tryz.ntmps149 rfl rfl ?_;with_reducible refine wD ?_
 refine aj.lit [] (LW g cg caps hcaps p l hl hf) Rs ⟨rfl,⟨rfl,trivial,aD hcaps⟩,trivial⟩ rfl rfl ?_;with_reducible refine wK ?_
 (refine eK ?_ ?_<;>with_reducible repeat' (first|exact trivial|(show _∧_;refine aK ?_ ?_)))
 exact nB p l
theorem Lr (g:Nat)(cg:ae Tryz.prog g)(caps:List AV)(hcaps:aN caps=true)(p:aY→Bool)(l:List aY)(hl:l.length≤100000)(hf:∀a,a∈l→ah Tryz.prog g [] (fA a::caps) [] (aA (p a))):
  ah Tryz.prog 213 [] [gL l,.clo (.func g) [] caps] [] (aq (gh p l)):=by
 have hlm:(l.map bM).length=l.length:=List.length_map ..
 refine ah.af (rvs:=[.tmp 4]) G aa Tryz.func213 rfl Tryz.ntmps213 rfl rfl ?_;with_reducible refine wD ?_
 refine aU.use G aa (fun(k:Nat)=>[(0,gL l),(1,.clo (.func g) [] caps),(7,aq l.length),(8,aq k)]) (fun _=>[]) (fun k=>k≤l.length∧∀j x,j<k→l[j]? =some x→p x=false) (fun k=>l.length-k) 0 ⟨Nat.zero_le _,fun j x h=>by omega⟩
  ⟨⟨rfl,rfl⟩,⟨rfl,⟨rfl,trivial,aD hcaps⟩,by show(l.length:Int)=((l.map bM).length:Int);rw[hlm],rfl,trivial⟩,trivial⟩ ?_
 rintro k ⟨hk,hno⟩
 with_reducible refine wK ?_
 refine bq.mk (fun h1=>?_) (fun h1=>?_)<;>(try simp only[aF] at h1)<;>with_reducible refine wK ?_
 ·simp only[decide_eq_true_eq] at h1
  have hk':k<l.length:=by omega
  obtain⟨a,ha⟩:∃a,l[k]? =some a:=⟨_,List.getElem?_eq_getElem hk'⟩
  refine ay.mk k (fA a) rfl (ef ha) ?_;with_reducible refine wK ?_
  refine aj.lit [] (hf a (List.mem_of_getElem? ha)) cg ⟨⟨rfl,rfl,trivial⟩,aD hcaps⟩ rfl rfl ?_;with_reducible refine wK ?_
  refine bq.mk (fun h2=>?_) (fun h2=>?_)<;>(try simp only[aF] at h2)<;>with_reducible refine wK ?_
  ·(refine eK ?_ ?_<;>with_reducible repeat' (first|exact trivial|(show _∧_;refine aK ?_ ?_)))
   exact fD ha h2 hno
  ·refine nK ?_;with_reducible refine wK ?_
   refine aL.mk (k+1) ⟨by omega,fun j x hj hx=>?_⟩ (by omega) ⟨⟨rfl,rfl⟩,⟨rfl,⟨rfl,trivial,aD hcaps⟩,rfl,by show((k+1:Nat):Int)=(k:Int)+1;omega,trivial⟩,trivial⟩
   rcases Nat.lt_or_ge j k with h6|h6
   ·exact hno j x h6 hx
   ·have:j=k:=by omega
    subst this
    rw[ha] at hx;cases hx;exact h2
 ·(refine eK ?_ ?_<;>with_reducible repeat' (first|exact trivial|(show _∧_;refine aK ?_ ?_)))
  have:k=l.length:=by simp only[decide_eq_false_iff_not] at h1;omega
  exact ei fun j x hx=>hno j x (by have:=(List.getElem?_eq_some_iff.1 hx).1;omega) hx
theorem Mh (g:Nat)(cg:ae Tryz.prog g)(caps:List AV)(hcaps:aN caps=true)(p:aY→Bool)(l:List aY)(hl:l.length≤100000)(hf:∀a,a∈l→ah Tryz.prog g [] (fA a::caps) [] (aA (p a))):
  ah Tryz.prog 152 [] [gL l,.clo (.func g) [] caps] [] (aA (l.any p)):=by
 refine ah.af (rvs:=[.tmp 4]) G aa Tryz.func152 rfl Tryz.ntmps152 rfl rfl ?_;with_reducible refine wD ?_
 refine aj.lit [] (Lr g cg caps hcaps p l hl hf) Q2 ⟨rfl,⟨rfl,trivial,aD hcaps⟩,trivial⟩ rfl rfl ?_;with_reducible refine wK ?_
 (refine eK ?_ ?_<;>with_reducible repeat' (first|exact trivial|(show _∧_;refine aK ?_ ?_)))
 exact nB p l
theorem Lf (g:Nat)(cg:ae Tryz.prog g)(caps:List AV)(hcaps:aN caps=true)(p:bB→Bool)(l:List bB)(hl:l.length≤100000)(hf:∀a,a∈l→ah Tryz.prog g [] (kE a::caps) [] (aA (p a))):
  ah Tryz.prog 163 [] [jM l,.clo (.func g) [] caps] [] (aq (gh p l)):=by
 have hlm:(l.map gV).length=l.length:=List.length_map ..
 refine ah.af (rvs:=[.tmp 4]) G aa Tryz.func163 rfl Tryz.ntmps163 rfl rfl ?_;with_reducible refine wD ?_
 refine aU.use G aa (fun(k:Nat)=>[(0,jM l),(1,.clo (.func g) [] caps),(7,aq l.length),(8,aq k)]) (fun _=>[]) (fun k=>k≤l.length∧∀j x,j<k→l[j]? =some x→p x=false) (fun k=>l.length-k) 0 ⟨Nat.zero_le _,fun j x h=>by omega⟩
  ⟨⟨rfl,rfl⟩,⟨rfl,⟨rfl,trivial,aD hcaps⟩,by show(l.length:Int)=((l.map gV).length:Int);rw[hlm],rfl,trivial⟩,trivial⟩ ?_
 rintro k ⟨hk,hno⟩
 with_reducible refine wK ?_
 refine bq.mk (fun h1=>?_) (fun h1=>?_)<;>(try simp only[aF] at h1)<;>with_reducible refine wK ?_
 ·simp only[decide_eq_true_eq] at h1
  have hk':k<l.length:=by omega
  obtain⟨a,ha⟩:∃a,l[k]? =some a:=⟨_,List.getElem?_eq_getElem hk'⟩
  refine ay.mk k (kE a) rfl (oU ha) ?_;with_reducible refine wK ?_
  refine aj.lit [] (hf a (List.mem_of_getElem? ha)) cg ⟨⟨rfl,rfl,rfl,rfl,rfl,rfl,rfl,rfl,rfl,rfl,rfl,trivial⟩,aD hcaps⟩ rfl rfl ?_;with_reducible refine wK ?_
  refine bq.mk (fun h2=>?_) (fun h2=>?_)<;>(try simp only[aF] at h2)<;>with_reducible refine wK ?_
  ·(refine eK ?_ ?_<;>with_reducible repeat' (first|exact trivial|(show _∧_;refine aK ?_ ?_)))
   exact fD ha h2 hno
  ·refine nK ?_;with_reducible refine wK ?_
   refine aL.mk (k+1) ⟨by omega,fun j x hj hx=>?_⟩ (by omega) ⟨⟨rfl,rfl⟩,⟨rfl,⟨rfl,trivial,aD hcaps⟩,rfl,by show((k+1:Nat):Int)=(k:Int)+1;omega,trivial⟩,trivial⟩
   rcases Nat.lt_or_ge j k with h6|h6
   ·exact hno j x h6 hx
   ·have:j=k:=by omega
    subst this
    rw[ha] at hx;cases hx;exact h2
 ·(refine eK ?_ ?_<;>with_reducible repeat' (first|exact trivial|(show _∧_;refine aK ?_ ?_)))
  have:k=l.length:=by simp only[decide_eq_false_iff_not] at h1;omega
  exact ei fun j x hx=>hno j x (by have:=(List.getElem?_eq_some_iff.1 hx).1;omega) hx
theorem KG (g:Nat)(cg:ae Tryz.prog g)(caps:List AV)(hcaps:aN caps=true)(p:bB→Bool)(l:List bB)(hl:l.length≤100000)(hf:∀a,a∈l→ah Tryz.prog g [] (kE a::caps) [] (aA (p a))):
  ah Tryz.prog 97 [] [jM l,.clo (.func g) [] caps] [] (aA (l.any p)):=by
 refine ah.af (rvs:=[.tmp 4]) G aa Tryz.func97 rfl Tryz.ntmps97 rfl rfl ?_;with_reducible refine wD ?_
 refine aj.lit [] (Lf g cg caps hcaps p l hl hf) Qq ⟨rfl,⟨rfl,trivial,aD hcaps⟩,trivial⟩ rfl rfl ?_;with_reducible refine wK ?_
 (refine eK ?_ ?_<;>with_reducible repeat' (first|exact trivial|(show _∧_;refine aK ?_ ?_)))
 exact nB p l
theorem K8 (g:Nat)(cg:ae Tryz.prog g)(caps:List AV)(hcaps:aN caps=true)(p:(List br)→Bool)(l:List (List br))(hl:l.length≤100000)(hf:∀a,a∈l→ah Tryz.prog g [] (cF a::caps) [] (aA (p a))):
  ah Tryz.prog 186 [] [iP l,.clo (.func g) [] caps] [] (aq (gh p l)):=by
 have hlm:(l.map cI).length=l.length:=List.length_map ..
 refine ah.af (rvs:=[.tmp 4]) G aa Tryz.func186 rfl Tryz.ntmps186 rfl rfl ?_;with_reducible refine wD ?_
 refine aU.use G aa (fun(k:Nat)=>[(0,iP l),(1,.clo (.func g) [] caps),(7,aq l.length),(8,aq k)]) (fun _=>[]) (fun k=>k≤l.length∧∀j x,j<k→l[j]? =some x→p x=false) (fun k=>l.length-k) 0 ⟨Nat.zero_le _,fun j x h=>by omega⟩
  ⟨⟨rfl,rfl⟩,⟨rfl,⟨rfl,trivial,aD hcaps⟩,by show(l.length:Int)=((l.map cI).length:Int);rw[hlm],rfl,trivial⟩,trivial⟩ ?_
 rintro k ⟨hk,hno⟩
 with_reducible refine wK ?_
 refine bq.mk (fun h1=>?_) (fun h1=>?_)<;>(try simp only[aF] at h1)<;>with_reducible refine wK ?_
 ·simp only[decide_eq_true_eq] at h1
  have hk':k<l.length:=by omega
  obtain⟨a,ha⟩:∃a,l[k]? =some a:=⟨_,List.getElem?_eq_getElem hk'⟩
  refine ay.mk k (cF a) rfl (cz ha) ?_;with_reducible refine wK ?_
  refine aj.lit [] (hf a (List.mem_of_getElem? ha)) cg ⟨rfl,aD hcaps⟩ rfl rfl ?_;with_reducible refine wK ?_
  refine bq.mk (fun h2=>?_) (fun h2=>?_)<;>(try simp only[aF] at h2)<;>with_reducible refine wK ?_
  ·(refine eK ?_ ?_<;>with_reducible repeat' (first|exact trivial|(show _∧_;refine aK ?_ ?_)))
   exact fD ha h2 hno
  ·refine nK ?_;with_reducible refine wK ?_
   refine aL.mk (k+1) ⟨by omega,fun j x hj hx=>?_⟩ (by omega) ⟨⟨rfl,rfl⟩,⟨rfl,⟨rfl,trivial,aD hcaps⟩,rfl,by show((k+1:Nat):Int)=(k:Int)+1;omega,trivial⟩,trivial⟩
   rcases Nat.lt_or_ge j k with h6|h6
   ·exact hno j x h6 hx
   ·have:j=k:=by omega
    subst this
    rw[ha] at hx;cases hx;exact h2
 ·(refine eK ?_ ?_<;>with_reducible repeat' (first|exact trivial|(show _∧_;refine aK ?_ ?_)))
  have:k=l.length:=by simp only[decide_eq_false_iff_not] at h1;omega
  exact ei fun j x hx=>hno j x (by have:=(List.getElem?_eq_some_iff.1 hx).1;omega) hx
theorem LQ (g:Nat)(cg:ae Tryz.prog g)(caps:List AV)(hcaps:aN caps=true)(p:(List br)→Bool)(l:List (List br))(hl:l.length≤100000)(hf:∀a,a∈l→ah Tryz.prog g [] (cF a::caps) [] (aA (p a))):
  ah Tryz.prog 111 [] [iP l,.clo (.func g) [] caps] [] (aA (l.any p)):=by
 refine ah.af (rvs:=[.tmp 4]) G aa Tryz.func111 rfl Tryz.ntmps111 rfl rfl ?_;with_reducible refine wD ?_
 refine aj.lit [] (K8 g cg caps hcaps p l hl hf) RM ⟨rfl,⟨rfl,trivial,aD hcaps⟩,trivial⟩ rfl rfl ?_;with_reducible refine wK ?_
 (refine eK ?_ ?_<;>with_reducible repeat' (first|exact trivial|(show _∧_;refine aK ?_ ?_)))
 exact nB p l
theorem F3 (l:List br):lF (flat (l.map eM))=true:=gj eM (fun _=>rfl) l
@[reducible] def AR (l : List br) : MS := .live 10 (l.map eM) false
theorem vO (l:List br):fR [AR l]:=⟨bw.eD fun r hr=>by
 obtain⟨a,_,rfl⟩:=List.mem_map.1 hr
 rfl,dV l,trivial⟩
theorem qf {m:ML}{fz:Nat→Bool}{ck:List (Nat×Nat)}{n t len:Nat}{ro:Bool}{rows:List AV}{l:List br}(h1:ej m t=.live 10 rows ro)(h2:fz t=true)(h3:rows=l.map eM)(h4:len=l.length):nq m fz (MF ck fz m n) (cF l) t 0 len:=by
 subst h3;subst h4
 have e:(l.map eM).length=l.length:=List.length_map ..
 exact .cut h1 h2 (by omega) (by rw[List.drop_zero,List.take_of_length_le (by omega)]) (dV l)
theorem DY (l:List br)(hl:l.length≤100000):ah Tryz.prog 218 [] [cF l] [AR l] (.own 0 0 l.length):=by
 have hlm:(l.map eM).length=l.length:=List.length_map ..
 refine ah.af (rvs:=[.tmp 2]) G aa Tryz.func218 rfl Tryz.ntmps218 rfl rfl ?_;with_reducible refine wD ?_
 refine ji.mk (fun h=>?_) (fun _=>?_)<;>with_reducible refine wK ?_
 ·obtain rfl:l=[]:=by simpa using h
  (refine eK ?_ ?_<;>with_reducible repeat' (first|exact trivial|(show _∧_;refine aK ?_ ?_)))
  all_goals first|rfl|trivial
 ·refine dI.mk [] (l.map eM) ⟨rfl,rfl,rfl⟩ ⟨rfl,rfl,rfl⟩ (F3 l) (by simp;omega) (by simp;omega) ?_;with_reducible refine wK ?_
  (refine eK ?_ ?_<;>with_reducible repeat' (first|exact trivial|(show _∧_;refine aK ?_ ?_)))
  ·exact hlm.symm
  ·exact aD (dV l)
theorem Ex (l:List (List br)):lF (flat (l.map cI))=true:=gj cI (fun _=>rfl) l
@[reducible] def kj (l : List (List br)) : MS := .live 1 (l.map cI) false
theorem Ck (l:List (List br)):fR [kj l]:=⟨bw.eD fun r hr=>by
 obtain⟨a,_,rfl⟩:=List.mem_map.1 hr
 rfl,ct l,trivial⟩
theorem Cl (l:List (List br))(hl:l.length≤100000):ah Tryz.prog 216 [] [iP l] [kj l] (.own 0 0 l.length):=by
 have hlm:(l.map cI).length=l.length:=List.length_map ..
 refine ah.af (rvs:=[.tmp 2]) G aa Tryz.func216 rfl Tryz.ntmps216 rfl rfl ?_;with_reducible refine wD ?_
 refine ji.mk (fun h=>?_) (fun _=>?_)<;>with_reducible refine wK ?_
 ·obtain rfl:l=[]:=by simpa using h
  (refine eK ?_ ?_<;>with_reducible repeat' (first|exact trivial|(show _∧_;refine aK ?_ ?_)))
  all_goals first|rfl|trivial
 ·refine dI.mk [] (l.map cI) ⟨rfl,rfl,rfl⟩ ⟨rfl,rfl,rfl⟩ (Ex l) (by simp;omega) (by simp;omega) ?_;with_reducible refine wK ?_
  (refine eK ?_ ?_<;>with_reducible repeat' (first|exact trivial|(show _∧_;refine aK ?_ ?_)))
  ·exact hlm.symm
  ·exact aD (ct l)
theorem Gw (l:List (List Int)):lF (flat (l.map gg))=true:=gj gg (fun _=>rfl) l
@[reducible] def nG (l : List (List Int)) : MS := .live 1 (l.map gg) false
theorem vY (l:List (List Int)):fR [nG l]:=⟨bw.eD fun r hr=>by
 obtain⟨a,_,rfl⟩:=List.mem_map.1 hr
 rfl,ee l,trivial⟩
theorem pO {m:ML}{fz:Nat→Bool}{ck:List (Nat×Nat)}{n t len:Nat}{ro:Bool}{rows:List AV}{l:List (List Int)}(h1:ej m t=.live 1 rows ro)(h2:fz t=true)(h3:rows=l.map gg)(h4:len=l.length):nq m fz (MF ck fz m n) (nC l) t 0 len:=by
 subst h3;subst h4
 have e:(l.map gg).length=l.length:=List.length_map ..
 exact .cut h1 h2 (by omega) (by rw[List.drop_zero,List.take_of_length_le (by omega)]) (ee l)
theorem xB (l:List (List Int))(hl:l.length≤100000):ah Tryz.prog 209 [] [nC l] [nG l] (.own 0 0 l.length):=by
 have hlm:(l.map gg).length=l.length:=List.length_map ..
 refine ah.af (rvs:=[.tmp 2]) G aa Tryz.func209 rfl Tryz.ntmps209 rfl rfl ?_;with_reducible refine wD ?_
 refine ji.mk (fun h=>?_) (fun _=>?_)<;>with_reducible refine wK ?_
 ·obtain rfl:l=[]:=by simpa using h
  (refine eK ?_ ?_<;>with_reducible repeat' (first|exact trivial|(show _∧_;refine aK ?_ ?_)))
  all_goals first|rfl|trivial
 ·refine dI.mk [] (l.map gg) ⟨rfl,rfl,rfl⟩ ⟨rfl,rfl,rfl⟩ (Gw l) (by simp;omega) (by simp;omega) ?_;with_reducible refine wK ?_
  (refine eK ?_ ?_<;>with_reducible repeat' (first|exact trivial|(show _∧_;refine aK ?_ ?_)))
  ·exact hlm.symm
  ·exact aD (ee l)
theorem Gu (l:List gw):lF (flat (l.map gx))=true:=gj gx (fun _=>rfl) l
@[reducible] def EG (l : List gw) : MS := .live 3 (l.map gx) false
theorem Ef (l:List gw):fR [EG l]:=⟨bw.eD fun r hr=>by
 obtain⟨a,_,rfl⟩:=List.mem_map.1 hr
 rfl,dX l,trivial⟩
theorem G6 {m:ML}{fz:Nat→Bool}{ck:List (Nat×Nat)}{n t len:Nat}{ro:Bool}{rows:List AV}{l:List gw}(h1:ej m t=.live 3 rows ro)(h2:fz t=true)(h3:rows=l.map gx)(h4:len=l.length):nq m fz (MF ck fz m n) (oL l) t 0 len:=by
 subst h3;subst h4
 have e:(l.map gx).length=l.length:=List.length_map ..
 exact .cut h1 h2 (by omega) (by rw[List.drop_zero,List.take_of_length_le (by omega)]) (dX l)
theorem Ev (l:List gw)(hl:l.length≤100000):ah Tryz.prog 164 [] [oL l] [EG l] (.own 0 0 l.length):=by
 have hlm:(l.map gx).length=l.length:=List.length_map ..
 refine ah.af (rvs:=[.tmp 2]) G aa Tryz.func164 rfl Tryz.ntmps164 rfl rfl ?_;with_reducible refine wD ?_
 refine ji.mk (fun h=>?_) (fun _=>?_)<;>with_reducible refine wK ?_
 ·obtain rfl:l=[]:=by simpa using h
  (refine eK ?_ ?_<;>with_reducible repeat' (first|exact trivial|(show _∧_;refine aK ?_ ?_)))
  all_goals first|rfl|trivial
 ·refine dI.mk [] (l.map gx) ⟨rfl,rfl,rfl⟩ ⟨rfl,rfl,rfl⟩ (Gu l) (by simp;omega) (by simp;omega) ?_;with_reducible refine wK ?_
  (refine eK ?_ ?_<;>with_reducible repeat' (first|exact trivial|(show _∧_;refine aK ?_ ?_)))
  ·exact hlm.symm
  ·exact aD (dX l)
theorem Dw (l:List aY):lF (flat (l.map bM))=true:=gj bM (fun _=>rfl) l
@[reducible] def FY (l : List aY) : MS := .live 2 (l.map bM) false
theorem uZ (l:List aY):fR [FY l]:=⟨bw.eD fun r hr=>by
 obtain⟨a,_,rfl⟩:=List.mem_map.1 hr
 rfl,j9 l,trivial⟩
theorem vU {m:ML}{fz:Nat→Bool}{ck:List (Nat×Nat)}{n t len:Nat}{ro:Bool}{rows:List AV}{l:List aY}(h1:ej m t=.live 2 rows ro)(h2:fz t=true)(h3:rows=l.map bM)(h4:len=l.length):nq m fz (MF ck fz m n) (gL l) t 0 len:=by
 subst h3;subst h4
 have e:(l.map bM).length=l.length:=List.length_map ..
 exact .cut h1 h2 (by omega) (by rw[List.drop_zero,List.take_of_length_le (by omega)]) (j9 l)
theorem uQ (l:List aY)(hl:l.length≤100000):ah Tryz.prog 114 [] [gL l] [FY l] (.own 0 0 l.length):=by
 have hlm:(l.map bM).length=l.length:=List.length_map ..
 refine ah.af (rvs:=[.tmp 2]) G aa Tryz.func114 rfl Tryz.ntmps114 rfl rfl ?_;with_reducible refine wD ?_
 refine ji.mk (fun h=>?_) (fun _=>?_)<;>with_reducible refine wK ?_
 ·obtain rfl:l=[]:=by simpa using h
  (refine eK ?_ ?_<;>with_reducible repeat' (first|exact trivial|(show _∧_;refine aK ?_ ?_)))
  all_goals first|rfl|trivial
 ·refine dI.mk [] (l.map bM) ⟨rfl,rfl,rfl⟩ ⟨rfl,rfl,rfl⟩ (Dw l) (by simp;omega) (by simp;omega) ?_;with_reducible refine wK ?_
  (refine eK ?_ ?_<;>with_reducible repeat' (first|exact trivial|(show _∧_;refine aK ?_ ?_)))
  ·exact hlm.symm
  ·exact aD (j9 l)
theorem Cr (l:List aH):lF (flat (l.map dM))=true:=gj dM (fun _=>rfl) l
@[reducible] def CG (l : List aH) : MS := .live 5 (l.map dM) false
theorem tw (l:List aH):fR [CG l]:=⟨bw.eD fun r hr=>by
 obtain⟨a,_,rfl⟩:=List.mem_map.1 hr
 rfl,jz l,trivial⟩
theorem uK {m:ML}{fz:Nat→Bool}{ck:List (Nat×Nat)}{n t len:Nat}{ro:Bool}{rows:List AV}{l:List aH}(h1:ej m t=.live 5 rows ro)(h2:fz t=true)(h3:rows=l.map dM)(h4:len=l.length):nq m fz (MF ck fz m n) (bJ l) t 0 len:=by
 subst h3;subst h4
 have e:(l.map dM).length=l.length:=List.length_map ..
 exact .cut h1 h2 (by omega) (by rw[List.drop_zero,List.take_of_length_le (by omega)]) (jz l)
theorem AD (l:List aH)(hl:l.length≤100000):ah Tryz.prog 91 [] [bJ l] [CG l] (.own 0 0 l.length):=by
 have hlm:(l.map dM).length=l.length:=List.length_map ..
 refine ah.af (rvs:=[.tmp 2]) G aa Tryz.func91 rfl Tryz.ntmps91 rfl rfl ?_;with_reducible refine wD ?_
 refine ji.mk (fun h=>?_) (fun _=>?_)<;>with_reducible refine wK ?_
 ·obtain rfl:l=[]:=by simpa using h
  (refine eK ?_ ?_<;>with_reducible repeat' (first|exact trivial|(show _∧_;refine aK ?_ ?_)))
  all_goals first|rfl|trivial
 ·refine dI.mk [] (l.map dM) ⟨rfl,rfl,rfl⟩ ⟨rfl,rfl,rfl⟩ (Cr l) (by simp;omega) (by simp;omega) ?_;with_reducible refine wK ?_
  (refine eK ?_ ?_<;>with_reducible repeat' (first|exact trivial|(show _∧_;refine aK ?_ ?_)))
  ·exact hlm.symm
  ·exact aD (jz l)
@[reducible] def Ql (l : bK) : MS := .live 4 [gU l] false
theorem zF (l:List Int):fR [gX l]:=⟨bw.eD fun r hr=>by
 obtain⟨a,_,rfl⟩:=List.mem_map.1 hr
 rfl,aQ l,trivial⟩
theorem zz (l:List Int)(hl:l.length≤100000):ah Tryz.prog 217 [] [bY l] [gX l] (.own 0 0 l.length):=by
 have hlm:(l.map bF).length=l.length:=List.length_map ..
 refine ah.af (rvs:=[.tmp 2]) G aa Tryz.func217 rfl Tryz.ntmps217 rfl rfl ?_;with_reducible refine wD ?_
 refine ji.mk (fun h=>?_) (fun _=>?_)<;>with_reducible refine wK ?_
 ·obtain rfl:l=[]:=by simpa using h
  (refine eK ?_ ?_<;>with_reducible repeat' (first|exact trivial|(show _∧_;refine aK ?_ ?_)))
  all_goals first|rfl|trivial
 ·refine dI.mk [] (l.map bF) ⟨rfl,rfl,rfl⟩ ⟨rfl,rfl,rfl⟩ (gj bF (fun _=>rfl) l) (by simp;omega) (by simp;omega) ?_;with_reducible refine wK ?_
  (refine eK ?_ ?_<;>with_reducible repeat' (first|exact trivial|(show _∧_;refine aK ?_ ?_)))
  ·exact hlm.symm
  ·exact aD (aQ l)
theorem wJ (l:bK)(h1:l.todos.length≤100000)(h2:l.stack.length≤100000)(h3:l.back.length≤100000):ah Tryz.prog 159 [] [gU l] [kj l.todos,nG l.stack,gX l.back] (.agg [.own 0 0 l.todos.length,.own 1 0 l.stack.length,.own 2 0 l.back.length,aA l.busy]):=by
 have a1:=Cl l.todos h1
 have a2:=xB l.stack h2
 have a3:=zz l.back h3
 obtain⟨a,b,c,d⟩:=l
 simp only at a1 a2 a3 ⊢
 refine ah.af (rvs:=[.cell 2 34]) G aa Tryz.func159 rfl Tryz.ntmps159 rfl rfl ?_;with_reducible refine wD ?_
 repeat' (first
  |refine gK ?_|refine aE ?_ ?_
  | ((first
   |((with_reducible refine kQ 216 ?_);refine aj.new 51 [] a1 QL ⟨rfl,trivial⟩ rfl rfl rfl (Ck _) rfl ?_)
   |((with_reducible refine kQ 209 ?_);refine aj.new 81 [] a2 O1 ⟨rfl,trivial⟩ rfl rfl rfl (vY _) rfl ?_)
   |((with_reducible refine kQ 217 ?_);refine aj.new 111 [] a3 O4 ⟨rfl,trivial⟩ rfl rfl rfl (zF _) rfl ?_))<;>with_reducible refine wK ?_)
  |apply trivial)
 all_goals first
  |exact⟨.refl (ct _),ct _⟩
  |exact⟨.refl (ee _),ee _⟩
  |exact⟨.refl (aQ _),aQ _⟩
  |exact aD (ct _)
  |exact aD (ee _)
  |exact aD (aQ _)
theorem AI (l:bK)(n:Int):ah Tryz.prog 210 [] [gU l,aq n] [] (aA (dG l n)):=by
 have hlm:=(show(l.todos.map cI).length=l.todos.length from List.length_map ..)
 unfold dG
 obtain⟨a,b,c,d⟩:=l
 simp only at hlm
 by_cases h1:0≤n
 ·refine ah.af (rvs:=[.tmp 4]) G aa Tryz.func210 rfl Tryz.ntmps210 rfl rfl ?_;with_reducible refine wD ?_
  (have fct:=And.intro (eq_true h1) (hlm);(repeat' (first
  |refine gF ?_|refine aE ?_ ?_
  |apply trivial));all_goals clear fct)
  all_goals first|(simp[h1,hlm];done)
 ·refine ah.af (rvs:=[.tmp 4]) G aa Tryz.func210 rfl Tryz.ntmps210 rfl rfl ?_;with_reducible refine wD ?_
  (have fct:=And.intro (eq_false h1) (hlm);(repeat' (first
  |refine gF ?_|refine aE ?_ ?_
  |apply trivial));all_goals clear fct)
  all_goals first|(simp[h1];done)
theorem F2 {l:bK}{k j:Nat}{s:List Int}{n:Int}(h:(l.stack++ [l.back])[k]? =some s)(h2:s[j]? =some n)(h3:dG l n=false):vo l=false:=by
 rw[Bool.eq_false_iff]
 intro h0
 unfold vo at h0
 rw[Bool.and_eq_true,List.all_eq_true,List.all_eq_true] at h0
 have hm:=List.mem_of_getElem? h
 have hn:=List.mem_of_getElem? h2
 rcases List.mem_append.1 hm with e|e
 ·have:=List.all_eq_true.1 (h0.1 s e) n hn
  rw[h3] at this;cases this
 ·rw[List.mem_singleton.1 e] at hn
  have:=h0.2 n hn
  rw[h3] at this;cases this
theorem JB {l:bK}(h:∀ (k:Nat) s,(l.stack++ [l.back])[k]? =some s→∀ (j:Nat) n,s[j]? =some n→dG l n=true):vo l=true:=by
 unfold vo
 rw[Bool.and_eq_true,List.all_eq_true,List.all_eq_true]
 constructor
 ·intro s hs
  rw[List.all_eq_true]
  intro n hn
  obtain⟨k,hk⟩:=List.getElem?_of_mem (List.mem_append_left [l.back] hs)
  obtain⟨j,hj⟩:=List.getElem?_of_mem hn
  exact h k s hk j n hj
 ·intro n hn
  obtain⟨k,hk⟩:=List.getElem?_of_mem (List.mem_append_right l.stack (List.mem_singleton.2 (rfl:l.back=l.back)))
  obtain⟨j,hj⟩:=List.getElem?_of_mem hn
  exact h k _ hk j n hj
theorem qL (l:bK)(hs:kV 99000 l):ah Tryz.prog 145 [] [gU l] [] (aA (vo l)):=by
 have a2:=xB l.stack (by have:=hs.stack;omega)
 have hin:=fun n=>AI l n
 have hlen:=hs.stack
 obtain⟨L,hL⟩:∃L,l.stack++ [l.back]=L:=⟨_,rfl⟩
 have hno:∀ {k j:Nat} {s:List Int} {n:Int},L[k]? =some s→s[j]? =some n→dG l n=false→vo l=false:=fun h=>by rw[←hL] at h;exact F2 h
 have hyes:(∀ (k:Nat) s,L[k]? =some s→∀ (j:Nat) n,s[j]? =some n→dG l n=true)→vo l=true:=fun h=>by rw[←hL] at h;exact JB h
 have hsm:∀s∈L,s.length≤99000:=fun s h=>by
  rw[←hL] at h
  rcases List.mem_append.1 h with e|e
  ·exact hs.list s e
  ·rw[List.mem_singleton.1 e];exact hs.back
 have hLn:L.length=l.stack.length+1:=by rw[←hL];simp
 generalize vo l=res at hno hyes
 obtain⟨a,b,c,d⟩:=l
 simp only at a2 hlen hL hLn
 have hbm:(b.map gg).length=b.length:=List.length_map ..
 have hLm:(L.map gg).length=L.length:=List.length_map ..
 have hmap:b.map gg++ [bY c]=L.map gg:=by rw[←hL,List.map_append];rfl
 refine ah.af (rvs:=[.tmp 2]) G aa Tryz.func145 rfl Tryz.ntmps145 rfl rfl ?_;with_reducible refine wD ?_
 repeat' (first
  |refine gK ?_|refine aE ?_ ?_
  | ((first
   |((with_reducible refine kQ 209 ?_);refine aj.new 91 [] a2 O1 ⟨rfl,trivial⟩ rfl rfl rfl (vY _) rfl ?_)
   |((with_reducible show dI _ _ _ _ _ _ _ _ _ _);refine dI.mk (b.map gg) [bY c] ⟨rfl,hbm.symm,rfl⟩ ⟨rfl,rfl,rfl⟩ rfl (by simp;omega) (by simp;omega) ?_))<;>with_reducible refine wK ?_)
  |apply trivial)
 rw[hmap]
 refine aU.use G aa (fun(k:Nat)=>[(1,.ptr 10 0 0),(13,nC L),(14,aq L.length),(15,aq k)]) (fun _=>[(10,Ql ⟨a,b,c,d⟩)])
  (fun k=>k≤L.length∧∀ (i:Nat) s,i<k→L[i]? =some s→∀ (j:Nat) n,s[j]? =some n→dG ⟨a,b,c,d⟩ n=true) (fun k=>L.length-k) 0 ⟨Nat.zero_le _,fun i s h=>by omega⟩ ?_ ?_
 ·(refine fK ?_;(with_reducible repeat' (first|exact trivial|(show _∧_;refine aK ?_ ?_)));(all_goals try rfl))
  all_goals first
   |(show(L.length:Int)=_;rw[hLn];rfl)
   |exact pO rfl rfl rfl hLm
   |rw[hLm,hLn]
   |rw[hLm]
 rintro k ⟨hk,hok⟩
 with_reducible refine wK ?_
 refine bq.mk (fun h1=>?_) (fun h1=>?_)<;>(try simp only[aF] at h1)<;>with_reducible refine wK ?_
 ·have hk':k<L.length:=by simp only[decide_eq_true_eq] at h1;omega
  obtain⟨s,hx⟩:∃x,L[k]? =some x:=⟨_,List.getElem?_eq_getElem hk'⟩
  have hsl:=hsm s (List.mem_of_getElem? hx)
  have hsml:(s.map bF).length=s.length:=List.length_map ..
  refine ay.mk k (bY s) rfl (lD hx) ?_;with_reducible refine wK ?_
  refine aU.use G aa (fun(j:Nat)=>[(1,.ptr 10 0 0),(13,nC L),(14,aq L.length),(15,aq k),(19,bY s),(20,aq s.length),(21,aq j)]) (fun _=>[(10,Ql ⟨a,b,c,d⟩)])
   (fun j=>j≤s.length∧∀ (i:Nat) n,i<j→s[i]? =some n→dG ⟨a,b,c,d⟩ n=true) (fun j=>s.length-j) 0 ⟨Nat.zero_le _,fun i n h=>by omega⟩ ?_ ?_
  ·(refine fK ?_;(with_reducible repeat' (first|exact trivial|(show _∧_;refine aK ?_ ?_)));(all_goals try rfl))
   all_goals first|(show(s.length:Int)=_;rw[hsml])
  rintro j ⟨hj,hoj⟩
  with_reducible refine wK ?_
  refine bq.mk (fun h2=>?_) (fun h2=>?_)<;>(try simp only[aF] at h2)<;>with_reducible refine wK ?_
  ·have hj':j<s.length:=by simp only[decide_eq_true_eq] at h2;omega
   obtain⟨n,hn⟩:∃x,s[j]? =some x:=⟨_,List.getElem?_eq_getElem hj'⟩
   have hin:=hin n
   refine ay.mk j (aq n) rfl (fZ hn) ?_;with_reducible refine wK ?_
   cases e:dG ⟨a,b,c,d⟩ n with
   | false=>
     rw[e] at hin
     have hr:=hno hx hn e
     repeat' (first
  |refine gK ?_|refine aE ?_ ?_
  |(((with_reducible refine kQ 210 ?_);refine cL hin D7 ?_)<;>with_reducible refine wK ?_)
  | apply trivial)
     all_goals first|exact hr.symm|exact hr
   | true=>
     rw[e] at hin
     have hnx:∀ (i:Nat) m,i<j+1→s[i]? =some m→dG ⟨a,b,c,d⟩ m=true:=fun i m hi hm=>by
      rcases Nat.lt_or_ge i j with h6|h6
      ·exact hoj i m h6 hm
      ·have:i=j:=by omega
       subst this
       rw[hn] at hm;cases hm;exact e
     repeat' (first
  |refine gK ?_|refine aE ?_ ?_
  |(((with_reducible refine kQ 210 ?_);refine cL hin D7 ?_)<;>with_reducible refine wK ?_)
  |apply trivial)
     refine aL.mk (j+1) ⟨by omega,hnx⟩ (by omega) ?_
     (refine fK ?_;(with_reducible repeat' (first|exact trivial|(show _∧_;refine aK ?_ ?_)));(all_goals try rfl))
     all_goals first|(simp;done)
  ·have hjl:j=s.length:=by simp only[decide_eq_false_iff_not] at h2;omega
   have hnx:∀ (i:Nat) t,i<k+1→L[i]? =some t→∀ (j:Nat) n,t[j]? =some n→dG ⟨a,b,c,d⟩ n=true:=fun i t hi ht q n hq=>by
    rcases Nat.lt_or_ge i k with h6|h6
    ·exact hok i t h6 ht q n hq
    ·have:i=k:=by omega
     subst this
     rw[hx] at ht;cases ht
     exact hoj q n (by have:=(List.getElem?_eq_some_iff.1 hq).1;omega) hq
   repeat' (first
  |refine gK ?_|refine aE ?_ ?_
  | apply trivial)
   refine aL.mk (k+1) ⟨by omega,hnx⟩ (by omega) ?_
   (refine fK ?_;(with_reducible repeat' (first|exact trivial|(show _∧_;refine aK ?_ ?_)));(all_goals try rfl))
   all_goals first|(simp;done)
 ·have hkl:k=L.length:=by simp only[decide_eq_false_iff_not] at h1;omega
  have hr:=hyes fun i s hs j n hn=>hok i s (by have:=(List.getElem?_eq_some_iff.1 hs).1;omega) hs j n hn
  repeat' (first
  |refine gK ?_|refine aE ?_ ?_
  |apply trivial)
  all_goals first|exact hr.symm|exact hr
theorem C5 {α:Type}(o:α→AV){wd:Nat}{m:ML}{fz:Nat→Bool}{ck:List (Nat×Nat)}{n t L:Nat}{ro:Bool}{rows:List AV}{l:List α}{y:α}{z:AV}(h1:ej m t=.live wd rows ro)(h2:fz t=true)(h3:rows=l.map o++ [z])(h4:L=l.length+1)(hn:∀l:List α,aN (l.map o)=true)(h6:MF ck fz m n (o y) z):nq m fz (MF ck fz m n) (.sl wd ((l++ [y]).map o)) t 0 L:=by
 subst h3;subst h4
 have e:(l.map o++ [z]).length=l.length+1:=by simp
 refine⟨wd,_,ro,_,h1,h2,rfl,by omega,hn _,?_,?_⟩
 ·rw[List.drop_zero,List.take_of_length_le (by omega)];simp
 ·intro i x w hx hw
  rw[List.drop_zero,List.take_of_length_le (by omega)] at hw
  rw[List.map_append] at hx
  by_cases hi:i<l.length
  ·rw[List.getElem?_append_left (by simpa using hi)] at hx hw
   rw[hx] at hw;cases hw
   exact lR n x (bL.1 (hn l) _ (List.mem_of_getElem? hx))
  ·have hi2:=(List.getElem?_eq_some_iff.1 hw).1
   obtain rfl:i=l.length:=by omega
   rw[List.getElem?_append_right (by simp),List.length_map,Nat.sub_self] at hx hw
   cases hx;cases hw
   exact h6
theorem yV (l:bK)(hs:kV 99000 l):ah Tryz.prog 90 [] [gU l] [] (gU (qP l)):=by
 have a1:=wJ l (by have:=hs.todos;omega) (by have:=hs.stack;omega) (by have:=hs.back;omega)
 have hl:=hs.todos
 unfold qP
 obtain⟨a,b,c,d⟩:=l
 simp only at a1 hl
 have ham:(a.map cI).length=a.length:=List.length_map ..
 refine ah.af (rvs:=[.cell 2 34]) G aa Tryz.func90 rfl Tryz.ntmps90 rfl rfl ?_;with_reducible refine wD ?_
 refine aj.gd (news:=[kj a,nG b,gX c]) [41,42,43] [] a1 LN ⟨⟨rfl,rfl,rfl,rfl,trivial⟩,trivial⟩ trivial rfl ⟨⟨rfl,rfl⟩,rfl⟩ rfl ⟨⟨rfl,.inl ⟨rfl,ct _⟩⟩,⟨rfl,.inl ⟨rfl,ee _⟩⟩,⟨rfl,.inl ⟨rfl,aQ _⟩⟩,trivial⟩ rfl rfl ?_
 with_reducible refine wK ?_
 repeat' (first
  |refine gK ?_|refine aE ?_ ?_
  |(((with_reducible show dI _ _ _ _ _ _ _ _ _ _);refine dI.mk (a.map cI) [.lit (.slice none 0 0)] ⟨rfl,ham.symm,rfl⟩ ⟨rfl,rfl,rfl⟩ rfl (by simp;omega) (by simp;omega) ?_)<;>with_reducible refine wK ?_)
  |apply trivial)
 all_goals first
  |exact C5 cI (y:=[]) rfl rfl rfl (by simp) ct (show DT _ from .inr (.inr ⟨10,rfl⟩))
  |exact pO rfl rfl rfl rfl
  |exact eG rfl rfl rfl rfl





def Be (t u:StateM):Bool:=(t.phase==u.phase)&&((t.df==u.df)&&((t.owner==u.owner)&&(t.barred==u.barred)))
theorem CN (t u:StateM):Be t u=decide (t=u):=by
 rw[Bool.eq_iff_iff,decide_eq_true_eq]
 unfold Be
 simp only[Bool.and_eq_true,beq_iff_eq]
 constructor
 ·rintro⟨a,b,c,d⟩
  cases t;cases u
  simp only at*
  subst a;subst b;subst c;subst d;rfl
 ·rintro rfl;simp
@[reducible] def l7 (t : StateM) : Value := .agg #[.int .i64 t.phase, .int .i64 t.df, .int .i64 t.owner, .bool t.barred]
theorem state_eq (t u:StateM)(w:World):(Op.equalIn 10000 75 (l7 t) (l7 u)).run Tryz.prog w=.ok (decide (t=u)) w:=by
 have hS:Tryz.prog.underlying 75=some (.struct (Tryz.prog.fieldsOf 75)):=by kernel_rfl
 have hp:Tryz.prog.stoodInHeld 75=false:=by kernel_rfl
 have u3:=Tryz.underlying3
 have a3:=Tryz.isAgg3
 have z3:=Tryz.sizeOf3
 have u4:=Tryz.underlying4
 have a4:=Tryz.isAgg4
 have z4:=Tryz.sizeOf4
 rw[←CN,show(10000:Nat)=9999+1 from rfl,run_equalIn_agg w 9999 75 _ _ hS hp]
 simp only[Program.fieldsOf,Tryz.underlying75]
 go_simp
 clear hS hp u3 a3 z3 u4 a4 z4
 unfold Be
 by_cases h1:t.phase=u.phase<;>by_cases h2:t.df=u.df<;>by_cases h3:t.owner=u.owner<;>simp[h1,h2,h3]
 by_cases h4:t.barred=u.barred<;>simp[h4]
theorem Aj (a b:StateM)(y z:Operand)(w:World):((do eqGuard .neq 75 y z (l7 a) (l7 b);binOp .neq 75 (l7 a) (l7 b):Sem Value)).run Tryz.prog w=.ok (.bool (!decide (a=b))) w:=by
 rw[Sem.run_bind,run_eqGuard_agg w .neq 75 y z _ _ (by kernel_rfl),Result.andThen_ok,run_neq_struct,state_eq];rfl
theorem IV (a b:List StateM)(ha:a.length≤100000):ah Tryz.prog 42 [] [fc a,fc b] [] (aA (decide (a=b))):=by
 have hlm:(a.map bG).length=a.length:=List.length_map ..
 have hlm':(b.map bG).length=b.length:=List.length_map ..
 refine ah.af (rvs:=[.tmp 4]) G aa Tryz.func42 rfl Tryz.ntmps42 rfl rfl ?_;with_reducible refine wD ?_
 by_cases g1:a.length=b.length
 ·(have fct:=And.intro hlm (And.intro hlm' (g1));(repeat' (first
  |refine gF ?_|refine aE ?_ ?_
  |apply trivial));all_goals clear fct)
  refine aU.use G aa (fun(k:Nat)=>[(0,fc a),(1,fc b),(5,aq k)]) (fun _=>[]) (fun k=>k≤a.length∧∀j,j<k→a[j]? =b[j]?) (fun k=>a.length-k) 0 ⟨Nat.zero_le _,fun j hj=>by omega⟩
   ⟨⟨rfl,rfl⟩,⟨rfl,rfl,rfl,trivial⟩,trivial⟩ ?_
  intro k ⟨hk,hno⟩
  with_reducible refine wK ?_
  refine bq.mk (fun h1=>?_) (fun h1=>?_)<;>(try simp only[aF] at h1)<;>with_reducible refine wK ?_
  ·simp only[hlm,decide_eq_true_eq] at h1
   have hk':k<a.length:=by omega
   obtain⟨⟨x1,x2,x3,x4⟩,hx⟩:∃x,a[k]? =some x:=⟨_,List.getElem?_eq_getElem hk'⟩
   obtain⟨⟨y1,y2,y3,y4⟩,hy⟩:∃y,b[k]? =some y:=⟨_,List.getElem?_eq_getElem (by omega)⟩
   refine ay.mk k (aX ⟨x1,x2,x3,x4⟩) rfl (aM hx) ?_;with_reducible refine wK ?_
   refine ay.mk k (aX ⟨y1,y2,y3,y4⟩) rfl (aM hy) ?_;with_reducible refine wK ?_
   refine tB.mk _ (fun y z w=>Aj ⟨x1,x2,x3,x4⟩ ⟨y1,y2,y3,y4⟩ y z w) ?_;with_reducible refine wK ?_
   by_cases e:(⟨x1,x2,x3,x4⟩:StateM)=⟨y1,y2,y3,y4⟩
   ·have e':=hx.trans ((congrArg some e).trans hy.symm)
    rw[decide_eq_true e]
    repeat' (first
  |refine gK ?_|refine aE ?_ ?_
  | ((first
   |((with_reducible show aL _ _);refine aL.mk (k+1) ⟨by omega,mI hno e'⟩ (by omega) ⟨⟨rfl,rfl⟩,⟨rfl,rfl,by show((k+1:Nat):Int)=(k:Int)+1;omega,trivial⟩,trivial⟩)
   |((with_reducible show bI _ _ _ _);refine dK ?_))<;>with_reducible refine wK ?_)
  | apply trivial)
   ·rw[show decide (a=b)=false from decide_eq_false fun h=>e (by rw[h] at hx;rw[hx] at hy;exact Option.some.inj hy),decide_eq_false e]
    repeat' (first
  |refine gK ?_|refine aE ?_ ?_
  |(((with_reducible show bI _ _ _ _);refine dK ?_)<;>with_reducible refine wK ?_)
  |apply trivial)
  ·have hkl:k=a.length:=by simp only[hlm,decide_eq_false_iff_not] at h1;omega
   subst hkl
   rw[show decide (a=b)=true from decide_eq_true (mG g1 hno)]
   (have fct:=hlm;(repeat' (first
  |refine gF ?_|refine aE ?_ ?_
  |apply trivial));all_goals clear fct)
 ·rw[show decide (a=b)=false from decide_eq_false fun h=>g1 (by rw[h])]
  (have fct:=And.intro hlm (And.intro hlm' (g1));(repeat' (first
  |refine gF ?_|refine aE ?_ ?_
  |apply trivial));all_goals clear fct)
theorem zk (a b:StateM)(y z:Operand)(w:World):((do eqGuard .eql 75 y z (l7 a) (l7 b);binOp .eql 75 (l7 a) (l7 b):Sem Value)).run Tryz.prog w=.ok (.bool (decide (a=b))) w:=by
 rw[Sem.run_bind,run_eqGuard_agg w .eql 75 y z _ _ (by kernel_rfl),Result.andThen_ok,run_eql_struct,state_eq];rfl
theorem xG (l:List CW):ah Tryz.prog 83 [] [yj l] [] (aA (decide (60<l.length))):=by
 have hlm:(l.map HQ).length=l.length:=List.length_map ..
 refine ah.af (rvs:=[.tmp 2]) G aa Tryz.func83 rfl Tryz.ntmps83 rfl rfl ?_;with_reducible refine wD ?_
 (have fct:=hlm;(repeat' (first
  |refine gF ?_|refine aE ?_ ?_
  |apply trivial));all_goals clear fct)
 all_goals first|(simp;omega)
theorem BR (s:ByteArray)(hs:s.size≤300):ah Tryz.prog 80 [] [cm s] [] (aA (!(bO s&&decide (ek s=s)))):=by
 have h81:=wN s
 cases hr:bO s
 all_goals
  rw[hr] at h81
  simp only[Bool.false_eq_true,if_false,if_true] at h81
  refine ah.af (rvs:=[.tmp 2]) G aa Tryz.func80 rfl Tryz.ntmps80 rfl rfl ?_;with_reducible refine wD ?_
  repeat' (first
  |refine pK ?_|refine aE ?_ ?_
  | ((first
   |((with_reducible show bq _ _ _ _);(refine bq.mk (fun hp=>?_) (fun hp=>?_)<;>(try simp only[aF,decide_eq_true_eq,decide_eq_false_iff_not,Bool.not_eq_true',Bool.not_eq_false',Decidable.not_not,Int.not_lt,Int.not_le] at hp)))
   |((with_reducible refine kQ 81 ?_);refine cL h81 zo ?_))<;>with_reducible refine wK ?_)
  |apply trivial)
  all_goals first|rfl|(simp_all;done)|(simp_all;omega)
def Jq (h:dx):Bool:=decide (h.kind<1)||decide (8<h.kind)||decide (60<h.prog.length)
theorem KN (h:dx):ah Tryz.prog 82 [] [kY h] [] (aA (Jq h)):=by
 have hl:=xG h.prog
 unfold Jq
 obtain⟨k,p⟩:=h
 simp only at hl ⊢
 refine ah.af (rvs:=[.tmp 2]) G aa Tryz.func82 rfl Tryz.ntmps82 rfl rfl ?_;with_reducible refine wD ?_
 repeat' (first
  |refine pK ?_|refine aE ?_ ?_
  | ((first
   |((with_reducible show bq _ _ _ _);(refine bq.mk (fun hp=>?_) (fun hp=>?_)<;>(try simp only[aF,decide_eq_true_eq,decide_eq_false_iff_not,Bool.not_eq_true',Bool.not_eq_false',Decidable.not_not,Int.not_lt,Int.not_le] at hp)))
   |((with_reducible refine kQ 83 ?_);refine cL hl Rj ?_))<;>with_reducible refine wK ?_)
  |apply trivial)
 all_goals first|rfl|(simp_all;done)|(simp_all;omega)
theorem u0 (c:aH)(h1:c.watch.length≤100000)(h2:c.hooks.length≤100000)(h3:∀s∈c.watch,s.size≤300):ah Tryz.prog 26 [] [cN c] [] (aA (iN c)):=by
 have a1:=ah.PU (NN 80 Sj [] rfl (fun s=> !(bO s&&decide (ek s=s))) c.watch h1 (fun s hs=>BR s (h3 s hs)))
 have a2:=ah.PU (K9 82 SB [] rfl Jq c.hooks h2 (fun h _=>KN h))
 have a3:=xG c.peek
 have a4:=xG c.make
 have e0:iN c=(((((decide (c.watch.length≤12)&& !(c.watch.any fun s=> !(bO s&&decide (ek s=s))))&&decide (c.hooks.length≤12))&& !(c.hooks.any Jq))&& !decide (60<c.peek.length))&& !decide (60<c.make.length)):=by
  unfold iN
  rw[←decide_not,←decide_not,decide_eq_decide.2 (show c.peek.length≤60↔ ¬60<c.peek.length by omega),decide_eq_decide.2 (show c.make.length≤60↔ ¬60<c.make.length by omega)];rfl
 rw[e0]
 obtain⟨c1,c2,c3,c4,c5⟩:=c
 simp only at a1 a2 a3 a4 ⊢
 have n2:(c2.map kU).length=c2.length:=List.length_map ..
 have n5:(c5.map jU).length=c5.length:=List.length_map ..
 generalize(c2.any fun s=> !(bO s&&decide (ek s=s)))=p1 at*
 generalize c5.any Jq=p2 at*
 generalize decide (60<c3.length)=p3 at*
 generalize decide (60<c4.length)=p4 at*
 by_cases e1:(c2.length:Int)≤12
 ·rw [decide_eq_true (show c2.length≤12 by omega)]
  cases p1
  ·by_cases e2:(c5.length:Int)≤12
   ·rw[decide_eq_true (show c5.length≤12 by omega)]
    cases p2<;>cases p3<;>cases p4<;>
    ·refine ah.af (rvs:=[.tmp 2]) G aa Tryz.func26 rfl Tryz.ntmps26 rfl rfl ?_;with_reducible refine wD ?_
     (have fct:=And.intro n2 (And.intro n5 (And.intro (eq_true e1) ((eq_true e2))));(repeat' (first
  |refine gF ?_|refine aE ?_ ?_
  | ((first
   |((with_reducible refine kQ 84 ?_);refine cL a1 QI ?_)
   |((with_reducible refine kQ 85 ?_);refine cL a2 Sn ?_)
   |((with_reducible refine kQ 83 ?_);first|refine cL a3 Rj ?_|refine cL a4 Rj ?_))<;>with_reducible refine wK ?_)
  | apply trivial));all_goals clear fct)
     all_goals first|rfl|(simp_all;done)|(simp_all;omega)
   ·rw[decide_eq_false (show ¬c5.length≤12 by omega)]
    refine ah.af (rvs:=[.tmp 2]) G aa Tryz.func26 rfl Tryz.ntmps26 rfl rfl ?_;with_reducible refine wD ?_
    (have fct:=And.intro n2 (And.intro n5 (And.intro (eq_true e1) ((eq_false e2))));(repeat' (first
  |refine gF ?_|refine aE ?_ ?_
  |(((with_reducible refine kQ 84 ?_);refine cL a1 QI ?_)<;>with_reducible refine wK ?_)
  | apply trivial));all_goals clear fct)
    all_goals first|rfl|(simp_all;done)|(simp_all;omega)
  ·refine ah.af (rvs:=[.tmp 2]) G aa Tryz.func26 rfl Tryz.ntmps26 rfl rfl ?_;with_reducible refine wD ?_
   (have fct:=And.intro n2 ((eq_true e1));(repeat' (first
  |refine gF ?_|refine aE ?_ ?_
  |(((with_reducible refine kQ 84 ?_);refine cL a1 QI ?_)<;>with_reducible refine wK ?_)
  | apply trivial));all_goals clear fct)
   all_goals first|rfl|(simp_all;done)|(simp_all;omega)
 ·rw[decide_eq_false (show ¬c2.length≤12 by omega)]
  refine ah.af (rvs:=[.tmp 2]) G aa Tryz.func26 rfl Tryz.ntmps26 rfl rfl ?_;with_reducible refine wD ?_
  (have fct:=And.intro n2 ((eq_false e1));(repeat' (first
  |refine gF ?_|refine aE ?_ ?_
  |apply trivial));all_goals clear fct)
  all_goals first|rfl|(simp_all;done)|(simp_all;omega)
theorem r9 (w:ai)(n:Int):ah Tryz.prog 162 [] [aT w,aq n] [] (aA (dO w n)):=by
 unfold dO
 obtain⟨⟨l,m⟩,st,⟨d1,d2,d3,d4⟩,⟨a,b,c,d⟩,ta,bu,cs⟩:=w
 have hlm:(d1.map fH).length=d1.length:=List.length_map ..
 by_cases h1:0≤n
 ·refine ah.af (rvs:=[.tmp 4]) G aa Tryz.func162 rfl Tryz.ntmps162 rfl rfl ?_;with_reducible refine wD ?_
  (have fct:=And.intro (eq_true h1) (hlm);(repeat' (first
  |refine gF ?_|refine aE ?_ ?_
  |apply trivial));all_goals clear fct)
  all_goals first|(simp[h1];done)
 ·refine ah.af (rvs:=[.tmp 4]) G aa Tryz.func162 rfl Tryz.ntmps162 rfl rfl ?_;with_reducible refine wD ?_
  (have fct:=And.intro (eq_false h1) (hlm);(repeat' (first
  |refine gF ?_|refine aE ?_ ?_
  |apply trivial));all_goals clear fct)
  all_goals first|(simp[h1];done)
theorem uh (w:ai)(n:Int):ah Tryz.prog 95 [] [aT w,aq n] [] (aA (ak w.f.nodes n)):=by
 unfold ak
 obtain⟨⟨l,m⟩,st,⟨d1,d2,d3,d4⟩,⟨a,b,c,d⟩,ta,bu,cs⟩:=w
 have hlm:(l.map bZ).length=l.length:=List.length_map ..
 by_cases h1:0≤n
 ·refine ah.af (rvs:=[.tmp 4]) G aa Tryz.func95 rfl Tryz.ntmps95 rfl rfl ?_;with_reducible refine wD ?_
  (have fct:=And.intro (eq_true h1) (hlm);(repeat' (first
  |refine gF ?_|refine aE ?_ ?_
  |apply trivial));all_goals clear fct)
  all_goals first|(simp[h1];done)
 ·refine ah.af (rvs:=[.tmp 4]) G aa Tryz.func95 rfl Tryz.ntmps95 rfl rfl ?_;with_reducible refine wD ?_
  (have fct:=And.intro (eq_false h1) (hlm);(repeat' (first
  |refine gF ?_|refine aE ?_ ?_
  |apply trivial));all_goals clear fct)
  all_goals first|(simp[h1];done)
theorem zB (w:ai)(t:br):ah Tryz.prog 96 [] [aT w,iD t] [] (aA (lq w t)):=by
 have hd:=r9 w t.df
 unfold lq
 generalize dO w t.df=g at*
 obtain⟨⟨l,m⟩,st,⟨d1,d2,d3,d4⟩,⟨a,b,c,d⟩,ta,bu,cs⟩:=w
 obtain⟨x0,x1,x2,x3,x4,x5,x6,x7,x8,x9⟩:=t
 simp only at hd ⊢
 refine ah.af (rvs:=[.tmp 4]) G aa Tryz.func96 rfl Tryz.ntmps96 rfl rfl ?_;with_reducible refine wD ?_
 repeat' (first
  |refine pK ?_|refine aE ?_ ?_
  | ((first
   |((with_reducible show bq _ _ _ _);(refine bq.mk (fun hp=>?_) (fun hp=>?_)<;>(try simp only[aF,decide_eq_true_eq,decide_eq_false_iff_not,Bool.not_eq_true',Bool.not_eq_false',Decidable.not_not,Int.not_lt,Int.not_le] at hp)))
   |((with_reducible refine kQ 162 ?_);refine cL hd HW ?_))<;>with_reducible refine wK ?_)
  |apply trivial)
 all_goals first|rfl|(simp_all;done)|(simp_all;omega)
theorem GX (w:ai)(t:gw):ah Tryz.prog 151 [] [aT w,qB t] [] (aA (uJ w t)):=by
 have hd:=r9 w t.df
 unfold uJ
 generalize dO w t.df=g at*
 obtain⟨⟨l,m⟩,st,⟨d1,d2,d3,d4⟩,⟨a,b,c,d⟩,ta,bu,cs⟩:=w
 obtain⟨x0,x1,x2⟩:=t
 simp only at hd ⊢
 refine ah.af (rvs:=[.tmp 4]) G aa Tryz.func151 rfl Tryz.ntmps151 rfl rfl ?_;with_reducible refine wD ?_
 repeat' (first
  |refine pK ?_|refine aE ?_ ?_
  | ((first
   |((with_reducible show bq _ _ _ _);(refine bq.mk (fun hp=>?_) (fun hp=>?_)<;>(try simp only[aF,decide_eq_true_eq,decide_eq_false_iff_not,Bool.not_eq_true',Bool.not_eq_false',Decidable.not_not,Int.not_lt,Int.not_le] at hp)))
   |((with_reducible refine kQ 162 ?_);refine cL hd HW ?_))<;>with_reducible refine wK ?_)
  |apply trivial)
 all_goals first|rfl|(simp_all;done)|(simp_all;omega)
theorem Ei (w:ai)(t:aY):ah Tryz.prog 154 [] [aT w,fA t] [] (aA (gS w t)):=by
 have hd:=r9 w t.df
 have hn:=uh w t.node
 unfold gS elemV
 obtain⟨x0,x1⟩:=t
 cases ht:ak w.f.nodes x1 with
 | false=>
   generalize dO w x0=g at*
   obtain⟨⟨l,m⟩,st,⟨d1,d2,d3,d4⟩,⟨a,b,c,d⟩,ta,bu,cs⟩:=w
   simp only at hd hn ht ⊢
   rw[ht] at hn
   refine ah.af (rvs:=[.tmp 4]) G aa Tryz.func154 rfl Tryz.ntmps154 rfl rfl ?_;with_reducible refine wD ?_
   cases g
   all_goals
    repeat' (first
  |refine pK ?_|refine aE ?_ ?_
  | ((first
   |((with_reducible show bq _ _ _ _);(refine bq.mk (fun hp=>?_) (fun hp=>?_)<;>(try simp only[aF,decide_eq_true_eq,decide_eq_false_iff_not,Bool.not_eq_true',Bool.not_eq_false',Decidable.not_not,Int.not_lt,Int.not_le] at hp)))
   |((with_reducible refine kQ 162 ?_);refine cL hd HW ?_)
   |((with_reducible refine kQ 95 ?_);refine cL hn Qk ?_))<;>with_reducible refine wK ?_)
  | apply trivial)
   all_goals first|rfl|(simp_all;done)|(simp_all;omega)
 | true=>
   obtain⟨k,y,rfl,hy,hnd⟩:=bC.1 ht
   rw[hnd]
   generalize dO w x0=g at*
   obtain⟨⟨l,m⟩,st,⟨d1,d2,d3,d4⟩,⟨a,b,c,d⟩,ta,bu,cs⟩:=w
   simp only at hd hn ht hy ⊢
   rw[ht] at hn
   have hkl:=(List.getElem?_eq_some_iff.1 hy).1
   obtain⟨y0,y1,y2,y3,y4,y5,y6,y7,y8,y9⟩:=y
   refine ah.af (rvs:=[.tmp 4]) G aa Tryz.func154 rfl Tryz.ntmps154 rfl rfl ?_;with_reducible refine wD ?_
   cases g
   all_goals
    repeat' (first
  |refine pK ?_|refine aE ?_ ?_
  | ((first
   |((with_reducible show bq _ _ _ _);(refine bq.mk (fun hp=>?_) (fun hp=>?_)<;>(try simp only[aF,decide_eq_true_eq,decide_eq_false_iff_not,Bool.not_eq_true',Bool.not_eq_false',Decidable.not_not,Int.not_lt,Int.not_le] at hp)))
   |((with_reducible refine kQ 162 ?_);refine cL hd HW ?_)
   |((with_reducible refine kQ 95 ?_);refine cL hn Qk ?_)
   |((with_reducible show ay _ _ _ _ _);refine ay.mk k (aS ⟨y0,y1,y2,y3,y4,y5,y6,y7,y8,y9⟩) rfl (aG hy) ?_))<;>with_reducible refine wK ?_)
  | apply trivial)
   all_goals first|rfl|(simp_all;done)|(simp_all;omega)
theorem DE (w:ai)(k:Nat)(x:au)(s:StateM)(hx:w.f.nodes[k]? =some x)(hs:w.states[k]? =some s):ah Tryz.prog 146 [] [aT w,aq k] [] (aA (gy w x s)):=by
 have hd:=r9 w s.df
 have hn:=uh w s.owner
 unfold gy
 generalize dO w s.df=g at*
 generalize ak w.f.nodes s.owner=t at*
 obtain⟨⟨l,m⟩,st,⟨d1,d2,d3,d4⟩,⟨a,b,c,d⟩,ta,bu,cs⟩:=w
 obtain⟨y0,y1,y2,y3,y4,y5,y6,y7,y8,y9⟩:=x
 obtain⟨s1,s2,s3,s4⟩:=s
 simp only at hd hn hx hs ⊢
 by_cases e0:y0=1
 ·rw[if_pos e0]
  by_cases e1:s3=-1
  all_goals
   refine ah.af (rvs:=[.tmp 4]) G aa Tryz.func146 rfl Tryz.ntmps146 rfl rfl ?_;with_reducible refine wD ?_
   (have fct:=And.intro e0 (e1);(repeat' (first
  |refine pF ?_|refine aE ?_ ?_
  | ((first
   |((with_reducible show bq _ _ _ _);(refine bq.mk (fun hp=>?_) (fun hp=>?_)<;>(try simp only[aF,decide_eq_true_eq,decide_eq_false_iff_not,Bool.not_eq_true',Bool.not_eq_false',Decidable.not_not,Int.not_lt,Int.not_le] at hp)))
   |((with_reducible refine kQ 162 ?_);refine cL hd HW ?_)
   |((with_reducible refine kQ 95 ?_);refine cL hn Qk ?_)
   |((with_reducible show ay _ _ _ _ _);first|refine ay.mk k (aS ⟨y0,y1,y2,y3,y4,y5,y6,y7,y8,y9⟩) rfl (aG hx) ?_|refine ay.mk k (aX ⟨s1,s2,s3,s4⟩) rfl (aM hs) ?_))<;>with_reducible refine wK ?_)
  | apply trivial));all_goals clear fct)
   all_goals first|rfl|(simp_all;done)|(simp_all;omega)
 ·rw[if_neg e0]
  refine ah.af (rvs:=[.tmp 4]) G aa Tryz.func146 rfl Tryz.ntmps146 rfl rfl ?_;with_reducible refine wD ?_
  (have fct:=(eq_false e0);(repeat' (first
  |refine gF ?_|refine aE ?_ ?_
  | ((first
   |((with_reducible show ay _ _ _ _ _);first|refine ay.mk k (aS ⟨y0,y1,y2,y3,y4,y5,y6,y7,y8,y9⟩) rfl (aG hx) ?_|refine ay.mk k (aX ⟨s1,s2,s3,s4⟩) rfl (aM hs) ?_)
   |((with_reducible show tB _ _ _ _ _ _ _ _);refine tB.mk _ (fun y z w=>zk ⟨s1,s2,s3,s4⟩ ⟨0,-1,-1,false⟩ y z w) ?_))<;>with_reducible refine wK ?_)
  |apply trivial));all_goals clear fct)
  all_goals first|rfl|(simp_all;done)|(simp_all;omega)
theorem Bd {α:Type}(o:α→AV){wd k:Nat}{m:ML}{fz:Nat→Bool}{ck:List (Nat×Nat)}{n t u off len L:Nat}{ro:Bool}{rows:List AV}{l:List α}{y:α}(h1:ej m t=.live wd rows ro)(h2:fz t=true)(h3:rows=(l.map o).set k (.own u off len))(hk:k<l.length)(h4:L=l.length)(hn:∀l:List α,aN (l.map o)=true)(h6:MF ck fz m n (o y) (.own u off len)):nq m fz (MF ck fz m n) (.sl wd ((l.set k y).map o)) t 0 L:=by
 subst h3;subst h4
 have e:((l.map o).set k (.own u off len)).length=l.length:=by simp
 refine⟨wd,_,ro,_,h1,h2,rfl,by omega,hn _,?_,?_⟩
 ·rw[List.drop_zero,List.take_of_length_le (by omega)];simp
 ·intro i x z hx hz
  rw[List.drop_zero,List.take_of_length_le (by omega),List.getElem?_set] at hz
  rw[List.getElem?_map,List.getElem?_set] at hx
  by_cases e2:k=i
  ·subst e2
   rw[if_pos rfl,if_pos hk] at hx
   rw[if_pos rfl,if_pos (by simpa using hk)] at hz
   cases hx;cases hz
   exact h6
  ·rw[if_neg e2] at hx hz
   rw[List.getElem?_map] at hz
   rw[hx] at hz;cases hz
   refine lR n x ?_
   obtain⟨a,ha,rfl⟩:∃a,l[i]? =some a∧o a=x:=by
    cases q:l[i]? with
    |none=>rw[q] at hx;cases hx
    |some a=>rw[q] at hx;exact⟨a,rfl,Option.some.inj hx⟩
   exact bL.1 (hn l) _ (List.mem_map_of_mem (List.mem_of_getElem? ha))
theorem JR {α:Type}(o:α→AV){wd k:Nat}{m:ML}{fz:Nat→Bool}{ck:List (Nat×Nat)}{n t L:Nat}{ro:Bool}{rows:List AV}{l:List α}{y:α}{z:AV}(h1:ej m t=.live wd rows ro)(h2:fz t=true)(h3:rows=(l.map o).set k z)(hk:k<l.length)(h4:L=l.length)(hn:∀l:List α,aN (l.map o)=true)(h6:MF ck fz m n (o y) z):nq m fz (MF ck fz m n) (.sl wd ((l.set k y).map o)) t 0 L:=by
 subst h3;subst h4
 have e:((l.map o).set k z).length=l.length:=by simp
 refine⟨wd,_,ro,_,h1,h2,rfl,by omega,hn _,?_,?_⟩
 ·rw[List.drop_zero,List.take_of_length_le (by omega)];simp
 ·intro i x v hx hz
  rw[List.drop_zero,List.take_of_length_le (by omega),List.getElem?_set] at hz
  rw[List.getElem?_map,List.getElem?_set] at hx
  by_cases e2:k=i
  ·subst e2
   rw[if_pos rfl,if_pos hk] at hx
   rw[if_pos rfl,if_pos (by simpa using hk)] at hz
   cases hx;cases hz
   exact h6
  ·rw[if_neg e2] at hx hz
   rw[List.getElem?_map] at hz
   rw[hx] at hz;cases hz
   refine lR n x ?_
   obtain⟨a,ha,rfl⟩:∃a,l[i]? =some a∧o a=x:=by
    cases q:l[i]? with
    |none=>rw[q] at hx;cases hx
    |some a=>rw[q] at hx;exact⟨a,rfl,Option.some.inj hx⟩
   exact bL.1 (hn l) _ (List.mem_map_of_mem (List.mem_of_getElem? ha))
theorem AF {a:List (List br)}{b:List (List Int)}{c:List Int}{i j k:Nat}:qm [i,j,k] [kj a,nG b,gX c] [kj a,nG b,gX c]:=⟨⟨rfl,.inl ⟨rfl,ct _⟩⟩,⟨rfl,.inl ⟨rfl,ee _⟩⟩,⟨rfl,.inl ⟨rfl,aQ _⟩⟩,trivial⟩
theorem Gh (t:List br):ah Tryz.prog 110 [] [cF t] [] (aA (decide (0<t.length))):=by
 have hlm:=(show(t.map eM).length=t.length from List.length_map ..)
 refine ah.af (rvs:=[.tmp 2]) G aa Tryz.func110 rfl Tryz.ntmps110 rfl rfl ?_;with_reducible refine wD ?_
 (have fct:=hlm;(repeat' (first
  |refine gF ?_|refine aE ?_ ?_
  |apply trivial));all_goals clear fct)
 all_goals first|(simp;done)
theorem G1 (l:bK)(h1:l.todos.length≤100000):ah Tryz.prog 45 [] [gU l] [] (aA (A2 l)):=by
 have hany:=ah.PU (LQ 110 RO [] rfl (fun t=>decide (0<t.length)) l.todos h1 (fun a _=>Gh a))
 unfold A2
 obtain⟨a,b,c,d⟩:=l
 simp only at hany ⊢
 have hbm:(b.map gg).length=b.length:=List.length_map ..
 have hcm:(c.map bF).length=c.length:=List.length_map ..
 generalize(a.any fun t=>decide (0<t.length))=p at*
 cases d with
 | true=>
   refine ah.af (rvs:=[.tmp 2]) G aa Tryz.func45 rfl Tryz.ntmps45 rfl rfl ?_;with_reducible refine wD ?_
   repeat' (first
  |refine gK ?_|refine aE ?_ ?_
  | apply trivial)
   all_goals first|rfl
 | false=>
   by_cases e1:(b.length:Int)=0
   ·have g1:decide (((b.map gg).length:Int)=0)=true:=decide_eq_true (by rw[hbm];exact e1)
    rw[decide_eq_true (show b.length=0 by omega)]
    by_cases e2:(c.length:Int)=0
    ·rw[decide_eq_true (show c.length=0 by omega)]
     have g2:decide (((c.map bF).length:Int)=0)=true:=decide_eq_true (by rw[hcm];exact e2)
     refine ah.af (rvs:=[.tmp 2]) G aa Tryz.func45 rfl Tryz.ntmps45 rfl rfl ?_;with_reducible refine wD ?_
     repeat' (first
  |refine gK ?_|refine aE ?_ ?_
  |(((with_reducible refine kQ 111 ?_);refine cL hany Q0 ?_)<;>with_reducible refine wK ?_)
  | apply trivial)
     all_goals first|rfl|(simp;done)
    ·rw[decide_eq_false (show ¬c.length=0 by omega)]
     have g2:decide (((c.map bF).length:Int)=0)=false:=decide_eq_false (by rw[hcm];exact e2)
     refine ah.af (rvs:=[.tmp 2]) G aa Tryz.func45 rfl Tryz.ntmps45 rfl rfl ?_;with_reducible refine wD ?_
     repeat' (first
  |refine gK ?_|refine aE ?_ ?_
  | apply trivial)
     all_goals first|rfl|(simp;done)
   ·rw[decide_eq_false (show ¬b.length=0 by omega)]
    have g1:decide (((b.map gg).length:Int)=0)=false:=decide_eq_false (by rw[hbm];exact e1)
    refine ah.af (rvs:=[.tmp 2]) G aa Tryz.func45 rfl Tryz.ntmps45 rfl rfl ?_;with_reducible refine wD ?_
    repeat' (first
  |refine gK ?_|refine aE ?_ ?_
  | apply trivial)
    all_goals first|rfl|(simp;done)
def DV (l:bK)(n:Int)(t:br):bK×Bool×Int:=if(vo l&&dG l n)=true then(dz l n t,fV l,0) else(l,false,1)
theorem FH {l:bK}{n:Int}{t:br}(h:(vo l&&dG l n)=false):DV l n t=(l,false,1):=by unfold DV;rw[h];rfl
theorem CK {l:bK}{n:Int}{t:br}(h:(vo l&&dG l n)=true):DV l n t=(dz l n t,fV l,0):=by unfold DV;rw[h];rfl
theorem uA {b:List (List Int)}{k:Nat}{s:List Int}(e:b.length=k+1)(h:b[k]? =some s){a:List (List br)}{c:List Int}{d:Bool}:kD ⟨a,b,c,d⟩=s:=by
 unfold kD
 show(b[b.length-1]?).getD []=s
 rw[e,Nat.add_sub_cancel,h];rfl
theorem JQ (l:bK)(hs:kV 98000 l)(n:Int)(t:br):ah Tryz.prog 165 [] [gU l,aq n,iD t] [] (.tup [gU (DV l n t).1,aA (DV l n t).2.1,aq (DV l n t).2.2]):=by
 have hR:=qL l (hs.mono (by omega))
 have hI:=AI l n
 have hO:=wJ l (by have:=hs.todos;omega) (by have:=hs.stack;omega) (by have:=hs.back;omega)
 cases e1:vo l with
 | false=>
   rw[e1] at hR
   rw[FH (by rw[e1];rfl)]
   obtain⟨a,b,c,d⟩:=l
   obtain⟨x0,x1,x2,x3,x4,x5,x6,x7,x8,x9⟩:=t
   refine ah.af (rvs:=[.cell 6 34,.tmp 7,.tmp 8]) G aa Tryz.func165 rfl Tryz.ntmps165 rfl rfl ?_;with_reducible refine wD ?_
   repeat' (first
  |refine gK ?_|refine aE ?_ ?_
  |(((with_reducible refine kQ 145 ?_);refine cL hR As ?_)<;>with_reducible refine wK ?_)
  |apply trivial)
 | true =>
   rw[e1] at hR
   cases e2:dG l n with
   | false=>
     rw[e2] at hI
     rw[FH (by rw[e1,e2];rfl)]
     obtain⟨a,b,c,d⟩:=l
     obtain⟨x0,x1,x2,x3,x4,x5,x6,x7,x8,x9⟩:=t
     refine ah.af (rvs:=[.cell 6 34,.tmp 7,.tmp 8]) G aa Tryz.func165 rfl Tryz.ntmps165 rfl rfl ?_;with_reducible refine wD ?_
     repeat' (first
  |refine gK ?_|refine aE ?_ ?_
  | ((first
   |((with_reducible refine kQ 145 ?_);refine cL hR As ?_)
   |((with_reducible refine kQ 210 ?_);refine cL hI D7 ?_))<;>with_reducible refine wK ?_)
  | apply trivial)
   | true=>
     rw[e2] at hI
     obtain⟨k,y,rfl,hk,hy,htd⟩:=wh e2
     have hyl:=hs.todo y (List.mem_of_getElem? hy)
     have hC:=DY y (by omega)
     have hbl:=hs.stack
     have hcl:=hs.back
     have hst:=hs.list
     rw[CK (by rw[e1,e2];rfl)]
     unfold dz fV
     rw[htd,Int.toNat_natCast]
     obtain⟨a,b,c,d⟩:=l
     obtain⟨x0,x1,x2,x3,x4,x5,x6,x7,x8,x9⟩:=t
     simp only at hk hy hbl hcl hst hO ⊢
     have hcm:(c.map bF).length=c.length:=List.length_map ..
     have ham:(a.map cI).length=a.length:=List.length_map ..
     have hym:(y.map eM).length=y.length:=List.length_map ..
     have e3:y.map eM++ [iD ⟨x0,x1,x2,x3,x4,x5,x6,x7,x8,x9⟩]=(y++ [(⟨x0,x1,x2,x3,x4,x5,x6,x7,x8,x9⟩:br)]).map eM:=by rw[List.map_append];rfl
     by_cases hb:b=[]
     ·subst hb
      rw[if_pos rfl]
      have e4:c.map bF++ [aq k]=(c++ [(k:Int)]).map bF:=by rw[List.map_append];rfl
      refine ah.af (rvs:=[.cell 6 34,.tmp 7,.tmp 8]) G aa Tryz.func165 rfl Tryz.ntmps165 rfl rfl ?_;with_reducible refine wD ?_
      repeat' (first
  |refine gK ?_|refine aE ?_ ?_
  | ((first
   |((with_reducible refine kQ 145 ?_);refine cL hR As ?_)
   |((with_reducible refine kQ 210 ?_);refine cL hI D7 ?_)
   |((with_reducible refine kQ 159 ?_);refine aj.gd (news:=[kj a,nG _,gX c]) [221,222,223] [] hO LN ⟨⟨rfl,rfl,rfl,rfl,trivial⟩,trivial⟩ trivial rfl ⟨⟨rfl,rfl⟩,rfl⟩ rfl AF rfl rfl ?_)
   |((with_reducible show nZ _ _ _ _ _);refine nZ.mk k rfl hk ?_)
   |((with_reducible show cB _ _ _ _ _);refine cB.mk (cF y) (by first|exact cz hy|(rw[Nat.zero_add];exact cz hy)) ?_)
   |((with_reducible refine kQ 218 ?_);refine aj.new 311 [] hC Pv ⟨rfl,trivial⟩ rfl rfl rfl (vO _) rfl ?_)
   |((with_reducible show dI _ _ _ _ _ _ _ _ _ _);first|refine dI.mk (y.map eM) [iD ⟨x0,x1,x2,x3,x4,x5,x6,x7,x8,x9⟩] ⟨rfl,hym.symm,rfl⟩ ⟨rfl,rfl,rfl⟩ rfl (by simp;omega) (by simp;omega) ?_|refine dI.mk (c.map bF) [aq k] ⟨rfl,hcm.symm,rfl⟩ ⟨rfl,rfl,rfl⟩ rfl (by simp;omega) (by simp;omega) ?_))<;>with_reducible refine wK ?_)
  |apply trivial)
      all_goals first
       |exact Bd cI (y:=y++ [_]) rfl rfl (by rw[Nat.zero_add]) hk rfl ct (qf rfl rfl e3 (by simp))
       |exact pO rfl rfl rfl rfl
       |exact eG rfl rfl e4 (by simp)
       |(simp;done)
     ·rw[if_neg hb]
      obtain⟨q,hq⟩:∃q,b.length=q+1:=⟨b.length-1,by have:=List.length_pos_iff.2 hb;omega⟩
      obtain⟨s,hs2⟩:∃s,b[q]? =some s:=⟨_,List.getElem?_eq_getElem (by omega)⟩
      have hsl:=hst s (List.mem_of_getElem? hs2)
      have hCs:=zz s (by omega)
      have hbm:(b.map gg).length=b.length:=List.length_map ..
      have hsm:(s.map bF).length=s.length:=List.length_map ..
      rw[uA hq hs2,hq,Nat.add_sub_cancel,decide_eq_false hb,Bool.false_and]
      have e4:s.map bF++ [aq k]=(s++ [(k:Int)]).map bF:=by rw[List.map_append];rfl
      have e5:(b.length:Int)-1=(q:Int):=by omega
      refine ah.af (rvs:=[.cell 6 34,.tmp 7,.tmp 8]) G aa Tryz.func165 rfl Tryz.ntmps165 rfl rfl ?_;with_reducible refine wD ?_
      repeat' (first
  |refine gK ?_|refine aE ?_ ?_
  | ((first
   |((with_reducible refine kQ 145 ?_);refine cL hR As ?_)
   |((with_reducible refine kQ 210 ?_);refine cL hI D7 ?_)
   |((with_reducible refine kQ 159 ?_);refine aj.gd (news:=[kj a,nG _,gX c]) [221,222,223] [] hO LN ⟨⟨rfl,rfl,rfl,rfl,trivial⟩,trivial⟩ trivial rfl ⟨⟨rfl,rfl⟩,rfl⟩ rfl AF rfl rfl ?_)
   |((with_reducible show nZ _ _ _ _ _);refine nZ.mk k rfl hk ?_)
   |((with_reducible show cB _ _ _ _ _);refine cB.mk (cF y) (by first|exact cz hy|(rw[Nat.zero_add];exact cz hy)) ?_)
   |((with_reducible refine kQ 218 ?_);refine aj.new 311 [] hC Pv ⟨rfl,trivial⟩ rfl rfl rfl (vO _) rfl ?_)
   |((with_reducible show dI _ _ _ _ _ _ _ _ _ _);refine dI.mk (y.map eM) [iD ⟨x0,x1,x2,x3,x4,x5,x6,x7,x8,x9⟩] ⟨rfl,hym.symm,rfl⟩ ⟨rfl,rfl,rfl⟩ rfl (by simp;omega) (by simp;omega) ?_))<;>with_reducible refine wK ?_)
  |apply trivial)
      rw[e5]
      repeat' (first
  |refine gK ?_|refine aE ?_ ?_
  | ((first
   |((with_reducible show nZ _ _ _ _ _);refine nZ.mk q rfl (by omega) ?_)
   |((with_reducible show cB _ _ _ _ _);refine cB.mk (bY s) (by first|exact lD hs2|(rw[Nat.zero_add];exact lD hs2)) ?_)
   |((with_reducible refine kQ 217 ?_);refine aj.new 501 [] hCs O4 ⟨rfl,trivial⟩ rfl rfl rfl (zF _) rfl ?_)
   |((with_reducible show dI _ _ _ _ _ _ _ _ _ _);refine dI.mk (s.map bF) [aq k] ⟨rfl,hsm.symm,rfl⟩ ⟨rfl,rfl,rfl⟩ rfl (by simp;omega) (by simp;omega) ?_))<;>with_reducible refine wK ?_)
  |apply trivial)
      all_goals first
       |exact Bd cI (y:=y++ [_]) rfl rfl (by rw[Nat.zero_add]) hk rfl ct (qf rfl rfl e3 (by simp))
       |exact Bd gg (y:=s++ [_]) rfl rfl (by rw[Nat.zero_add]) (by omega) rfl ee (eG rfl rfl e4 (by simp))
       |exact eG rfl rfl rfl rfl
       |(simp[hb];done)
theorem GM (a:AttrM)(y z:Operand)(w:World):((do eqGuard .neq 179 y z (.agg #[.string a.name,.string a.value]) (.agg #[.string a.name,.string a.value]);binOp .neq 179 (.agg #[.string a.name,.string a.value]) (.agg #[.string a.name,.string a.value]):Sem Value)).run Tryz.prog w=.ok (.bool false) w:=by
 have hS:Tryz.prog.underlying 179=some (.struct (Tryz.prog.fieldsOf 179)):=by kernel_rfl
 have hp:Tryz.prog.stoodInHeld 179=false:=by kernel_rfl
 have u9:=Tryz.underlying9
 have a9:=Tryz.isAgg9
 have z9:=Tryz.sizeOf9
 rw[Sem.run_bind,run_eqGuard_agg w .neq 179 y z _ _ (by kernel_rfl),Result.andThen_ok,run_neq_struct,show(10000:Nat)=9999+1 from rfl,run_equalIn_agg w 9999 179 _ _ hS hp]
 simp only[Program.fieldsOf,Tryz.underlying179]
 go_simp
theorem H7 (a:bD)(y z:Operand)(w:World):((do eqGuard .neq 95 y z (.agg #[.string a.name,.string a.locl,.int .i64 a.cls]) (.agg #[.string a.name,.string a.locl,.int .i64 a.cls]);binOp .neq 95 (.agg #[.string a.name,.string a.locl,.int .i64 a.cls]) (.agg #[.string a.name,.string a.locl,.int .i64 a.cls]):Sem Value)).run Tryz.prog w=.ok (.bool false) w:=by
 have hS:Tryz.prog.underlying 95=some (.struct (Tryz.prog.fieldsOf 95)):=by kernel_rfl
 have hp:Tryz.prog.stoodInHeld 95=false:=by kernel_rfl
 have u3:=Tryz.underlying3
 have a3:=Tryz.isAgg3
 have z3:=Tryz.sizeOf3
 have u9:=Tryz.underlying9
 have a9:=Tryz.isAgg9
 have z9:=Tryz.sizeOf9
 rw[Sem.run_bind,run_eqGuard_agg w .neq 95 y z _ _ (by kernel_rfl),Result.andThen_ok,run_neq_struct,show(10000:Nat)=9999+1 from rfl,run_equalIn_agg w 9999 95 _ _ hS hp]
 simp only[Program.fieldsOf,Tryz.underlying95]
 go_simp
theorem Hy (a:nU)(y z:Operand)(w:World):((do eqGuard .neq 162 y z (.agg #[.string a.name,.int .i64 a.ticket]) (.agg #[.string a.name,.int .i64 a.ticket]);binOp .neq 162 (.agg #[.string a.name,.int .i64 a.ticket]) (.agg #[.string a.name,.int .i64 a.ticket]):Sem Value)).run Tryz.prog w=.ok (.bool false) w:=by
 have hS:Tryz.prog.underlying 162=some (.struct (Tryz.prog.fieldsOf 162)):=by kernel_rfl
 have hp:Tryz.prog.stoodInHeld 162=false:=by kernel_rfl
 have u3:=Tryz.underlying3
 have a3:=Tryz.isAgg3
 have z3:=Tryz.sizeOf3
 have u9:=Tryz.underlying9
 have a9:=Tryz.isAgg9
 have z9:=Tryz.sizeOf9
 rw[Sem.run_bind,run_eqGuard_agg w .neq 162 y z _ _ (by kernel_rfl),Result.andThen_ok,run_neq_struct,show(10000:Nat)=9999+1 from rfl,run_equalIn_agg w 9999 162 _ _ hS hp]
 simp only[Program.fieldsOf,Tryz.underlying162]
 go_simp
theorem Gb (a:gw)(y z:Operand)(w:World):((do eqGuard .neq 73 y z (.agg #[.int .i64 a.kind,.int .i64 a.ticket,.int .i64 a.df]) (.agg #[.int .i64 a.kind,.int .i64 a.ticket,.int .i64 a.df]);binOp .neq 73 (.agg #[.int .i64 a.kind,.int .i64 a.ticket,.int .i64 a.df]) (.agg #[.int .i64 a.kind,.int .i64 a.ticket,.int .i64 a.df]):Sem Value)).run Tryz.prog w=.ok (.bool false) w:=by
 have hS:Tryz.prog.underlying 73=some (.struct (Tryz.prog.fieldsOf 73)):=by kernel_rfl
 have hp:Tryz.prog.stoodInHeld 73=false:=by kernel_rfl
 have u3:=Tryz.underlying3
 have a3:=Tryz.isAgg3
 have z3:=Tryz.sizeOf3
 rw[Sem.run_bind,run_eqGuard_agg w .neq 73 y z _ _ (by kernel_rfl),Result.andThen_ok,run_neq_struct,show(10000:Nat)=9999+1 from rfl,run_equalIn_agg w 9999 73 _ _ hS hp]
 simp only[Program.fieldsOf,Tryz.underlying73]
 go_simp
theorem qU (a:aY)(y z:Operand)(w:World):((do eqGuard .neq 92 y z (.agg #[.int .i64 a.df,.int .i64 a.node]) (.agg #[.int .i64 a.df,.int .i64 a.node]);binOp .neq 92 (.agg #[.int .i64 a.df,.int .i64 a.node]) (.agg #[.int .i64 a.df,.int .i64 a.node]):Sem Value)).run Tryz.prog w=.ok (.bool false) w:=by
 have hS:Tryz.prog.underlying 92=some (.struct (Tryz.prog.fieldsOf 92)):=by kernel_rfl
 have hp:Tryz.prog.stoodInHeld 92=false:=by kernel_rfl
 have u3:=Tryz.underlying3
 have a3:=Tryz.isAgg3
 have z3:=Tryz.sizeOf3
 rw[Sem.run_bind,run_eqGuard_agg w .neq 92 y z _ _ (by kernel_rfl),Result.andThen_ok,run_neq_struct,show(10000:Nat)=9999+1 from rfl,run_equalIn_agg w 9999 92 _ _ hS hp]
 simp only[Program.fieldsOf,Tryz.underlying92]
 go_simp
theorem Ga (a:br)(y z:Operand)(w:World):((do eqGuard .neq 59 y z (.agg #[.int .i64 a.kind,.int .i64 a.df,.string a.name,.bool a.had,.bool a.has,.string a.old,.string a.new,.int .i64 a.src,.int .i64 a.dst,.bool a.on]) (.agg #[.int .i64 a.kind,.int .i64 a.df,.string a.name,.bool a.had,.bool a.has,.string a.old,.string a.new,.int .i64 a.src,.int .i64 a.dst,.bool a.on]);binOp .neq 59 (.agg #[.int .i64 a.kind,.int .i64 a.df,.string a.name,.bool a.had,.bool a.has,.string a.old,.string a.new,.int .i64 a.src,.int .i64 a.dst,.bool a.on]) (.agg #[.int .i64 a.kind,.int .i64 a.df,.string a.name,.bool a.had,.bool a.has,.string a.old,.string a.new,.int .i64 a.src,.int .i64 a.dst,.bool a.on]):Sem Value)).run Tryz.prog w=.ok (.bool false) w:=by
 have hS:Tryz.prog.underlying 59=some (.struct (Tryz.prog.fieldsOf 59)):=by kernel_rfl
 have hp:Tryz.prog.stoodInHeld 59=false:=by kernel_rfl
 have u3:=Tryz.underlying3
 have a3:=Tryz.isAgg3
 have z3:=Tryz.sizeOf3
 have u4:=Tryz.underlying4
 have a4:=Tryz.isAgg4
 have z4:=Tryz.sizeOf4
 have u9:=Tryz.underlying9
 have a9:=Tryz.isAgg9
 have z9:=Tryz.sizeOf9
 rw[Sem.run_bind,run_eqGuard_agg w .neq 59 y z _ _ (by kernel_rfl),Result.andThen_ok,run_neq_struct,show(10000:Nat)=9999+1 from rfl,run_equalIn_agg w 9999 59 _ _ hS hp]
 simp only[Program.fieldsOf,Tryz.underlying59]
 go_simp
theorem D5 (l:List AttrM)(hl:l.length≤100000):ah Tryz.prog 126 [] [eU l,eU l] [] (aA true):=by
 have hlm:(l.map eN).length=l.length:=List.length_map ..
 refine ah.af (rvs:=[.tmp 4]) G aa Tryz.func126 rfl Tryz.ntmps126 rfl rfl ?_;with_reducible refine wD ?_
 (have fct:=hlm;(repeat' (first
  |refine gF ?_|refine aE ?_ ?_
  |apply trivial));all_goals clear fct)
 refine aU.use G aa (fun(k:Nat)=>[(0,eU l),(1,eU l),(5,aq k)]) (fun _=>[]) (fun k=>k≤l.length) (fun k=>l.length-k) 0 (Nat.zero_le _)
  ⟨⟨rfl,rfl⟩,⟨rfl,rfl,rfl,trivial⟩,trivial⟩ ?_
 intro k hk
 with_reducible refine wK ?_
 refine bq.mk (fun h1=>?_) (fun h1=>?_)<;>(try simp only[aF] at h1)<;>with_reducible refine wK ?_
 ·have hk':k<l.length:=by simp only[decide_eq_true_eq] at h1;omega
  obtain⟨x,hx⟩:∃x,l[k]? =some x:=⟨_,List.getElem?_eq_getElem hk'⟩
  obtain⟨x1,x2⟩:=x
  repeat' (first
  |refine gK ?_|refine aE ?_ ?_
  | ((first
   |((with_reducible show ay _ _ _ _ _);refine ay.mk k (pz ⟨x1,x2⟩) rfl (oH hx) ?_)
   |((with_reducible show tB _ _ _ _ _ _ _ _);refine tB.mk _ (fun y z w=>GM ⟨x1,x2⟩ y z w) ?_)
   |((with_reducible show bI _ _ _ _);refine dK ?_)
   |((with_reducible show aL _ _);refine aL.mk (k+1) (by omega) (by omega) ⟨⟨rfl,rfl⟩,⟨rfl,rfl,by show((k+1:Nat):Int)=(k:Int)+1;omega,trivial⟩,trivial⟩))<;>with_reducible refine wK ?_)
  |apply trivial)
 ·repeat' (first
  |refine gK ?_|refine aE ?_ ?_
  |apply trivial)
theorem mN (l:List br)(hl:l.length≤100000):ah Tryz.prog 43 [] [cF l,cF l] [] (aA true):=by
 have hlm:(l.map eM).length=l.length:=List.length_map ..
 refine ah.af (rvs:=[.tmp 4]) G aa Tryz.func43 rfl Tryz.ntmps43 rfl rfl ?_;with_reducible refine wD ?_
 (have fct:=hlm;(repeat' (first
  |refine gF ?_|refine aE ?_ ?_
  |apply trivial));all_goals clear fct)
 refine aU.use G aa (fun(k:Nat)=>[(0,cF l),(1,cF l),(5,aq k)]) (fun _=>[]) (fun k=>k≤l.length) (fun k=>l.length-k) 0 (Nat.zero_le _)
  ⟨⟨rfl,rfl⟩,⟨rfl,rfl,rfl,trivial⟩,trivial⟩ ?_
 intro k hk
 with_reducible refine wK ?_
 refine bq.mk (fun h1=>?_) (fun h1=>?_)<;>(try simp only[aF] at h1)<;>with_reducible refine wK ?_
 ·have hk':k<l.length:=by simp only[decide_eq_true_eq] at h1;omega
  obtain⟨x,hx⟩:∃x,l[k]? =some x:=⟨_,List.getElem?_eq_getElem hk'⟩
  obtain⟨x0,x1,x2,x3,x4,x5,x6,x7,x8,x9⟩:=x
  repeat' (first
  |refine gK ?_|refine aE ?_ ?_
  | ((first
   |((with_reducible show ay _ _ _ _ _);refine ay.mk k (iD ⟨x0,x1,x2,x3,x4,x5,x6,x7,x8,x9⟩) rfl (vT hx) ?_)
   |((with_reducible show tB _ _ _ _ _ _ _ _);refine tB.mk _ (fun y z w=>Ga ⟨x0,x1,x2,x3,x4,x5,x6,x7,x8,x9⟩ y z w) ?_)
   |((with_reducible show bI _ _ _ _);refine dK ?_)
   |((with_reducible show aL _ _);refine aL.mk (k+1) (by omega) (by omega) ⟨⟨rfl,rfl⟩,⟨rfl,rfl,by show((k+1:Nat):Int)=(k:Int)+1;omega,trivial⟩,trivial⟩))<;>with_reducible refine wK ?_)
  |apply trivial)
 ·repeat' (first
  |refine gK ?_|refine aE ?_ ?_
  |apply trivial)
theorem AO (l:List aH)(hl:l.length≤100000)(hc:lz l):ah Tryz.prog 39 [] [bJ l,bJ l] [] (aA true):=by
 have hlm:(l.map dM).length=l.length:=List.length_map ..
 refine ah.af (rvs:=[.tmp 4]) G aa Tryz.func39 rfl Tryz.ntmps39 rfl rfl ?_;with_reducible refine wD ?_
 (have fct:=hlm;(repeat' (first
  |refine gF ?_|refine aE ?_ ?_
  |apply trivial));all_goals clear fct)
 refine aU.use G aa (fun(k:Nat)=>[(0,bJ l),(1,bJ l),(5,aq k)]) (fun _=>[]) (fun k=>k≤l.length) (fun k=>l.length-k) 0 (Nat.zero_le _)
  ⟨⟨rfl,rfl⟩,⟨rfl,rfl,rfl,trivial⟩,trivial⟩ ?_
 intro k hk
 with_reducible refine wK ?_
 refine bq.mk (fun h1=>?_) (fun h1=>?_)<;>(try simp only[aF] at h1)<;>with_reducible refine wK ?_
 ·have hk':k<l.length:=by simp only[decide_eq_true_eq] at h1;omega
  obtain⟨x,hx⟩:∃x,l[k]? =some x:=⟨_,List.getElem?_eq_getElem hk'⟩
  have hal:=LC x x (hc x (List.mem_of_getElem? hx))
  rw[decide_eq_true rfl] at hal
  obtain⟨x1,x2,x3,x4,x5⟩:=x
  repeat' (first
  |refine gK ?_|refine aE ?_ ?_
  | ((first
   |((with_reducible show ay _ _ _ _ _);refine ay.mk k (cN ⟨x1,x2,x3,x4,x5⟩) rfl (jm hx) ?_)
   |((with_reducible refine kQ 108 ?_);refine cL hal QH ?_)
   |((with_reducible show bI _ _ _ _);refine dK ?_)
   |((with_reducible show aL _ _);refine aL.mk (k+1) (by omega) (by omega) ⟨⟨rfl,rfl⟩,⟨rfl,rfl,by show((k+1:Nat):Int)=(k:Int)+1;omega,trivial⟩,trivial⟩))<;>with_reducible refine wK ?_)
  |apply trivial)
 ·repeat' (first
  |refine gK ?_|refine aE ?_ ?_
  |apply trivial)
theorem CE (x:au)(h1:x.attrs.length≤100000)(h2:x.kids.length≤100000):ah Tryz.prog 59 [] [aS x,aS x] [] (aA true):=by
 have ha:=D5 x.attrs h1
 have hk:=Bf x.kids x.kids h2
 rw[decide_eq_true rfl] at hk
 obtain⟨x0,x1,x2,x3,x4,x5,x6,x7,x8,x9⟩:=x
 simp only at ha hk
 refine ah.af (rvs:=[.tmp 4]) G aa Tryz.func59 rfl Tryz.ntmps59 rfl rfl ?_;with_reducible refine wD ?_
 dsimp only[List.append];with_reducible refine wK ?_
 repeat' (first
  |refine gK ?_|refine aE ?_ ?_
  | ((first
   |((with_reducible refine kQ 126 ?_);refine cL ha RH ?_)
   |((with_reducible refine kQ 44 ?_);refine cL hk P8 ?_))<;>with_reducible refine wK ?_)
  |apply trivial)
 all_goals first|rfl|(simp;done)
theorem oV (f:ForM)(hs:bS f.nodes):ah Tryz.prog 37 [] [cJ f,cJ f] [] (aA true):=by
 have hl1:=hs.len
 have hone:∀x∈f.nodes,ah Tryz.prog 59 [] [aS x,aS x] [] (aA true):=fun x hx=>CE x (by have:=hs.attrs x hx;omega) (by have:=hs.kids x hx;omega)
 obtain⟨l,m⟩:=f
 have hlm:(l.map bZ).length=l.length:=List.length_map ..
 simp only at hone hl1
 refine ah.af (rvs:=[.tmp 4]) G aa Tryz.func37 rfl Tryz.ntmps37 rfl rfl ?_;with_reducible refine wD ?_
 (have fct:=hlm;(repeat' (first
  |refine gF ?_|refine aE ?_ ?_
  |apply trivial));all_goals clear fct)
 refine aU.use G aa (fun(k:Nat)=>[(2,.ptr 20 0 0),(3,.ptr 30 0 0),(5,aq k)]) (fun _=>[(20,.live 2 [cJ ⟨l,m⟩] false),(30,.live 2 [cJ ⟨l,m⟩] false)]) (fun k=>k≤l.length) (fun k=>l.length-k) 0 (Nat.zero_le _)
  ⟨⟨rfl,rfl⟩,⟨⟨rfl,rfl⟩,⟨rfl,rfl⟩,rfl,trivial⟩,⟨⟨rfl,rfl,trivial⟩,trivial⟩,⟨⟨rfl,rfl,trivial⟩,trivial⟩,trivial⟩ ?_
 intro k0 hk0
 with_reducible refine wK ?_
 refine bq.mk (fun h0=>?_) (fun h0=>?_)<;>(try simp only[aF] at h0)<;>with_reducible refine wK ?_
 ·have hk':k0<l.length:=by simp only[decide_eq_true_eq] at h0;omega
  obtain⟨x,hx⟩:∃x,l[k0]? =some x:=⟨_,List.getElem?_eq_getElem hk'⟩
  have hx1:=hone x (List.mem_of_getElem? hx)
  obtain⟨y0,y1,y2,y3,y4,y5,y6,y7,y8,y9⟩:=x
  repeat' (first
  |refine gK ?_|refine aE ?_ ?_
  | ((first
   |((with_reducible show ay _ _ _ _ _);refine ay.mk k0 (aS ⟨y0,y1,y2,y3,y4,y5,y6,y7,y8,y9⟩) rfl (aG hx) ?_)
   |((with_reducible refine kQ 59 ?_);refine cL hx1 RE ?_)
   |((with_reducible show bI _ _ _ _);refine dK ?_)
   |((with_reducible show aL _ _);refine aL.mk (k0+1) (by omega) (by omega) ⟨⟨rfl,rfl⟩,⟨⟨rfl,rfl⟩,⟨rfl,rfl⟩,by show((k0+1:Nat):Int)=(k0:Int)+1;omega,trivial⟩,⟨⟨rfl,rfl,trivial⟩,trivial⟩,⟨⟨rfl,rfl,trivial⟩,trivial⟩,trivial⟩))<;>with_reducible refine wK ?_)
  |apply trivial)
 ·repeat' (first
  |refine gK ?_|refine aE ?_ ?_
  |apply trivial)
theorem yI (d:aZ)(hd:iS d):ah Tryz.prog 38 [] [gi d,gi d] [] (aA true):=by
 have hl1:=hd.defs
 have hl2:=hd.waits
 obtain⟨l,ws,nx,bz⟩:=d
 simp only at hl1 hl2
 have hlm:(l.map fH).length=l.length:=List.length_map ..
 have hwm:(ws.map rV).length=ws.length:=List.length_map ..
 refine ah.af (rvs:=[.tmp 4]) G aa Tryz.func38 rfl Tryz.ntmps38 rfl rfl ?_;with_reducible refine wD ?_
 (have fct:=And.intro hlm (hwm);(repeat' (first
  |refine gF ?_|refine aE ?_ ?_
  |apply trivial));all_goals clear fct)
 refine aU.use G aa (fun(k:Nat)=>[(2,.ptr 20 0 0),(3,.ptr 30 0 0),(5,aq k)]) (fun _=>[(20,.live 4 [gi ⟨l,ws,nx,bz⟩] false),(30,.live 4 [gi ⟨l,ws,nx,bz⟩] false)]) (fun k=>k≤l.length) (fun k=>l.length-k) 0 (Nat.zero_le _)
  ⟨⟨rfl,rfl⟩,⟨⟨rfl,rfl⟩,⟨rfl,rfl⟩,rfl,trivial⟩,⟨⟨rfl,rfl,rfl,rfl,trivial⟩,trivial⟩,⟨⟨rfl,rfl,rfl,rfl,trivial⟩,trivial⟩,trivial⟩ ?_
 intro k0 hk0
 with_reducible refine wK ?_
 refine bq.mk (fun h0=>?_) (fun h0=>?_)<;>(try simp only[aF] at h0)<;>with_reducible refine wK ?_
 ·have hk':k0<l.length:=by simp only[decide_eq_true_eq] at h0;omega
  obtain⟨x,hx⟩:∃x,l[k0]? =some x:=⟨_,List.getElem?_eq_getElem hk'⟩
  obtain⟨y1,y2,y3⟩:=x
  repeat' (first
  |refine gK ?_|refine aE ?_ ?_
  | ((first
   |((with_reducible show ay _ _ _ _ _);refine ay.mk k0 (jH ⟨y1,y2,y3⟩) rfl (dD hx) ?_)
   |((with_reducible show tB _ _ _ _ _ _ _ _);refine tB.mk _ (fun y z w=>H7 ⟨y1,y2,y3⟩ y z w) ?_)
   |((with_reducible show bI _ _ _ _);refine dK ?_)
   |((with_reducible show aL _ _);refine aL.mk (k0+1) (by omega) (by omega) ⟨⟨rfl,rfl⟩,⟨⟨rfl,rfl⟩,⟨rfl,rfl⟩,by show((k0+1:Nat):Int)=(k0:Int)+1;omega,trivial⟩,⟨⟨rfl,rfl,rfl,rfl,trivial⟩,trivial⟩,⟨⟨rfl,rfl,rfl,rfl,trivial⟩,trivial⟩,trivial⟩))<;>with_reducible refine wK ?_)
  |apply trivial)
 ·repeat' (first
  |refine gK ?_|refine aE ?_ ?_
  |apply trivial)
  refine aU.use G aa (fun(k:Nat)=>[(2,.ptr 20 0 0),(3,.ptr 30 0 0),(6,aq k)]) (fun _=>[(20,.live 4 [gi ⟨l,ws,nx,bz⟩] false),(30,.live 4 [gi ⟨l,ws,nx,bz⟩] false)]) (fun k=>k≤ws.length) (fun k=>ws.length-k) 0 (Nat.zero_le _)
   ⟨⟨rfl,rfl⟩,⟨⟨rfl,rfl⟩,⟨rfl,rfl⟩,rfl,trivial⟩,⟨⟨rfl,rfl,rfl,rfl,trivial⟩,trivial⟩,⟨⟨rfl,rfl,rfl,rfl,trivial⟩,trivial⟩,trivial⟩ ?_
  intro k1 hk1
  with_reducible refine wK ?_
  refine bq.mk (fun h1=>?_) (fun h1=>?_)<;>(try simp only[aF] at h1)<;>with_reducible refine wK ?_
  ·have hk':k1<ws.length:=by simp only[decide_eq_true_eq] at h1;omega
   obtain⟨x,hx⟩:∃x,ws[k1]? =some x:=⟨_,List.getElem?_eq_getElem hk'⟩
   obtain⟨y1,y2⟩:=x
   repeat' (first
  |refine gK ?_|refine aE ?_ ?_
  | ((first
   |((with_reducible show ay _ _ _ _ _);refine ay.mk k1 (Ci ⟨y1,y2⟩) rfl (xD hx) ?_)
   |((with_reducible show tB _ _ _ _ _ _ _ _);refine tB.mk _ (fun y z w=>Hy ⟨y1,y2⟩ y z w) ?_)
   |((with_reducible show bI _ _ _ _);refine dK ?_)
   |((with_reducible show aL _ _);refine aL.mk (k1+1) (by omega) (by omega) ⟨⟨rfl,rfl⟩,⟨⟨rfl,rfl⟩,⟨rfl,rfl⟩,by show((k1+1:Nat):Int)=(k1:Int)+1;omega,trivial⟩,⟨⟨rfl,rfl,rfl,rfl,trivial⟩,trivial⟩,⟨⟨rfl,rfl,rfl,rfl,trivial⟩,trivial⟩,trivial⟩))<;>with_reducible refine wK ?_)
  |apply trivial)
  ·repeat' (first
  |refine gK ?_|refine aE ?_ ?_
  |apply trivial)
theorem G3 (l:bK)(hs:kV 99000 l):ah Tryz.prog 78 [] [gU l,gU l] [] (aA true):=by
 have htd:∀x∈l.todos,ah Tryz.prog 43 [] [cF x,cF x] [] (aA true):=fun x hx=>mN x (by have:=hs.todo x hx;omega)
 have hin:∀x∈l.stack,ah Tryz.prog 44 [] [bY x,bY x] [] (aA true):=fun x hx=>by
  have:=Bf x x (by have:=hs.list x hx;omega)
  rwa [decide_eq_true rfl] at this
 have hbk:ah Tryz.prog 44 [] [bY l.back,bY l.back] [] (aA true):=by
  have:=Bf l.back l.back (by have:=hs.back;omega)
  rwa [decide_eq_true rfl] at this
 have hl1:=hs.todos
 have hl2:=hs.stack
 obtain⟨a,b,c,d⟩:=l
 simp only at htd hin hbk hl1 hl2
 have ham:(a.map cI).length=a.length:=List.length_map ..
 have hbm:(b.map gg).length=b.length:=List.length_map ..
 refine ah.af (rvs:=[.tmp 4]) G aa Tryz.func78 rfl Tryz.ntmps78 rfl rfl ?_;with_reducible refine wD ?_
 (have fct:=And.intro ham (hbm);(repeat' (first
  |refine gF ?_|refine aE ?_ ?_
  |(((with_reducible refine kQ 44 ?_);refine cL hbk P8 ?_)<;>with_reducible refine wK ?_)
  |apply trivial));all_goals clear fct)
 refine aU.use G aa (fun(k:Nat)=>[(2,.ptr 20 0 0),(3,.ptr 30 0 0),(5,aq k)]) (fun _=>[(20,.live 4 [gU ⟨a,b,c,d⟩] false),(30,.live 4 [gU ⟨a,b,c,d⟩] false)]) (fun k=>k≤a.length) (fun k=>a.length-k) 0 (Nat.zero_le _)
  ⟨⟨rfl,rfl⟩,⟨⟨rfl,rfl⟩,⟨rfl,rfl⟩,rfl,trivial⟩,⟨⟨rfl,rfl,rfl,rfl,trivial⟩,trivial⟩,⟨⟨rfl,rfl,rfl,rfl,trivial⟩,trivial⟩,trivial⟩ ?_
 intro k0 hk0
 with_reducible refine wK ?_
 refine bq.mk (fun h0=>?_) (fun h0=>?_)<;>(try simp only[aF] at h0)<;>with_reducible refine wK ?_
 ·have hk':k0<a.length:=by simp only[decide_eq_true_eq] at h0;omega
  obtain⟨x,hx⟩:∃x,a[k0]? =some x:=⟨_,List.getElem?_eq_getElem hk'⟩
  have hx1:=htd x (List.mem_of_getElem? hx)
  skip
  repeat' (first
  |refine gK ?_|refine aE ?_ ?_
  | ((first
   |((with_reducible show ay _ _ _ _ _);refine ay.mk k0 (cF x) rfl (cz hx) ?_)
   |((with_reducible refine kQ 43 ?_);refine cL hx1 Qe ?_)
   |((with_reducible show bI _ _ _ _);refine dK ?_)
   |((with_reducible show aL _ _);refine aL.mk (k0+1) (by omega) (by omega) ⟨⟨rfl,rfl⟩,⟨⟨rfl,rfl⟩,⟨rfl,rfl⟩,by show((k0+1:Nat):Int)=(k0:Int)+1;omega,trivial⟩,⟨⟨rfl,rfl,rfl,rfl,trivial⟩,trivial⟩,⟨⟨rfl,rfl,rfl,rfl,trivial⟩,trivial⟩,trivial⟩))<;>with_reducible refine wK ?_)
  |apply trivial)
 ·repeat' (first
  |refine gK ?_|refine aE ?_ ?_
  |apply trivial)
  refine aU.use G aa (fun(k:Nat)=>[(2,.ptr 20 0 0),(3,.ptr 30 0 0),(6,aq k)]) (fun _=>[(20,.live 4 [gU ⟨a,b,c,d⟩] false),(30,.live 4 [gU ⟨a,b,c,d⟩] false)]) (fun k=>k≤b.length) (fun k=>b.length-k) 0 (Nat.zero_le _)
   ⟨⟨rfl,rfl⟩,⟨⟨rfl,rfl⟩,⟨rfl,rfl⟩,rfl,trivial⟩,⟨⟨rfl,rfl,rfl,rfl,trivial⟩,trivial⟩,⟨⟨rfl,rfl,rfl,rfl,trivial⟩,trivial⟩,trivial⟩ ?_
  intro k1 hk1
  with_reducible refine wK ?_
  refine bq.mk (fun h1=>?_) (fun h1=>?_)<;>(try simp only[aF] at h1)<;>with_reducible refine wK ?_
  ·have hk':k1<b.length:=by simp only[decide_eq_true_eq] at h1;omega
   obtain⟨x,hx⟩:∃x,b[k1]? =some x:=⟨_,List.getElem?_eq_getElem hk'⟩
   have hx1:=hin x (List.mem_of_getElem? hx)
   skip
   repeat' (first
  |refine gK ?_|refine aE ?_ ?_
  | ((first
   |((with_reducible show ay _ _ _ _ _);refine ay.mk k1 (bY x) rfl (lD hx) ?_)
   |((with_reducible refine kQ 44 ?_);refine cL hx1 P8 ?_)
   |((with_reducible show bI _ _ _ _);refine dK ?_)
   |((with_reducible show aL _ _);refine aL.mk (k1+1) (by omega) (by omega) ⟨⟨rfl,rfl⟩,⟨⟨rfl,rfl⟩,⟨rfl,rfl⟩,by show((k1+1:Nat):Int)=(k1:Int)+1;omega,trivial⟩,⟨⟨rfl,rfl,rfl,rfl,trivial⟩,trivial⟩,⟨⟨rfl,rfl,rfl,rfl,trivial⟩,trivial⟩,trivial⟩))<;>with_reducible refine wK ?_)
  |apply trivial)
  ·repeat' (first
  |refine gK ?_|refine aE ?_ ?_
  |apply trivial)
structure bh (w:ai):Prop where
 f:bS w.f.nodes
 st:w.states.length≤1000
 d:iS w.desk
 l:kV 90000 w.line
 ta:w.tasks.length≤90000
 bu:w.builds.length≤90000
 cl:w.classes.length≤1000
 cs:lz w.classes
 nm:∀c∈w.classes,∀s∈c.watch,s.size≤300
theorem nJ (w:ai)(hs:bh w):ah Tryz.prog 23 [] [aT w,aT w] [] (aA true):=by
 have h37:=oV w.f hs.f
 have h42:=IV w.states w.states (by have:=hs.st;omega)
 rw[decide_eq_true rfl] at h42
 have h38:=yI w.desk hs.d
 have h78:=G3 w.line (hs.l.mono (by omega))
 have h39:=AO w.classes (by have:=hs.cl;omega) hs.cs
 have hl1:=hs.ta
 have hl2:=hs.bu
 obtain⟨⟨l,m⟩,st,⟨d1,d2,d3,d4⟩,⟨a,b,c,d⟩,ta,bu,cs⟩:=w
 simp only at h37 h42 h38 h78 h39 hl1 hl2
 have ham:(ta.map gx).length=ta.length:=List.length_map ..
 have hbm:(bu.map bM).length=bu.length:=List.length_map ..
 refine ah.af (rvs:=[.tmp 4]) G aa Tryz.func23 rfl Tryz.ntmps23 rfl rfl ?_;with_reducible refine wD ?_
 (have fct:=And.intro ham (hbm);(repeat' (first
  |refine gF ?_|refine aE ?_ ?_
  |apply trivial));all_goals clear fct)
 refine aU.use G aa (fun(k:Nat)=>[(2,.ptr 20 0 0),(3,.ptr 30 0 0),(5,aq k)]) (fun _=>[(20,.live 14 [aT ⟨⟨l,m⟩,st,⟨d1,d2,d3,d4⟩,⟨a,b,c,d⟩,ta,bu,cs⟩] false),(30,.live 14 [aT ⟨⟨l,m⟩,st,⟨d1,d2,d3,d4⟩,⟨a,b,c,d⟩,ta,bu,cs⟩] false)]) (fun k=>k≤ta.length) (fun k=>ta.length-k) 0 (Nat.zero_le _)
  ⟨⟨rfl,rfl⟩,⟨⟨rfl,rfl⟩,⟨rfl,rfl⟩,rfl,trivial⟩,⟨⟨rfl,rfl,rfl,rfl,rfl,rfl,rfl,rfl,rfl,rfl,rfl,rfl,rfl,rfl,trivial⟩,trivial⟩,⟨⟨rfl,rfl,rfl,rfl,rfl,rfl,rfl,rfl,rfl,rfl,rfl,rfl,rfl,rfl,trivial⟩,trivial⟩,trivial⟩ ?_
 intro k0 hk0
 with_reducible refine wK ?_
 refine bq.mk (fun h0=>?_) (fun h0=>?_)<;>(try simp only[aF] at h0)<;>with_reducible refine wK ?_
 ·have hk':k0<ta.length:=by simp only[decide_eq_true_eq] at h0;omega
  obtain⟨x,hx⟩:∃x,ta[k0]? =some x:=⟨_,List.getElem?_eq_getElem hk'⟩
  obtain⟨y1,y2,y3⟩:=x
  repeat' (first
  |refine gK ?_|refine aE ?_ ?_
  | ((first
   |((with_reducible show ay _ _ _ _ _);refine ay.mk k0 (qB ⟨y1,y2,y3⟩) rfl (C6 hx) ?_)
   |((with_reducible show tB _ _ _ _ _ _ _ _);refine tB.mk _ (fun y z w=>Gb ⟨y1,y2,y3⟩ y z w) ?_)
   |((with_reducible show bI _ _ _ _);refine dK ?_)
   |((with_reducible show aL _ _);refine aL.mk (k0+1) (by omega) (by omega) ⟨⟨rfl,rfl⟩,⟨⟨rfl,rfl⟩,⟨rfl,rfl⟩,by show((k0+1:Nat):Int)=(k0:Int)+1;omega,trivial⟩,⟨⟨rfl,rfl,rfl,rfl,rfl,rfl,rfl,rfl,rfl,rfl,rfl,rfl,rfl,rfl,trivial⟩,trivial⟩,⟨⟨rfl,rfl,rfl,rfl,rfl,rfl,rfl,rfl,rfl,rfl,rfl,rfl,rfl,rfl,trivial⟩,trivial⟩,trivial⟩))<;>with_reducible refine wK ?_)
  |apply trivial)
 ·repeat' (first
  |refine gK ?_|refine aE ?_ ?_
  |apply trivial)
  refine aU.use G aa (fun(k:Nat)=>[(2,.ptr 20 0 0),(3,.ptr 30 0 0),(6,aq k)]) (fun _=>[(20,.live 14 [aT ⟨⟨l,m⟩,st,⟨d1,d2,d3,d4⟩,⟨a,b,c,d⟩,ta,bu,cs⟩] false),(30,.live 14 [aT ⟨⟨l,m⟩,st,⟨d1,d2,d3,d4⟩,⟨a,b,c,d⟩,ta,bu,cs⟩] false)]) (fun k=>k≤bu.length) (fun k=>bu.length-k) 0 (Nat.zero_le _)
   ⟨⟨rfl,rfl⟩,⟨⟨rfl,rfl⟩,⟨rfl,rfl⟩,rfl,trivial⟩,⟨⟨rfl,rfl,rfl,rfl,rfl,rfl,rfl,rfl,rfl,rfl,rfl,rfl,rfl,rfl,trivial⟩,trivial⟩,⟨⟨rfl,rfl,rfl,rfl,rfl,rfl,rfl,rfl,rfl,rfl,rfl,rfl,rfl,rfl,trivial⟩,trivial⟩,trivial⟩ ?_
  intro k1 hk1
  with_reducible refine wK ?_
  refine bq.mk (fun h1=>?_) (fun h1=>?_)<;>(try simp only[aF] at h1)<;>with_reducible refine wK ?_
  ·have hk':k1<bu.length:=by simp only[decide_eq_true_eq] at h1;omega
   obtain⟨x,hx⟩:∃x,bu[k1]? =some x:=⟨_,List.getElem?_eq_getElem hk'⟩
   obtain⟨y1,y2⟩:=x
   repeat' (first
  |refine gK ?_|refine aE ?_ ?_
  | ((first
   |((with_reducible show ay _ _ _ _ _);refine ay.mk k1 (fA ⟨y1,y2⟩) rfl (ef hx) ?_)
   |((with_reducible show tB _ _ _ _ _ _ _ _);refine tB.mk _ (fun y z w=>qU ⟨y1,y2⟩ y z w) ?_)
   |((with_reducible show bI _ _ _ _);refine dK ?_)
   |((with_reducible show aL _ _);refine aL.mk (k1+1) (by omega) (by omega) ⟨⟨rfl,rfl⟩,⟨⟨rfl,rfl⟩,⟨rfl,rfl⟩,by show((k1+1:Nat):Int)=(k1:Int)+1;omega,trivial⟩,⟨⟨rfl,rfl,rfl,rfl,rfl,rfl,rfl,rfl,rfl,rfl,rfl,rfl,rfl,rfl,trivial⟩,trivial⟩,⟨⟨rfl,rfl,rfl,rfl,rfl,rfl,rfl,rfl,rfl,rfl,rfl,rfl,rfl,rfl,trivial⟩,trivial⟩,trivial⟩))<;>with_reducible refine wK ?_)
  |apply trivial)
  ·repeat' (first
  |refine gK ?_|refine aE ?_ ?_
  | ((first
   |((with_reducible refine kQ 37 ?_);refine cL h37 OH ?_)
   |((with_reducible refine kQ 42 ?_);refine cL h42 Sa ?_)
   |((with_reducible refine kQ 38 ?_);refine cL h38 R6 ?_)
   |((with_reducible refine kQ 78 ?_);refine cL h78 Su ?_)
   |((with_reducible refine kQ 39 ?_);refine cL h39 Sk ?_))<;>with_reducible refine wK ?_)
  | apply trivial)
   all_goals first|rfl|(simp;done)
@[reducible] def mW (w : ai) : MS := .live 14 [aT w] false
theorem GU (c:aH)(h1:c.watch.length≤100000)(h2:c.hooks.length≤100000)(h3:∀s∈c.watch,s.size≤300):ah Tryz.prog 205 [] [cN c] [] (aA (!iN c)):=by
 have ha:=u0 c h1 h2 h3
 obtain⟨c1,c2,c3,c4,c5⟩:=c
 refine ah.af (rvs:=[.tmp 2]) G aa Tryz.func205 rfl Tryz.ntmps205 rfl rfl ?_;with_reducible refine wD ?_
 repeat' (first
  |refine gK ?_|refine aE ?_ ?_
  |(((with_reducible refine kQ 26 ?_);refine cL ha R4 ?_)<;>with_reducible refine wK ?_)
  |apply trivial)
 all_goals rfl
theorem HS (w:ai)(x:bD):ah Tryz.prog 206 [] [jH x,.fptr (aT w) 0] [] (aA (decide ((w.classes.length:Int)≤x.cls))):=by
 obtain⟨⟨l,m⟩,st,⟨d1,d2,d3,d4⟩,⟨a,b,c,d⟩,ta,bu,cs⟩:=w
 have hlm:(cs.map dM).length=cs.length:=List.length_map ..
 obtain⟨x1,x2,x3⟩:=x
 refine ah.af (rvs:=[.tmp 3]) G aa Tryz.func206 rfl Tryz.ntmps206 rfl rfl ?_;with_reducible refine wD ?_
 (have fct:=hlm;(repeat' (first
  |refine gF ?_|refine aE ?_ ?_
  |apply trivial));all_goals clear fct)
 all_goals first|(simp;done)
theorem Bm (w:ai)(hs:bh w):ah Tryz.prog 143 [] [aT w] [] (aA (k8 w)):=by
 have a1:=ah.PU (Lo 205 QF [] rfl (fun c=> !iN c) w.classes (by have:=hs.cl;omega) (fun c hc=>GU c (hs.cs c hc).watch (hs.cs c hc).hooks (hs.nm c hc)))
 have hnr:aN [AV.fptr (aT w) 0]=true:=rfl
 have a2:=MK 206 Q9 [.fptr (aT w) 0] hnr (fun x=>decide ((w.classes.length:Int)≤x.cls)) w.desk.defs (by have:=hs.d.defs;omega) (fun x _=>HS w x)
 unfold k8
 obtain⟨⟨l,m⟩,st,⟨d1,d2,d3,d4⟩,⟨a,b,c,d⟩,ta,bu,cs⟩:=w
 simp only at a1 a2 ⊢
 have hlm:(cs.map dM).length=cs.length:=List.length_map ..
 generalize(cs.any fun c=> !iN c)=p1 at*
 generalize(d1.any fun x=>decide ((cs.length:Int)≤x.cls))=p2 at*
 by_cases e1:(cs.length:Int)≤12
 ·rw[decide_eq_true (show cs.length≤12 by omega)]
  have g1:decide (((cs.map dM).length:Int)≤12)=true:=decide_eq_true (by rw[hlm];exact e1)
  cases p1<;>cases p2<;>
  ·refine ah.af (rvs:=[.tmp 2]) G aa Tryz.func143 rfl Tryz.ntmps143 rfl rfl ?_;with_reducible refine wD ?_
   repeat' (first
  |refine gK ?_|refine aE ?_ ?_
  | ((first
   |((with_reducible refine kQ 207 ?_);refine cL a1 Ru ?_)
   |((with_reducible refine kQ 208 ?_);refine aj.lit [10] a2 Rr ⟨rfl,⟨rfl,trivial,⟨_,_,_,_,_,rfl,rfl,rfl,rfl,rfl,⟨rfl,rfl,rfl,rfl,rfl,rfl,rfl,rfl,rfl,rfl,rfl,rfl,rfl,rfl,trivial⟩⟩,trivial⟩,trivial⟩ rfl rfl ?_))<;>with_reducible refine wK ?_)
  | apply trivial)
   all_goals first|rfl|(simp;done)
 ·rw[decide_eq_false (show ¬cs.length≤12 by omega)]
  have g1:decide (((cs.map dM).length:Int)≤12)=false:=decide_eq_false (by rw[hlm];exact e1)
  refine ah.af (rvs:=[.tmp 2]) G aa Tryz.func143 rfl Tryz.ntmps143 rfl rfl ?_;with_reducible refine wD ?_
  repeat' (first
  |refine gK ?_|refine aE ?_ ?_
  |apply trivial)
  all_goals first|rfl|(simp;done)
theorem HN (w:ai)(t:br):ah Tryz.prog 148 [] [iD t,.fptr (aT w) 0] [] (aA (!lq w t)):=by
 have h:=zB w t
 generalize lq w t=g at*
 obtain⟨⟨l,m⟩,st,⟨d1,d2,d3,d4⟩,⟨a,b,c,d⟩,ta,bu,cs⟩:=w
 obtain⟨x0,x1,x2,x3,x4,x5,x6,x7,x8,x9⟩:=t
 refine ah.af (rvs:=[.tmp 3]) G aa Tryz.func148 rfl Tryz.ntmps148 rfl rfl ?_;with_reducible refine wD ?_
 repeat' (first
  |refine gK ?_|refine aE ?_ ?_
  |(((with_reducible refine kQ 96 ?_);refine cL h RY ?_)<;>with_reducible refine wK ?_)
  |apply trivial)
 all_goals rfl
theorem G2 (w:ai)(t:gw):ah Tryz.prog 150 [] [qB t,.fptr (aT w) 0] [] (aA (!uJ w t)):=by
 have h:=GX w t
 generalize uJ w t=g at*
 obtain⟨⟨l,m⟩,st,⟨d1,d2,d3,d4⟩,⟨a,b,c,d⟩,ta,bu,cs⟩:=w
 obtain⟨x0,x1,x2⟩:=t
 refine ah.af (rvs:=[.tmp 3]) G aa Tryz.func150 rfl Tryz.ntmps150 rfl rfl ?_;with_reducible refine wD ?_
 repeat' (first
  |refine gK ?_|refine aE ?_ ?_
  |(((with_reducible refine kQ 151 ?_);refine cL h QC ?_)<;>with_reducible refine wK ?_)
  |apply trivial)
 all_goals rfl
theorem Hp (w:ai)(t:aY):ah Tryz.prog 153 [] [fA t,.fptr (aT w) 0] [] (aA (!gS w t)):=by
 have h:=Ei w t
 generalize gS w t=g at*
 obtain⟨⟨l,m⟩,st,⟨d1,d2,d3,d4⟩,⟨a,b,c,d⟩,ta,bu,cs⟩:=w
 obtain⟨x0,x1⟩:=t
 refine ah.af (rvs:=[.tmp 3]) G aa Tryz.func153 rfl Tryz.ntmps153 rfl rfl ?_;with_reducible refine wD ?_
 repeat' (first
  |refine gK ?_|refine aE ?_ ?_
  |(((with_reducible refine kQ 154 ?_);refine cL h Rz ?_)<;>with_reducible refine wK ?_)
  |apply trivial)
 all_goals rfl
theorem Gf {w:ai}(h:Ah w=false):cf w=false:=by unfold cf;rw[h];rfl
theorem B4 {w:ai}{k:Nat}(hk:k<w.line.todos.length)(h:qH w k=false):cf w=false:=by
 unfold cf
 have:(List.range w.line.todos.length).all (fun n:Nat=>qH w n)=false:=by
  rw[List.all_eq_false]
  exact⟨k,List.mem_range.2 hk,by rw[h];simp⟩
 rw[this];simp
theorem De {w:ai}(h:Ah w=true)(h2:∀k:Nat,k<w.line.todos.length→qH w k=true):cf w=E7 w:=by
 unfold cf
 have:(List.range w.line.todos.length).all (fun n:Nat=>qH w n)=true:=by
  rw[List.all_eq_true]
  exact fun n hn=>h2 n (List.mem_range.1 hn)
 rw[this,h];simp
theorem rL (w:ai)(hs:bh w):ah Tryz.prog 75 [] [aT w] [] (aA (cf w)):=by
 have h143:=Bm w hs
 have h100:=j7 w.f hs.f
 have h144:=AZ w.desk hs.d
 have h145:=qL w.line (hs.l.mono (by omega))
 have hnode:=fun k=>B4 (w:=w) (k:=k)
 have hyes:=De (w:=w)
 have hno:=Gf (w:=w)
 obtain⟨hg,hhg⟩:∃g,Ah w=g:=⟨_,rfl⟩
 rw[hhg] at hyes hno
 have hh:=hhg
 unfold Ah at hh
 cases hg with
 | false =>
   rw[hno rfl]
   clear hno hyes hnode hhg
   generalize k8 w=g1 at*
   generalize aV w.f=g2 at*
   generalize eW w.desk=g3 at*
   generalize vo w.line=g4 at*
   obtain⟨⟨l,m⟩,st,⟨d1,d2,d3,d4⟩,⟨a,b,c,d⟩,ta,bu,cs⟩:=w
   simp only at h100 h144 h145 hh
   have n1:(l.map bZ).length=l.length:=List.length_map ..
   have n2:(st.map bG).length=st.length:=List.length_map ..
   have n3:(a.map cI).length=a.length:=List.length_map ..
   by_cases e1:(st.length:Int)=(l.length:Int)
   ·by_cases e2:(a.length:Int)=(l.length:Int)
    ·rw [decide_eq_true (show st.length=l.length by omega),decide_eq_true (show a.length=l.length by omega)] at hh
     cases g1<;>cases g2<;>cases g3<;>cases g4<;>first
      |(exfalso;revert hh;decide)
      | (refine ah.af (rvs:=[.tmp 2]) G aa Tryz.func75 rfl Tryz.ntmps75 rfl rfl ?_;with_reducible refine wD ?_
         (have fct:=And.intro n1 (And.intro n2 (And.intro n3 (And.intro (eq_true e1) ((eq_true e2)))));(repeat' (first
  |refine gF ?_|refine aE ?_ ?_
  | ((first
   |((with_reducible refine kQ 143 ?_);refine cL h143 Ph ?_)
   |((with_reducible refine kQ 100 ?_);refine cL h100 mT ?_)
   |((with_reducible refine kQ 144 ?_);refine cL h144 IC ?_)
   |((with_reducible refine kQ 145 ?_);refine cL h145 As ?_))<;>with_reducible refine wK ?_)
  | apply trivial));all_goals clear fct))
    ·refine ah.af (rvs:=[.tmp 2]) G aa Tryz.func75 rfl Tryz.ntmps75 rfl rfl ?_;with_reducible refine wD ?_
     (have fct:=And.intro n1 (And.intro n2 (And.intro n3 (And.intro (eq_true e1) ((eq_false e2)))));(repeat' (first
  |refine gF ?_|refine aE ?_ ?_
  | apply trivial));all_goals clear fct)
   ·refine ah.af (rvs:=[.tmp 2]) G aa Tryz.func75 rfl Tryz.ntmps75 rfl rfl ?_;with_reducible refine wD ?_
    (have fct:=And.intro n1 (And.intro n2 ((eq_false e1)));(repeat' (first
  |refine gF ?_|refine aE ?_ ?_
  |apply trivial));all_goals clear fct)
 | true =>
   have hyes:=hyes rfl
   clear hno hhg
   simp only[Bool.and_eq_true,decide_eq_true_eq] at hh
   obtain⟨⟨⟨⟨⟨q1,q2⟩,q3⟩,q4⟩,q5⟩,q6⟩:=hh
   rw[q3] at h143
   rw[q4] at h100
   rw[q5] at h144
   rw[q6] at h145
   have hst:=fun k x s=>DE w k x s
   have hnr:aN [AV.fptr (aT w) 0]=true:=rfl
   have hcf:=fun y (hy:y∈w.line.todos)=>MB 148 QX [.fptr (aT w) 0] hnr (fun t=> !lq w t) y (by have:=hs.l.todo y hy;omega) (fun t _=>HN w t)
   have htk:=Mp 150 Rf [.fptr (aT w) 0] hnr (fun t=> !uJ w t) w.tasks (by have:=hs.ta;omega) (fun t _=>G2 w t)
   have hbk:=Mh 153 QY [.fptr (aT w) 0] hnr (fun t=> !gS w t) w.builds (by have:=hs.bu;omega) (fun t _=>Hp w t)
   have hnG:∀ (k:Nat) x s y,w.f.nodes[k]? =some x→w.states[k]? =some s→w.line.todos[k]? =some y→qH w k=(gy w x s&& !(y.any fun t=> !lq w t)):=fun k x s y hx hs hy=>by
    unfold qH xR;rw[cZ hx,bX hs,kG rfl hy]
   unfold E7 at hyes
   generalize cf w=res at*
   have hlen:=hs.f.len
   generalize(w.tasks.any fun t=> !uJ w t)=p1 at*
   generalize(w.builds.any fun t=> !gS w t)=p2 at*
   generalize hN:qH w=N at*
   clear hN
   obtain⟨⟨l,m⟩,st,⟨d1,d2,d3,d4⟩,⟨a,b,c,d⟩,ta,bu,cs⟩:=w
   simp only at h100 h144 h145 q1 q2 hst hcf htk hbk hnG hlen hyes hnode
   have n1:(l.map bZ).length=l.length:=List.length_map ..
   have n2:(st.map bG).length=st.length:=List.length_map ..
   have n3:(a.map cI).length=a.length:=List.length_map ..
   have e1:(st.length:Int)=(l.length:Int):=by omega
   have e2:(a.length:Int)=(l.length:Int):=by omega
   refine ah.af (rvs:=[.tmp 2]) G aa Tryz.func75 rfl Tryz.ntmps75 rfl rfl ?_;with_reducible refine wD ?_
   (have fct:=And.intro n1 (And.intro n2 (And.intro n3 (And.intro (eq_true e1) ((eq_true e2)))));(repeat' (first
  |refine gF ?_|refine aE ?_ ?_
  | ((first
   |((with_reducible refine kQ 143 ?_);refine cL h143 Ph ?_)
   |((with_reducible refine kQ 100 ?_);refine cL h100 mT ?_)
   |((with_reducible refine kQ 144 ?_);refine cL h144 IC ?_)
   |((with_reducible refine kQ 145 ?_);refine cL h145 As ?_))<;>with_reducible refine wK ?_)
  | apply trivial));all_goals clear fct)
   refine aU.use G aa (fun(k:Nat)=>[(1,.ptr 10 0 0),(55,iP a),(56,aq a.length),(57,aq k)]) (fun _=>[(10,mW ⟨⟨l,m⟩,st,⟨d1,d2,d3,d4⟩,⟨a,b,c,d⟩,ta,bu,cs⟩)])
    (fun k=>k≤a.length∧∀j:Nat,j<k→N j=true) (fun k=>a.length-k) 0 ⟨Nat.zero_le _,fun j h=>by omega⟩ ?_ ?_
   ·(refine fK ?_;(with_reducible repeat' (first|exact trivial|(show _∧_;refine aK ?_ ?_)));(all_goals try rfl))
    all_goals first|(show(a.length:Int)=_;rw[n3])
   rintro k ⟨hk,hok⟩
   with_reducible refine wK ?_
   refine bq.mk (fun h1=>?_) (fun h1=>?_)<;>(try simp only[aF] at h1)<;>with_reducible refine wK ?_
   ·have hk':k<a.length:=by simp only[decide_eq_true_eq] at h1;omega
    obtain⟨x,hx⟩:∃x,l[k]? =some x:=⟨_,List.getElem?_eq_getElem (by omega)⟩
    obtain⟨s,hsx⟩:∃x,st[k]? =some x:=⟨_,List.getElem?_eq_getElem (by omega)⟩
    obtain⟨y,hy⟩:∃x,a[k]? =some x:=⟨_,List.getElem?_eq_getElem hk'⟩
    have hstk:=hst k x s hx hsx
    have hcfk:=hcf y (List.mem_of_getElem? hy)
    have hnk:=hnG k x s y hx hsx hy
    generalize gy ⟨⟨l,m⟩,st,⟨d1,d2,d3,d4⟩,⟨a,b,c,d⟩,ta,bu,cs⟩ x s=v1 at*
    generalize(y.any fun t=> !lq ⟨⟨l,m⟩,st,⟨d1,d2,d3,d4⟩,⟨a,b,c,d⟩,ta,bu,cs⟩ t)=v2 at*
    have hbadk:=fun h=>hnode k hk' (hnk.trans h)
    clear h1
    cases v1<;>cases v2
    case true.false=>
     repeat' (first
  |refine gK ?_|refine aE ?_ ?_
  | ((first
   |((with_reducible refine kQ 146 ?_);refine cL hstk O2 ?_)
   |((with_reducible show ay _ _ _ _ _);refine ay.mk k (cF y) rfl (cz hy) ?_)
   | ((with_reducible refine kQ 147 ?_);refine aj.lit [10] hcfk Py
       ⟨rfl,⟨rfl,trivial,⟨_,_,_,_,_,rfl,rfl,rfl,rfl,rfl,⟨rfl,rfl,rfl,rfl,rfl,rfl,rfl,rfl,rfl,rfl,rfl,rfl,rfl,rfl,trivial⟩⟩,trivial⟩,trivial⟩
       rfl rfl ?_))<;>with_reducible refine wK ?_)
  | apply trivial)
     refine aL.mk (k+1) ⟨by omega,fun j hj=>?_⟩ (by omega) ?_
     ·rcases Nat.lt_or_ge j k with h6|h6
      ·exact hok j h6
      ·have:j=k:=by omega
       subst this
       exact hnk
     (refine fK ?_;(with_reducible repeat' (first|exact trivial|(show _∧_;refine aK ?_ ?_)));(all_goals try rfl))
     all_goals first|(simp;done)
    all_goals
     have hr:=hbadk rfl
     repeat' (first
  |refine gK ?_|refine aE ?_ ?_
  | ((first
   |((with_reducible refine kQ 146 ?_);refine cL hstk O2 ?_)
   |((with_reducible show ay _ _ _ _ _);refine ay.mk k (cF y) rfl (cz hy) ?_)
   | ((with_reducible refine kQ 147 ?_);refine aj.lit [10] hcfk Py
       ⟨rfl,⟨rfl,trivial,⟨_,_,_,_,_,rfl,rfl,rfl,rfl,rfl,⟨rfl,rfl,rfl,rfl,rfl,rfl,rfl,rfl,rfl,rfl,rfl,rfl,rfl,rfl,trivial⟩⟩,trivial⟩,trivial⟩
       rfl rfl ?_))<;>with_reducible refine wK ?_)
  | apply trivial)
     all_goals first|exact hr|exact hr.symm
   ·have hkl:k=a.length:=by simp only[decide_eq_false_iff_not] at h1;omega
    have hr:=hyes fun j hj=>hok j (by omega)
    clear h1
    rw[hr]
    cases p1<;>cases p2
    all_goals
     repeat' (first
  |refine gK ?_|refine aE ?_ ?_
  | ((first
   | ((with_reducible refine kQ 149 ?_);refine aj.lit [10] htk Rc
       ⟨rfl,⟨rfl,trivial,⟨_,_,_,_,_,rfl,rfl,rfl,rfl,rfl,⟨rfl,rfl,rfl,rfl,rfl,rfl,rfl,rfl,rfl,rfl,rfl,rfl,rfl,rfl,trivial⟩⟩,trivial⟩,trivial⟩
       rfl rfl ?_)
   | ((with_reducible refine kQ 152 ?_);refine aj.lit [10] hbk Ro
       ⟨rfl,⟨rfl,trivial,⟨_,_,_,_,_,rfl,rfl,rfl,rfl,rfl,⟨rfl,rfl,rfl,rfl,rfl,rfl,rfl,rfl,rfl,rfl,rfl,rfl,rfl,rfl,trivial⟩⟩,trivial⟩,trivial⟩
       rfl rfl ?_))<;>with_reducible refine wK ?_)
  |apply trivial)
     all_goals first|rfl|(simp;done)
theorem cr (w:ai)(hs:bh w):ah Tryz.prog 19 [] [aT w] [] (aA (cf w)):=by
 have h:=rL w hs
 generalize cf w=g at*
 obtain⟨⟨l,m⟩,st,⟨d1,d2,d3,d4⟩,⟨a,b,c,d⟩,ta,bu,cs⟩:=w
 refine ah.af (rvs:=[.tmp 2]) G aa Tryz.func19 rfl Tryz.ntmps19 rfl rfl ?_;with_reducible refine wD ?_
 repeat' (first
  |refine gK ?_|refine aE ?_ ?_
  |(((with_reducible refine kQ 75 ?_);refine cL h M1 ?_)<;>with_reducible refine wK ?_)
  |apply trivial)
 all_goals rfl

theorem aP.cls {w:ai}(R:aP w):w.classes.length≤12∧(∀c∈w.classes,iN c=true)∧∀x∈w.desk.defs,x.cls< (w.classes.length:Int):=by
 have h:=R.cl
 unfold k8 at h
 simp only[Bool.and_eq_true,decide_eq_true_eq,Bool.not_eq_true',List.any_eq_false,decide_eq_true_eq] at h
 refine⟨h.1.1,fun c hc=>?_,fun x hx=>?_⟩
 ·have:=h.1.2 c hc
  simpa using this
 ·have:=h.2 x hx
  omega
@[reducible] def KW (w : ai) (t : AV) : AV := .agg [fk w.f.nodes, aq w.f.most, fc w.states, nY w.desk.defs, oK w.desk.waits, aq w.desk.next, aA w.desk.busy, iP w.line.todos, nC w.line.stack, bY w.line.back, aA w.line.busy, t, gL w.builds, bJ w.classes]
theorem BL (x:au):ah Tryz.prog 89 [] [aS x] [] (aX (iy x)):=by
 have h:=Kr x.name x.is
 unfold iy
 obtain⟨y0,y1,y2,y3,y4,y5,y6,y7,y8,y9⟩:=x
 simp only at h ⊢
 by_cases e:y0=1
 ·rw[if_pos e]
  refine ah.af (rvs:=[.cell 2 75]) G aa Tryz.func89 rfl Tryz.ntmps89 rfl rfl ?_;with_reducible refine wD ?_
  (have fct:=e;(repeat' (first
  |refine gF ?_|refine aE ?_ ?_
  |(((with_reducible refine kQ 41 ?_);refine cL h M5 ?_)<;>with_reducible refine wK ?_)
  |apply trivial));all_goals clear fct)
 ·rw[if_neg e]
  refine ah.af (rvs:=[.cell 2 75]) G aa Tryz.func89 rfl Tryz.ntmps89 rfl rfl ?_;with_reducible refine wD ?_
  (have fct:=(eq_false e);(repeat' (first
  |refine gF ?_|refine aE ?_ ?_
  |apply trivial));all_goals clear fct)
theorem HF (w:ai)(x:bB):ah Tryz.prog 94 [] [kE x,.fptr (aT w) 0] [] (aA (!dW w x)):=by
 have h1:=uh w x.node
 have h2:=zB w x.todo
 unfold dW
 obtain⟨n,x0,x1,x2,x3,x4,x5,x6,x7,x8,x9⟩:=x
 simp only at h1 h2 ⊢
 generalize ak w.f.nodes n=g1 at*
 generalize lq w ⟨x0,x1,x2,x3,x4,x5,x6,x7,x8,x9⟩=g2 at*
 obtain⟨⟨l,m⟩,st,⟨d1,d2,d3,d4⟩,⟨a,b,c,d⟩,ta,bu,cs⟩:=w
 cases g1<;>cases g2
 all_goals
  refine ah.af (rvs:=[.tmp 3]) G aa Tryz.func94 rfl Tryz.ntmps94 rfl rfl ?_;with_reducible refine wD ?_
  repeat' (first
  |refine gK ?_|refine aE ?_ ?_
  | ((first
   |((with_reducible refine kQ 95 ?_);refine cL h1 Qk ?_)
   |((with_reducible refine kQ 96 ?_);refine cL h2 RY ?_))<;>with_reducible refine wK ?_)
  |apply trivial)
  all_goals first|rfl
theorem Iw {w:ai}{due:List bB}(R:aP w)(h:∀d∈due,dW w d=true)(k:Nat):aP (bN w (due.take k)):=jj _ w R fun d hd=>h d (List.mem_of_mem_take hd)
theorem Kn {w:ai}{due:List bB}(R:aP w)(h:∀d∈due,dW w d=true){k:Nat}{x:bB}(hx:due[k]? =some x):(vo (bN w (due.take k)).line&&dG (bN w (due.take k)).line x.node)=true:=by
 have R2:=Iw R h k
 rw[R2.ln,vE R2,Bool.true_and,nT]
 have:=h x (List.mem_of_getElem? hx)
 unfold dW at this
 rw[Bool.and_eq_true] at this
 exact this.1
theorem qa (w:ai)(due:List bB):(bN w due).tasks.length≤w.tasks.length+1:=by
 rw[qb,List.length_append]
 split<;>simp
theorem oG (w:ai)(hs:bh w)(due:List bB)(hd:due.length≤5000)(R:aP w)(hdue:∀d∈due,dW w d=true):ah Tryz.prog 98 [mW w] [.ptr 0 0 0,jM due] [mW (bN w due)] (.tup []):=by
 have hcl:=Ev w.tasks (by have:=hs.ta;omega)
 obtain⟨L,hL⟩:∃L:Nat→bK,L=fun k=>(bN w (due.take k)).line:=⟨_,rfl⟩
 obtain⟨T,hT⟩:∃T:Nat→List gw,T=fun k=>(bN w (due.take k)).tasks:=⟨_,rfl⟩
 have hadd:∀ (k:Nat) x,due[k]? =some x→ah Tryz.prog 165 [] [gU (L k),aq x.node,iD x.todo] [] (.tup [gU (L (k+1)),aA (fV (L k)),aq 0]):=fun k x hx=>by
  have hk:=(List.getElem?_eq_some_iff.1 hx).1
  have:=JQ (L k) (by rw[hL];exact(xT _ w 90000 hs.l).mono (by rw[List.length_take];omega)) x.node x.todo
  rw[CK (by rw[hL];exact Kn R hdue hx)] at this
  have e:L (k+1)=dz (L k) x.node x.todo:=by rw[hL];show(bN w (due.take (k+1))).line=_;rw[Cz hx];rfl
  rw[e];exact this
 have hTs:∀ (k:Nat) x,due[k]? =some x→T (k+1)=if fV (L k)=true then T k++ [mY] else T k:=fun k x hx=>by
  rw[hT,hL];show(bN w (due.take (k+1))).tasks=_;rw[Cz hx];rfl
 have hTl:∀k,(T k).length≤90001:=fun k=>by
  rw[hT];have:=qa w (due.take k);have:=hs.ta;show(bN w (due.take k)).tasks.length≤_;omega
 have hL0:L 0=w.line:=by rw[hL];rfl
 have hT0:T 0=w.tasks:=by rw[hT];rfl
 have hend:bN w due={w with line:=L due.length,tasks:=T due.length}:=by
  rw[hL,hT]
  simp only[List.take_length]
  have e1:=nT due w
  have e2:=gI due w
  have e3:=gH due w
  have e4:=gE due w
  have e5:=dF due w
  generalize bN w due=v at*
  obtain⟨v1,v2,v3,v4,v5,v6,v7⟩:=v
  simp only at e1 e2 e3 e4 e5
  subst e1;subst e2;subst e3;subst e4;subst e5;rfl
 rw[hend]
 clear hend hL hT
 have hdm:(due.map gV).length=due.length:=List.length_map ..
 obtain⟨⟨l,m⟩,st,⟨d1,d2,d3,d4⟩,⟨a,b,c,d⟩,ta,bu,cs⟩:=w
 simp only at hcl hL0 hT0 ⊢
 refine ah.af (rvs:=[]) G aa Tryz.func98 rfl Tryz.ntmps98 rfl rfl ?_;with_reducible refine wD ?_
 repeat' (first
  |refine gK ?_|refine aE ?_ ?_
  |(((with_reducible refine kQ 164 ?_);refine aj.new 151 [] hcl QM ⟨rfl,trivial⟩ rfl rfl rfl (Ef _) rfl ?_)<;>with_reducible refine wK ?_)
  |apply trivial)
 refine aU.use G aa (fun(k:Nat)=>[(0,.ptr 0 0 0),(19,jM due),(20,aq due.length),(21,aq k)])
  (fun k=>[(0,.live 14 [KW ⟨⟨l,m⟩,st,⟨d1,d2,d3,d4⟩,L k,ta,bu,cs⟩ (.own 151 0 (T k).length)] false),(151,EG (T k))])
  (fun k=>k≤due.length) (fun k=>due.length-k) 0 (Nat.zero_le _) ?_ ?_
 ·rw[hL0,hT0]
  (refine fK ?_;(with_reducible repeat' (first|exact trivial|(show _∧_;refine aK ?_ ?_)));(all_goals try rfl))
  all_goals first
   |(show(due.length:Int)=_;rw[hdm])
   |exact⟨.refl (dX _),dX _⟩
 intro k hk
 with_reducible refine wK ?_
 refine bq.mk (fun h1=>?_) (fun h1=>?_)<;>(try simp only[aF] at h1)<;>with_reducible refine wK ?_
 ·have hk':k<due.length:=by simp only[decide_eq_true_eq] at h1;omega
  obtain⟨x,hx⟩:∃x,due[k]? =some x:=⟨_,List.getElem?_eq_getElem hk'⟩
  have hadd:=hadd k x hx
  have hTs:=hTs k x hx
  have hTl:=hTl k
  clear h1
  obtain⟨n,x0,x1,x2,x3,x4,x5,x6,x7,x8,x9⟩:=x
  generalize hLn:L (k+1)=L2 at*
  generalize hTn:T (k+1)=T2 at*
  simp only at hadd
  cases ht:fV (L k) with
  | false=>
    rw[ht] at hadd hTs
    rw[if_neg (by simp)] at hTs
    repeat' (first
  |refine gK ?_|refine aE ?_ ?_
  | ((first
   |((with_reducible show ay _ _ _ _ _);refine ay.mk k (kE ⟨n,⟨x0,x1,x2,x3,x4,x5,x6,x7,x8,x9⟩⟩) rfl (oU hx) ?_)
   |((with_reducible refine kQ 165 ?_);refine cV hadd OZ ?_))<;>with_reducible refine wK ?_)
  | apply trivial)
    refine aL.mk (k+1) (by omega) (by omega) ?_
    rw[hLn,hTn,hTs]
    (refine fK ?_;(with_reducible repeat' (first|exact trivial|(show _∧_;refine aK ?_ ?_)));(all_goals try rfl))
    all_goals first
     |exact⟨.refl (dX _),dX _⟩
     |(simp;done)
  | true=>
    rw[ht] at hadd hTs
    rw[if_pos rfl] at hTs
    have htm:((T k).map gx).length=(T k).length:=List.length_map ..
    have e3:(T k).map gx++ [qB mY]=T2.map gx:=by rw[hTs,List.map_append];rfl
    have e4:T2.length=(T k).length+1:=by rw[hTs];simp
    repeat' (first
  |refine gK ?_|refine aE ?_ ?_
  | ((first
   |((with_reducible show ay _ _ _ _ _);refine ay.mk k (kE ⟨n,⟨x0,x1,x2,x3,x4,x5,x6,x7,x8,x9⟩⟩) rfl (oU hx) ?_)
   |((with_reducible refine kQ 165 ?_);refine cV hadd OZ ?_)
   |((with_reducible show dI _ _ _ _ _ _ _ _ _ _);refine dI.mk ((T k).map gx) [qB mY] ⟨rfl,htm.symm,rfl⟩ ⟨rfl,rfl,rfl⟩ rfl (by simp;omega) (by simp;omega) ?_))<;>with_reducible refine wK ?_)
  | apply trivial)
    refine aL.mk (k+1) (by omega) (by omega) ?_
    rw[hLn,hTn,e4,e3]
    (refine fK ?_;(with_reducible repeat' (first|exact trivial|(show _∧_;refine aK ?_ ?_)));(all_goals try rfl))
    all_goals first
     |exact⟨.refl (dX _),dX _⟩
     |(rw[List.length_map,e4];done)
     |(simp;done)
 ·have hjl:k=due.length:=by simp only[decide_eq_false_iff_not] at h1;omega
  subst hjl
  clear h1
  repeat' (first
  |refine gK ?_|refine aE ?_ ?_
  |apply trivial)
  all_goals first
   |exact G6 rfl rfl rfl rfl
theorem iq {w:ai}{due:List bB}(h:cW w due=false):bV w due=(w,1):=by unfold bV;rw[h];rfl
theorem dm {w:ai}{due:List bB}(h:cW w due=true):bV w due=(bN w due,0):=by unfold bV;rw[h];rfl
theorem nI (w:ai)(hs:bh w)(due:List bB)(hd:due.length≤5000):ah Tryz.prog 31 [] [aT w,jM due] [] (.tup [aT (bV w due).1,aq (bV w due).2]):=by
 have h75:=rL w hs
 have hnr:aN [AV.fptr (aT w) 0]=true:=rfl
 have hcf:=KG 94 Sq [.fptr (aT w) 0] hnr (fun x=> !dW w x) due (by omega) (fun x _=>HF w x)
 have hen:=fun R h=>oG w hs due hd R h
 cases e1:cf w with
 | false=>
   rw[e1] at h75
   rw[iq (by unfold cW;rw[e1];rfl)]
   clear hen hcf
   obtain⟨⟨l,m⟩,st,⟨d1,d2,d3,d4⟩,⟨a,b,c,d⟩,ta,bu,cs⟩:=w
   refine ah.af (rvs:=[.cell 4 39,.tmp 5]) G aa Tryz.func31 rfl Tryz.ntmps31 rfl rfl ?_;with_reducible refine wD ?_
   repeat' (first
  |refine gK ?_|refine aE ?_ ?_
  |(((with_reducible refine kQ 75 ?_);refine cL h75 M1 ?_)<;>with_reducible refine wK ?_)
  |apply trivial)
 | true=>
   rw[e1] at h75
   cases e2:(due.any fun x=> !dW w x) with
   | true=>
     rw[e2] at hcf
     rw[iq (by unfold cW;rw[e2,e1];rfl)]
     clear hen
     obtain⟨⟨l,m⟩,st,⟨d1,d2,d3,d4⟩,⟨a,b,c,d⟩,ta,bu,cs⟩:=w
     refine ah.af (rvs:=[.cell 4 39,.tmp 5]) G aa Tryz.func31 rfl Tryz.ntmps31 rfl rfl ?_;with_reducible refine wD ?_
     repeat' (first
  |refine gK ?_|refine aE ?_ ?_
  | ((first
   |((with_reducible refine kQ 75 ?_);refine cL h75 M1 ?_)
   |((with_reducible refine kQ 97 ?_);refine aj.lit [60] hcf RW ⟨rfl,⟨rfl,trivial,⟨_,_,_,_,_,rfl,rfl,rfl,rfl,rfl,⟨rfl,rfl,rfl,rfl,rfl,rfl,rfl,rfl,rfl,rfl,rfl,rfl,rfl,rfl,trivial⟩⟩,trivial⟩,trivial⟩ rfl rfl ?_))<;>with_reducible refine wK ?_)
  | apply trivial)
   | false=>
     rw[e2] at hcf
     have ok:cW w due=true:=by unfold cW;rw[e2,e1];rfl
     rw[dm ok]
     have hen:=hen (dB.1 ok).1 (dB.1 ok).2
     clear ok e1 e2
     generalize bN w due=v at*
     obtain⟨⟨l,m⟩,st,⟨d1,d2,d3,d4⟩,⟨a,b,c,d⟩,ta,bu,cs⟩:=w
     obtain⟨⟨l',m'⟩,st',⟨d1',d2',d3',d4'⟩,⟨a',b',c',d'⟩,ta',bu',cs'⟩:=v
     refine ah.af (rvs:=[.cell 4 39,.tmp 5]) G aa Tryz.func31 rfl Tryz.ntmps31 rfl rfl ?_;with_reducible refine wD ?_
     repeat' (first
  |refine gK ?_|refine aE ?_ ?_
  | ((first
   |((with_reducible refine kQ 75 ?_);refine cL h75 M1 ?_)
   |((with_reducible refine kQ 97 ?_);refine aj.lit [60] hcf RW ⟨rfl,⟨rfl,trivial,⟨_,_,_,_,_,rfl,rfl,rfl,rfl,rfl,⟨rfl,rfl,rfl,rfl,rfl,rfl,rfl,rfl,rfl,rfl,rfl,rfl,rfl,rfl,trivial⟩⟩,trivial⟩,trivial⟩ rfl rfl ?_)
   |((with_reducible refine kQ 98 ?_);refine aj.gd (news:=[mW ⟨⟨l',m'⟩,st',⟨d1',d2',d3',d4'⟩,⟨a',b',c',d'⟩,ta',bu',cs'⟩]) [60] [] hen QG ⟨⟨rfl,rfl⟩,rfl,trivial⟩ ⟨⟨rfl,.inr ⟨⟨⟨rfl,rfl,rfl,rfl,rfl,rfl,rfl,rfl,rfl,rfl,rfl,rfl,rfl,rfl,trivial⟩,trivial⟩,rfl⟩⟩,trivial⟩ rfl ⟨⟨rfl,rfl⟩,rfl⟩ rfl ⟨⟨rfl,.inr ⟨rfl,rfl,rfl⟩⟩,trivial⟩ rfl rfl ?_))<;>with_reducible refine wK ?_)
  |apply trivial)
def yS (l:bK)(n:Int):bK×Int:=if(vo l&&dG l n)=true then(jJ l n,0) else(l,1)
theorem BB {l:bK}{n:Int}(h:(vo l&&dG l n)=false):yS l n=(l,1):=by unfold yS;rw[h];rfl
theorem zj {l:bK}{n:Int}(h:(vo l&&dG l n)=true):yS l n=(jJ l n,0):=by unfold yS;rw[h];rfl
theorem GD (l:bK)(hs:kV 98000 l)(n:Int):ah Tryz.prog 191 [] [gU l,aq n] [] (.tup [gU (yS l n).1,aq (yS l n).2]):=by
 have hR:=qL l (hs.mono (by omega))
 have hI:=AI l n
 have hO:=wJ l (by have:=hs.todos;omega) (by have:=hs.stack;omega) (by have:=hs.back;omega)
 cases e1:vo l with
 | false=>
   rw[e1] at hR
   rw[BB (by rw[e1];rfl)]
   obtain⟨a,b,c,d⟩:=l
   refine ah.af (rvs:=[.cell 4 34,.tmp 5]) G aa Tryz.func191 rfl Tryz.ntmps191 rfl rfl ?_;with_reducible refine wD ?_
   repeat' (first
  |refine gK ?_|refine aE ?_ ?_
  |(((with_reducible refine kQ 145 ?_);refine cL hR As ?_)<;>with_reducible refine wK ?_)
  |apply trivial)
 | true=>
   rw[e1] at hR
   cases e2:dG l n with
   | false=>
     rw[e2] at hI
     rw[BB (by rw[e1,e2];rfl)]
     obtain⟨a,b,c,d⟩:=l
     refine ah.af (rvs:=[.cell 4 34,.tmp 5]) G aa Tryz.func191 rfl Tryz.ntmps191 rfl rfl ?_;with_reducible refine wD ?_
     repeat' (first
  |refine gK ?_|refine aE ?_ ?_
  | ((first
   |((with_reducible refine kQ 145 ?_);refine cL hR As ?_)
   |((with_reducible refine kQ 210 ?_);refine cL hI D7 ?_))<;>with_reducible refine wK ?_)
  | apply trivial)
   | true=>
     rw[e2] at hI
     rw[zj (by rw[e1,e2];rfl)]
     obtain⟨k,y,rfl,hk,hy,htd⟩:=wh e2
     unfold jJ
     rw[Int.toNat_natCast]
     obtain⟨a,b,c,d⟩:=l
     simp only at hk hy hO ⊢
     have ham:(a.map cI).length=a.length:=List.length_map ..
     have e3:kS (MF [] (fun _=>true) [] 3) [] []:=⟨rfl,fun i x y h=>by simp at h⟩
     refine ah.af (rvs:=[.cell 4 34,.tmp 5]) G aa Tryz.func191 rfl Tryz.ntmps191 rfl rfl ?_;with_reducible refine wD ?_
     repeat' (first
  |refine gK ?_|refine aE ?_ ?_
  | ((first
   |((with_reducible refine kQ 145 ?_);refine cL hR As ?_)
   |((with_reducible refine kQ 210 ?_);refine cL hI D7 ?_)
   |((with_reducible refine kQ 159 ?_);refine aj.gd (news:=[kj a,nG b,gX c]) [171,172,173] [] hO LN ⟨⟨rfl,rfl,rfl,rfl,trivial⟩,trivial⟩ trivial rfl ⟨⟨rfl,rfl⟩,rfl⟩ rfl AF rfl rfl ?_)
   |((with_reducible show nZ _ _ _ _ _);refine nZ.mk k rfl hk ?_)
   |((with_reducible show cB _ _ _ _ _);refine cB.mk (cF y) (by first|exact cz hy|(rw[Nat.zero_add];exact cz hy)) ?_))<;>with_reducible refine wK ?_)
  |apply trivial)
     all_goals first
      |exact JR cI (y:=[]) rfl rfl (by rw[Nat.zero_add]) hk rfl ct (show DT _ from .inr (.inr ⟨10,rfl⟩))
      |exact pO rfl rfl rfl rfl
      |exact eG rfl rfl rfl rfl
@[reducible] def zW : AV := .agg [.lit (.slice none 0 0), aq 0, .lit (.slice none 0 0), .lit (.slice none 0 0), .lit (.slice none 0 0), aq 0, aA false, .lit (.slice none 0 0), .lit (.slice none 0 0), .lit (.slice none 0 0), aA false, .lit (.slice none 0 0), .lit (.slice none 0 0), .lit (.slice none 0 0)]
@[reducible] def mZ : MS := .live 14 [zW] false
theorem Bo (w:ai)(h60:w.f.nodes.length≤1000)(f:ForM):ah Tryz.prog 101 [] [aT w,cJ f] [] (aA (dQ w f)):=by
 have hno:=fun h=>(Bool.eq_false_iff.2 (mt (eH (w:=w) (f:=f)).1 h))
 have hyes:=(eH (w:=w) (f:=f)).2
 obtain⟨r,hr⟩:∃r,dQ w f=r:=⟨_,rfl⟩
 rw[hr] at hno hyes ⊢
 clear hr
 obtain⟨⟨l,m⟩,st,⟨d1,d2,d3,d4⟩,⟨a,b,c,d⟩,ta,bu,cs⟩:=w
 obtain⟨l',m'⟩:=f
 simp only at h60 hno hyes
 have n1:(l.map bZ).length=l.length:=List.length_map ..
 have n2:(l'.map bZ).length=l'.length:=List.length_map ..
 refine ah.af (rvs:=[.tmp 4]) G aa Tryz.func101 rfl Tryz.ntmps101 rfl rfl ?_;with_reducible refine wD ?_
 by_cases e2:m'=m
 case neg=>
  rw[hno (fun q=>e2 q.1)]
  (have fct:=(eq_false e2);(repeat' (first
  |refine gF ?_|refine aE ?_ ?_
  |apply trivial));all_goals clear fct)
 subst e2
 by_cases e1:(l'.length:Int)< (l.length:Int)
 ·rw[hno (by omega)]
  (have fct:=And.intro n1 (And.intro n2 (e1));(repeat' (first
  |refine gF ?_|refine aE ?_ ?_
  |apply trivial));all_goals clear fct)
 (have fct:=And.intro n1 (And.intro n2 ((eq_false e1)));(repeat' (first
  |refine gF ?_|refine aE ?_ ?_
  |apply trivial));all_goals clear fct)
 refine aU.use G aa (fun(k:Nat)=>[(2,.ptr 20 0 0),(3,.ptr 30 0 0),(28,fk l),(29,aq l.length),(30,aq k)]) (fun _=>[(20,mW ⟨⟨l,m'⟩,st,⟨d1,d2,d3,d4⟩,⟨a,b,c,d⟩,ta,bu,cs⟩),(30,.live 2 [cJ ⟨l',m'⟩] false)])
  (fun k=>k≤l.length∧∀ (j:Nat) x y,j<k→l[j]? =some x→l'[j]? =some y→y.kind=x.kind) (fun k=>l.length-k) 0 ⟨Nat.zero_le _,fun j x y h=>by omega⟩ ?_ ?_
 ·(refine fK ?_;(with_reducible repeat' (first|exact trivial|(show _∧_;refine aK ?_ ?_)));(all_goals try rfl))
  all_goals first|(show(l.length:Int)=_;rw[n1])
 rintro k ⟨hk,hok⟩
 with_reducible refine wK ?_
 refine bq.mk (fun h1=>?_) (fun h1=>?_)<;>(try simp only[aF] at h1)<;>with_reducible refine wK ?_
 ·have hk':k<l.length:=by simp only[decide_eq_true_eq] at h1;omega
  obtain⟨x,hx⟩:∃x,l[k]? =some x:=⟨_,List.getElem?_eq_getElem hk'⟩
  obtain⟨y,hy⟩:∃x,l'[k]? =some x:=⟨_,List.getElem?_eq_getElem (by omega)⟩
  clear h1
  by_cases e:y.kind=x.kind
  ·have hnx:∀ (j:Nat) x y,j<k+1→l[j]? =some x→l'[j]? =some y→y.kind=x.kind:=fun j x' y' hj hx' hy'=>by
    rcases Nat.lt_or_ge j k with h6|h6
    ·exact hok j x' y' h6 hx' hy'
    ·have:j=k:=by omega
     subst this
     rw[hx] at hx';rw[hy] at hy';cases hx';cases hy';exact e
   obtain⟨x0,x1,x2,x3,x4,x5,x6,x7,x8,x9⟩:=x
   obtain⟨y0,y1,y2,y3,y4,y5,y6,y7,y8,y9⟩:=y
   simp only at e
   subst e
   repeat' (first
  |refine gK ?_|refine aE ?_ ?_
  |(((with_reducible show ay _ _ _ _ _);first|refine ay.mk k (aS ⟨y0,x1,x2,x3,x4,x5,x6,x7,x8,x9⟩) rfl (aG hx) ?_|refine ay.mk k (aS ⟨y0,y1,y2,y3,y4,y5,y6,y7,y8,y9⟩) rfl (aG hy) ?_)<;>with_reducible refine wK ?_)
  | apply trivial)
   refine aL.mk (k+1) ⟨by omega,hnx⟩ (by omega) ?_
   (refine fK ?_;(with_reducible repeat' (first|exact trivial|(show _∧_;refine aK ?_ ?_)));(all_goals try rfl))
   all_goals first|(simp;done)
  ·rw[hno (fun q=>e (q.2.2 k x y hx hy))]
   obtain⟨x0,x1,x2,x3,x4,x5,x6,x7,x8,x9⟩:=x
   obtain⟨y0,y1,y2,y3,y4,y5,y6,y7,y8,y9⟩:=y
   simp only at e
   (have fct:=(eq_false e);(repeat' (first
  |refine gF ?_|refine aE ?_ ?_
  |(((with_reducible show ay _ _ _ _ _);first|refine ay.mk k (aS ⟨x0,x1,x2,x3,x4,x5,x6,x7,x8,x9⟩) rfl (aG hx) ?_|refine ay.mk k (aS ⟨y0,y1,y2,y3,y4,y5,y6,y7,y8,y9⟩) rfl (aG hy) ?_)<;>with_reducible refine wK ?_)
  |apply trivial));all_goals clear fct)
 ·have hkl:l.length≤k:=by simp only[decide_eq_false_iff_not] at h1;omega
  rw[hyes ⟨rfl,by omega,fun j x y hx hy=>hok j x y (by have:=(List.getElem?_eq_some_iff.1 hx).1;omega) hx hy⟩]
  clear h1
  repeat' (first
  |refine gK ?_|refine aE ?_ ?_
  |apply trivial)
@[reducible] def L8 (w : ai) (t : AV) : AV := .agg [fk w.f.nodes, aq w.f.most, t, nY w.desk.defs, oK w.desk.waits, aq w.desk.next, aA w.desk.busy, iP w.line.todos, nC w.line.stack, bY w.line.back, aA w.line.busy, oL w.tasks, gL w.builds, bJ w.classes]
theorem xm {w:ai}{f:ForM}{ns:List dL}(h:jP w f=false):jG w f ns=(w,1):=by unfold jG;rw[h];rfl
theorem Gd {w:ai}{f:ForM}{ns:List dL}(h:jP w f=true):jG w f ns=(dR w f ns,0):=by unfold jG;rw[h];rfl
theorem Gc (w:ai)(f:ForM):fg w f 0=w:=by
 obtain⟨f0,st,d,⟨a,b,c,e⟩,ta,bu,cs⟩:=w
 unfold fg
 simp
theorem grow_step {w:ai}{f:ForM}{k:Nat}{y:au}(h:(f.nodes.drop w.f.nodes.length)[k]? =some y):(fg w f (k+1)).states=(fg w f k).states++ [iy y]∧(fg w f (k+1)).line=qP (fg w f k).line:=by
 unfold fg qP
 constructor
 ·show w.states++ ((f.nodes.drop w.f.nodes.length).take (k+1)).map iy=w.states++ ((f.nodes.drop w.f.nodes.length).take k).map iy++ [iy y]
  rw[ik h,List.map_append,List.append_assoc];rfl
 ·show bK.mk (w.line.todos++List.replicate (k+1) []) _ _ _=bK.mk (w.line.todos++List.replicate k []++ [[]]) _ _ _
  rw[List.replicate_succ',List.append_assoc]
theorem nV (w:ai)(f:ForM)(k:Nat):(fg w f k).states.length≤w.states.length+k:=by
 unfold fg
 show(w.states++ ((f.nodes.drop w.f.nodes.length).take k).map iy).length≤_
 rw[List.length_append,List.length_map,List.length_take];omega
theorem jZ {w:ai}(f:ForM){B k:Nat}(h:kV B w.line):kV (B+k) (fg w f k).line:=by
 unfold fg
 refine⟨?_,?_,Nat.le_trans h.3 (by omega),fun t ht=>Nat.le_trans (h.4 t ht) (by omega),Nat.le_trans h.5 (by omega)⟩
 ·show(w.line.todos++List.replicate k []).length≤_
  rw[List.length_append,List.length_replicate];have:=h.1;omega
 ·intro t ht
  have ht:t∈w.line.todos++List.replicate k []:=ht
  rcases List.mem_append.1 ht with e|e
  ·exact Nat.le_trans (h.2 t e) (by omega)
  ·rw[(List.mem_replicate.1 e).2];exact Nat.zero_le _
structure PZ (w:ai) (f:ForM) (ns:List dL):Prop where
 X:aP (bp w f)
 Y:aP {bN (bp w f) (ep f (bp w f).states w.desk w.classes ns) with states:=dS f (bp w f).states w.desk w.classes}
 d1:∀d∈ep f (bp w f).states w.desk w.classes ns,dW (bp w f) d=true
 d2:∀d∈ir f (bp w f).states w.desk w.classes,dW {bN (bp w f) (ep f (bp w f).states w.desk w.classes ns) with states:=dS f (bp w f).states w.desk w.classes} d=true
 l1:(ep f (bp w f).states w.desk w.classes ns).length≤ns.length
 l2:(ir f (bp w f).states w.desk w.classes).length≤2*f.nodes.length
theorem Nb {w:ai}{f:ForM}(R:aP w)(hf:aV f=true)(hw:dQ w f=true)(ns:List dL):PZ w f ns:=by
 have X:=pB R hf hw
 have hx:(bp w f).states.length=f.nodes.length:=X.sl
 have D1:=FU X ns
 have e:=jj _ (bp w f) X D1
 have hff:=nT (ep f (bp w f).states w.desk w.classes ns) (bp w f)
 have hss:=gI (ep f (bp w f).states w.desk w.classes ns) (bp w f)
 have hdd:=gH (ep f (bp w f).states w.desk w.classes ns) (bp w f)
 have hcc:=dF (ep f (bp w f).states w.desk w.classes ns) (bp w f)
 have e:aP (bN (bp w f) (ep f (bp w f).states w.desk w.classes ns)):=e
 refine⟨X,?_,D1,?_,Kc ..,?_⟩
 ·have t:=wq e
  have q:dS (bN (bp w f) (ep f (bp w f).states w.desk w.classes ns)).f (bN (bp w f) (ep f (bp w f).states w.desk w.classes ns)).states (bN (bp w f) (ep f (bp w f).states w.desk w.classes ns)).desk (bN (bp w f) (ep f (bp w f).states w.desk w.classes ns)).classes=dS f (bp w f).states w.desk w.classes:=by
   rw[hff,hss,hdd,hcc];rfl
  rw[q] at t
  exact t
 ·have t:=yT e
  rw[hff,hss,hdd,hcc] at t
  exact t
 ·unfold ir
  split
  ·rw[hx];exact A5 ..
  ·simp
theorem zE {w:ai}(hs:bh w)(hl:kV 80000 w.line){f:ForM}(hf:bS f.nodes)(R:aP w):bh (bp w f):=by
 have hst:=nV w f (f.nodes.length-w.f.nodes.length)
 have:=hf.len
 have h2:=R.sl
 have h3:=hs.f.len
 exact⟨hf,by show(fg w f _).states.length≤_;omega,hs.d,(jZ f hl).mono (by omega),hs.ta,hs.bu,hs.cl,hs.cs,hs.nm⟩
theorem kB {w:ai}{B:Nat}(hs:bh w)(hl:kV B w.line)(ht:w.tasks.length≤89000)(due:List bB)(hb:B+due.length≤90000):bh (bN w due):=by
 have hT:=qa w due
 refine⟨by rw[nT];exact hs.f,by rw[gI];exact hs.st,by rw[gH];exact hs.d,(xT due w B hl).mono hb,by omega,by rw[gE];exact hs.bu,by rw[dF];exact hs.cl,by rw[dF];exact hs.cs,by rw[dF];exact hs.nm⟩
theorem wQ (w:ai)(hs:bh w)(hl:kV 80000 w.line)(hta:w.tasks.length≤80000)(f:ForM)(hf:bS f.nodes)(ns:List dL)(hn:ns.length≤1000):ah Tryz.prog 33 [] [aT w,cJ f,AX ns] [] (.tup [aT (jG w f ns).1,aq (jG w f ns).2]):=by
 have h75:=rL w hs
 have h100:=j7 f hf
 have h101:=Bo w (by have:=hs.f.len;omega) f
 cases e1:cf w with
 | false=>
   rw[e1] at h75
   rw[xm (by unfold jP;rw[e1];rfl)]
   clear h100 h101
   obtain⟨⟨l,m⟩,st,⟨d1,d2,d3,d4⟩,⟨a,b,c,d⟩,ta,bu,cs⟩:=w
   obtain⟨l',m'⟩:=f
   refine ah.af (rvs:=[.cell 6 39,.tmp 7]) G aa Tryz.func33 rfl Tryz.ntmps33 rfl rfl ?_;with_reducible refine wD ?_
   repeat' (first
  |refine gK ?_|refine aE ?_ ?_
  | (((with_reducible refine kQ 75 ?_);refine aj.lit [] h75 M1 ⟨
   ⟨rfl,rfl,rfl,rfl,rfl,rfl,rfl,rfl,rfl,rfl,rfl,rfl,rfl,rfl,trivial⟩
   ,trivial⟩ rfl rfl ?_)<;>with_reducible refine wK ?_)
  |apply trivial)
 |true=>
 rw[e1] at h75
 cases e2:aV f with
 | false=>
   rw[e2] at h100
   rw[xm (by unfold jP;rw[e1,e2];rfl)]
   clear h101
   obtain⟨⟨l,m⟩,st,⟨d1,d2,d3,d4⟩,⟨a,b,c,d⟩,ta,bu,cs⟩:=w
   obtain⟨l',m'⟩:=f
   refine ah.af (rvs:=[.cell 6 39,.tmp 7]) G aa Tryz.func33 rfl Tryz.ntmps33 rfl rfl ?_;with_reducible refine wD ?_
   repeat' (first
  |refine gK ?_|refine aE ?_ ?_
  | ((first
   |((with_reducible refine kQ 75 ?_);refine aj.lit [] h75 M1 ⟨
   ⟨rfl,rfl,rfl,rfl,rfl,rfl,rfl,rfl,rfl,rfl,rfl,rfl,rfl,rfl,trivial⟩
   ,trivial⟩ rfl rfl ?_)
   |((with_reducible refine kQ 100 ?_);refine cL h100 mT ?_))<;>with_reducible refine wK ?_)
  |apply trivial)
 |true=>
 rw[e2] at h100
 cases e3:dQ w f with
 | false=>
   rw[e3] at h101
   rw[xm (by unfold jP;rw[e1,e2,e3];rfl)]
   obtain⟨⟨l,m⟩,st,⟨d1,d2,d3,d4⟩,⟨a,b,c,d⟩,ta,bu,cs⟩:=w
   obtain⟨l',m'⟩:=f
   refine ah.af (rvs:=[.cell 6 39,.tmp 7]) G aa Tryz.func33 rfl Tryz.ntmps33 rfl rfl ?_;with_reducible refine wD ?_
   repeat' (first
  |refine gK ?_|refine aE ?_ ?_
  | ((first
   |((with_reducible refine kQ 75 ?_);refine aj.lit [] h75 M1 ⟨
   ⟨rfl,rfl,rfl,rfl,rfl,rfl,rfl,rfl,rfl,rfl,rfl,rfl,rfl,rfl,trivial⟩
   ,trivial⟩ rfl rfl ?_)
   |((with_reducible refine kQ 100 ?_);refine cL h100 mT ?_)
   |((with_reducible refine kQ 101 ?_);refine aj.lit [] h101 Pt ⟨
   ⟨rfl,rfl,rfl,rfl,rfl,rfl,rfl,rfl,rfl,rfl,rfl,rfl,rfl,rfl,trivial⟩
   ,⟨rfl,rfl,trivial⟩,trivial⟩ rfl rfl ?_))<;>with_reducible refine wK ?_)
  |apply trivial)
 |true=>
 rw[e3] at h101
 rw[Gd (by unfold jP;rw[e1,e2,e3];rfl)]
 have R:=bH.1 e1
 have TF:=Nb R e2 e3 ns
 have hsl:=R.sl
 have hfl:=hf.len
 have hwl:=hs.f.len
 have hle:=(eH.1 e3).2.1
 have hX:=zE hs hl hf R
 have hXl:kV 80100 (bp w f).line:=(jZ f hl).mono (by omega)
 have hcl:=A0 w.states (by have:=hs.st;omega)
 have hbn:=fun x=>BL x
 have hgr:=fun k (hk:k≤f.nodes.length)=>yV (fg w f k).line ((jZ f hl).mono (by omega))
 have hst:=fun k y h=>grow_step (w:=w) (f:=f) (k:=k) (y:=y) h
 have h103:=Mi f hf (bp w f).states w.desk hs.d w.classes hs.cs ns (by omega)
 have h104:=MC f hf (bp w f).states hX.st w.desk hs.d w.classes (fun c hc=>(hs.cs c hc).hooks)
 have hE1:=oG (bp w f) hX (ep f (bp w f).states w.desk w.classes ns) (by have:=TF.l1;omega) TF.X TF.d1
 have hY0:bh (bN (bp w f) (ep f (bp w f).states w.desk w.classes ns)):=kB hX hXl (by show w.tasks.length≤_;omega) _ (by have:=TF.l1;omega)
 have hY:bh {bN (bp w f) (ep f (bp w f).states w.desk w.classes ns) with states:=dS f (bp w f).states w.desk w.classes}:=⟨hY0.f,by show(dS f (bp w f).states w.desk w.classes).length≤_;rw[wM];exact hX.st,hY0.d,hY0.l,hY0.ta,hY0.bu,hY0.cl,hY0.cs,hY0.nm⟩
 have hE2:=oG _ hY (ir f (bp w f).states w.desk w.classes) (by have:=TF.l2;omega) TF.Y TF.d2
 have hY1:bN (bp w f) (ep f (bp w f).states w.desk w.classes ns)=⟨f,(bp w f).states,w.desk,(bN (bp w f) (ep f (bp w f).states w.desk w.classes ns)).line,(bN (bp w f) (ep f (bp w f).states w.desk w.classes ns)).tasks,w.builds,w.classes⟩:=by
  have q1:=nT (ep f (bp w f).states w.desk w.classes ns) (bp w f)
  have q2:=gI (ep f (bp w f).states w.desk w.classes ns) (bp w f)
  have q3:=gH (ep f (bp w f).states w.desk w.classes ns) (bp w f)
  have q4:=gE (ep f (bp w f).states w.desk w.classes ns) (bp w f)
  have q5:=dF (ep f (bp w f).states w.desk w.classes ns) (bp w f)
  generalize bN (bp w f) (ep f (bp w f).states w.desk w.classes ns)=v at*
  obtain⟨v1,v2,v3,v4,v5,v6,v7⟩:=v
  simp only at q1 q2 q3 q4 q5
  subst q1;subst q2;subst q3;subst q4;subst q5;rfl
 have hT:dR w f ns=bN {bN (bp w f) (ep f (bp w f).states w.desk w.classes ns) with states:=dS f (bp w f).states w.desk w.classes} (ir f (bp w f).states w.desk w.classes):=rfl
 rw[hT]
 clear hT hY hY0 TF e1 e2 e3 hX hXl
 rw[hY1] at hE1 hE2 ⊢
 clear hY1
 simp only at hE2 ⊢
 generalize hLy:(bN (bp w f) (ep f (bp w f).states w.desk w.classes ns)).line=Ly at*
 generalize hTy:(bN (bp w f) (ep f (bp w f).states w.desk w.classes ns)).tasks=Ty at*
 clear hLy hTy
 generalize ep f (bp w f).states w.desk w.classes ns=D1 at*
 generalize dS f (bp w f).states w.desk w.classes=S2 at*
 generalize ir f (bp w f).states w.desk w.classes=D2 at*
 generalize hZ:bN ⟨f,S2,w.desk,Ly,Ty,w.builds,w.classes⟩ D2=Z at*
 clear hZ
 obtain⟨nf,hnf⟩:∃nf,nf=f.nodes.drop w.f.nodes.length:=⟨_,rfl⟩
 have hnl:nf.length=f.nodes.length-w.f.nodes.length:=by rw[hnf,List.length_drop]
 have hg0:=Gc w f
 have hge:(bp w f).states=(fg w f nf.length).states∧(bp w f).line=(fg w f nf.length).line∧bp w f=⟨f,(fg w f nf.length).states,w.desk,(fg w f nf.length).line,w.tasks,w.builds,w.classes⟩:=by rw[hnl];exact⟨rfl,rfl,rfl⟩
 rw[hge.1] at h103 h104
 rw[hge.2.2] at hE1
 have hslen:=fun k=>nV w f k
 rw[←hnf] at hst
 have hcut:nf.map bZ=((f.nodes.map bZ).drop w.f.nodes.length).take (f.nodes.length-w.f.nodes.length):=by rw[←List.map_drop,←hnf,List.take_of_length_le (by rw[List.length_map];omega)]
 have g1:∀k,(fg w f k).f=w.f∧(fg w f k).desk=w.desk∧(fg w f k).tasks=w.tasks:=fun k=>⟨rfl,rfl,rfl⟩
 have hgs:(fg w f 0).states=w.states∧(fg w f 0).line=w.line:=by rw[hg0];exact⟨rfl,rfl⟩
 clear hge hnf hg0 hs hl R hf g1
 generalize hGs:(fun k=>(fg w f k).states)=Gs at*
 generalize hGl:(fun k=>(fg w f k).line)=Gl at*
 have hGs':∀k,(fg w f k).states=Gs k:=fun k=>by rw[←hGs]
 have hGl':∀k,(fg w f k).line=Gl k:=fun k=>by rw[←hGl]
 simp only[hGs',hGl'] at hst hslen hgr h103 h104 hE1 hgs
 clear hGs hGl hGs' hGl'
 have hnm:(nf.map bZ).length=nf.length:=List.length_map ..
 obtain⟨⟨zl,zm⟩,zst,⟨zd1,zd2,zd3,zd4⟩,⟨za,zb,zc,zd⟩,zta,zbu,zcs⟩:=Z
 obtain⟨⟨l,m⟩,st,⟨d1,d2,d3,d4⟩,⟨a,b,c,d⟩,ta,bu,cs⟩:=w
 obtain⟨l',m'⟩:=f
 obtain⟨la,lb,lc,ld⟩:=Ly
 simp only at hcl h100 h101 h103 h104 hE1 hE2 hsl hfl hwl hle hnl hslen hcut hgs hta hgr ⊢
 have n1:(l.map bZ).length=l.length:=List.length_map ..
 have n2:(l'.map bZ).length=l'.length:=List.length_map ..
 refine ah.af (rvs:=[.cell 6 39,.tmp 7]) G aa Tryz.func33 rfl Tryz.ntmps33 rfl rfl ?_;with_reducible refine wD ?_
 repeat' (first
  |refine gK ?_|refine aE ?_ ?_
  | ((first
   |((with_reducible refine kQ 75 ?_);refine aj.lit [] h75 M1 ⟨
   ⟨rfl,rfl,rfl,rfl,rfl,rfl,rfl,rfl,rfl,rfl,rfl,rfl,rfl,rfl,trivial⟩
   ,trivial⟩ rfl rfl ?_)
   |((with_reducible refine kQ 100 ?_);refine cL h100 mT ?_)
   |((with_reducible refine kQ 101 ?_);refine aj.lit [] h101 Pt ⟨
   ⟨rfl,rfl,rfl,rfl,rfl,rfl,rfl,rfl,rfl,rfl,rfl,rfl,rfl,rfl,trivial⟩
   ,⟨rfl,rfl,trivial⟩,trivial⟩ rfl rfl ?_)
   |((with_reducible refine kQ 102 ?_);refine aj.new 321 [] hcl N6 ⟨rfl,trivial⟩ rfl rfl rfl (oZ _) rfl ?_)
   |((with_reducible show k9 _ _ _ _ _ _);refine k9.mk l.length (l'.length-l.length) (nf.map bZ) (by(try simp only[aF]);omega) (by(try simp only[aF]);omega) (by omega) hcut ?_))<;>with_reducible refine wK ?_)
  |apply trivial)
 refine aU.use G aa (fun(k:Nat)=>[(2,AX ns),(3,.ptr 30 0 0),(4,.ptr 40 0 0),(6,.ptr 60 0 0),(8,.ptr 80 0 0),(41,fk nf),(42,aq nf.length),(43,aq k)])
  (fun k=>[(30,mW ⟨⟨l,m⟩,st,⟨d1,d2,d3,d4⟩,⟨a,b,c,d⟩,ta,bu,cs⟩),(40,.live 2 [cJ ⟨l',m'⟩] false),(60,mZ),(80,.live 14 [L8 ⟨⟨l,m⟩,st,⟨d1,d2,d3,d4⟩,Gl k,ta,bu,cs⟩ (.own 321 0 (Gs k).length)] false),(321,bQ (Gs k))])
  (fun k=>k≤nf.length) (fun k=>nf.length-k) 0 (Nat.zero_le _) ?_ ?_
 ·rw[hgs.1,hgs.2]
  (refine fK ?_;(with_reducible repeat' (first|exact trivial|(show _∧_;refine aK ?_ ?_)));(all_goals try rfl))
  all_goals first
   |(show(nf.length:Int)=_;rw[hnm])
   |exact⟨.refl (aC _),aC _⟩
   |exact .inl rfl
   |(simp;omega)
 intro k hk
 with_reducible refine wK ?_
 refine bq.mk (fun h1=>?_) (fun h1=>?_)<;>(try simp only[aF] at h1)<;>with_reducible refine wK ?_
 ·have hk':k<nf.length:=by simp only[decide_eq_true_eq] at h1;omega
  obtain⟨y,hy⟩:∃x,nf[k]? =some x:=⟨_,List.getElem?_eq_getElem hk'⟩
  obtain⟨q1,q2⟩:=hst k y hy
  have hgr:=hgr k (by omega)
  have hbn:=hbn y
  have hslk:=hslen k
  clear h1 hst hslen hcl h75 h100 h101 h103 h104 hE1 hE2
  rw[←q2] at hgr
  have e3:(Gs k).map bG++ [aX (iy y)]=(Gs (k+1)).map bG:=by rw[q1,List.map_append];rfl
  have e4:(Gs (k+1)).length=(Gs k).length+1:=by rw[q1];simp
  clear q1 q2
  generalize iy y=s at*
  obtain⟨s1,s2,s3,s4⟩:=s
  obtain⟨y0,y1,y2,y3,y4,y5,y6,y7,y8,y9⟩:=y
  generalize hLn:Gl (k+1)=L2 at*
  generalize hTn:Gs (k+1)=T2 at*
  repeat' (first
  |refine gK ?_|refine aE ?_ ?_
  | ((first
   |((with_reducible show ay _ _ _ _ _);refine ay.mk k (aS ⟨y0,y1,y2,y3,y4,y5,y6,y7,y8,y9⟩) rfl (aG hy) ?_)
   |((with_reducible refine kQ 89 ?_);refine cL hbn RG ?_)
   |((with_reducible refine kQ 90 ?_);refine cV hgr Qs ?_)
   |((with_reducible show dI _ _ _ _ _ _ _ _ _ _);refine dI.mk ((Gs k).map bG) [aX ⟨s1,s2,s3,s4⟩] ⟨rfl,by simp,rfl⟩ ⟨rfl,rfl,rfl⟩ rfl (by simp;omega) (by simp;omega) ?_))<;>with_reducible refine wK ?_)
  |apply trivial)
  refine aL.mk (k+1) (by omega) (by omega) ?_
  rw[hLn,hTn,e4,e3]
  (refine fK ?_;(with_reducible repeat' (first|exact trivial|(show _∧_;refine aK ?_ ?_)));(all_goals try rfl))
  all_goals first
   |exact⟨.refl (aC _),aC _⟩
   |exact .inl rfl
   |(rw[List.length_map,e4];done)
   |(simp;done)
 ·have hkl:k=nf.length:=by simp only[decide_eq_false_iff_not] at h1;omega
  subst hkl
  clear h1 hst hslen hcl h75 h100 h101
  repeat' (first
  |refine gK ?_|refine aE ?_ ?_
  | ((first
   |((with_reducible refine kQ 103 ?_);refine aj.val [321] h103 QV ⟨⟨rfl,rfl,trivial⟩,iv rfl rfl rfl rfl,⟨rfl,rfl,rfl,rfl,trivial⟩,rfl,rfl,trivial⟩ rfl rfl rfl ?_)
   |((with_reducible refine kQ 104 ?_);refine cV h104 Ry ?_)
   | ((with_reducible refine kQ 98 ?_);first
     |refine aj.gd (news:=[mW ⟨⟨l',m'⟩,Gs nf.length,⟨d1,d2,d3,d4⟩,⟨la,lb,lc,ld⟩,Ty,bu,cs⟩]) [80] [321] hE1 QG ⟨⟨rfl,rfl⟩,rfl,trivial⟩ ⟨⟨rfl,.inr ⟨⟨⟨rfl,rfl,iv rfl rfl rfl rfl,rfl,rfl,rfl,rfl,rfl,rfl,rfl,rfl,rfl,rfl,rfl,trivial⟩,trivial⟩,rfl⟩⟩,trivial⟩ rfl ⟨⟨rfl,rfl⟩,rfl⟩ rfl ⟨⟨rfl,.inr ⟨rfl,rfl,rfl⟩⟩,trivial⟩ rfl rfl ?_
     |refine aj.gd (news:=[mW ⟨⟨zl,zm⟩,zst,⟨zd1,zd2,zd3,zd4⟩,⟨za,zb,zc,zd⟩,zta,zbu,zcs⟩]) [80] [] hE2 QG ⟨⟨rfl,rfl⟩,rfl,trivial⟩ ⟨⟨rfl,.inr ⟨⟨⟨rfl,rfl,rfl,rfl,rfl,rfl,rfl,rfl,rfl,rfl,rfl,rfl,rfl,rfl,trivial⟩,trivial⟩,rfl⟩⟩,trivial⟩ rfl ⟨⟨rfl,rfl⟩,rfl⟩ rfl ⟨⟨rfl,.inr ⟨rfl,rfl,rfl⟩⟩,trivial⟩ rfl rfl ?_))<;>with_reducible refine wK ?_)
  |apply trivial)
  all_goals trace_state



end Go.Proofs.Heir
