/- Models, plain laws and contracts of functions of the given program; conditions as stated in each theorem. By an AI agent. -/
import Derived.Test.YtciccajdpmahiaaGreatDoorW6
import Derived.Test.YtciccajdpmahiaaGreatDoorW5
set_option linter.unusedSimpArgs false
set_option linter.unusedVariables false
namespace Go.Proofs.Heir
open Go Go.Am Go.RowKit Go.Lib
set_option maxRecDepth 100000
set_option maxHeartbeats 8000000
set_option maxHeartbeats 8000000
theorem follows_iff {w:WorldM}{f:ForM}:followsW w f=true↔f.most=w.f.most∧w.f.nodes.length≤f.nodes.length∧∀ (n:Nat) (x y:NodeM),w.f.nodes[n]? =some x→f.nodes[n]? =some y→y.kind=x.kind:=by
 unfold followsW
 rw[Bool.and_eq_true,Bool.and_eq_true,decide_eq_true_eq,decide_eq_true_eq,List.all_eq_true]
 constructor
 ·rintro⟨⟨h1,h2⟩,h3⟩
  refine⟨h1,h2,fun n x y hx hy=>?_⟩
  have:=h3 n (List.mem_range.2 (List.getElem?_eq_some_iff.1 hx).1)
  rwa [decide_eq_true_eq,nd_get hx,nd_get hy] at this
 ·rintro⟨h1,h2,h3⟩
  refine⟨⟨h1,h2⟩,fun n hn=>?_⟩
  rw[List.mem_range] at hn
  have hx:w.f.nodes[n]? =some w.f.nodes[n]:=List.getElem?_eq_getElem hn
  have hy:f.nodes[n]? =some f.nodes[n]:=List.getElem?_eq_getElem (by omega)
  rw[decide_eq_true_eq,nd_get hx,nd_get hy];exact h3 n _ _ hx hy
theorem now_st (w:WorldM)(f:ForM):(nowW w f).states=w.states++ (f.nodes.drop w.f.nodes.length).map bornS:=by
 show w.states++ ((f.nodes.drop w.f.nodes.length).take _).map bornS=_
 rw[List.take_of_length_le (by rw[List.length_drop];exact Nat.le_refl _)]
theorem now_old {w:WorldM}{f:ForM}{n:Nat}(h:n<w.states.length):(nowW w f).states[n]? =w.states[n]? :=by rw[now_st,List.getElem?_append_left h]
theorem now_new {w:WorldM}{f:ForM}(hl:w.states.length=w.f.nodes.length){n:Nat}{x:NodeM}(h:w.states.length≤n)(hx:f.nodes[n]? =some x):(nowW w f).states[n]? =some (bornS x):=by
 rw[now_st,List.getElem?_append_right h,List.getElem?_map,List.getElem?_drop,hl,show w.f.nodes.length+ (n-w.f.nodes.length)=n from by omega,hx];rfl
theorem now_len {w:WorldM}{f:ForM}(hl:w.states.length=w.f.nodes.length)(hf:w.f.nodes.length≤f.nodes.length):(nowW w f).states.length=f.nodes.length:=by
 rw[now_st,List.length_append,List.length_map,List.length_drop];omega
theorem born_cases (s i:ByteArray):bornM s i=0∨bornM s i=1:=by unfold bornM;split<;>simp
theorem now_right {w:WorldM}{f:ForM}(R:RightG w)(hf:rightF f=true)(hw:followsW w f=true):RightG (nowW w f):=by
 obtain⟨h1,h2,h3⟩:=follows_iff.1 hw
 have sl:=R.sl
 have tl:=R.tl
 have tm:∀m,thereN w.f.nodes m=true→thereN f.nodes m=true:=fun m hm=>by
  unfold thereN at hm ⊢
  simp only[Bool.and_eq_true,decide_eq_true_eq] at hm ⊢
  omega
 refine⟨?_,?_,R.cl,hf,R.rd,?_,?_,?_,R.ta,?_⟩
 ·exact now_len sl h2
 ·show(w.line.todos++List.replicate _ []).length=f.nodes.length
  rw[List.length_append,List.length_replicate];omega
 ·have hn:=R.ln
  unfold lnR at hn ⊢
  rw[Bool.and_eq_true,List.all_eq_true,List.all_eq_true] at hn ⊢
  have im:∀m,inLn w.line m=true→inLn (nowW w f).line m=true:=fun m hm=>by
   unfold inLn at hm ⊢
   show(_&&decide (m< ((w.line.todos++List.replicate _ []).length:Int)))=true
   rw[List.length_append]
   simp only[Bool.and_eq_true,decide_eq_true_eq] at hm ⊢
   omega
  refine⟨fun s hs=>?_,fun m hm=>im m (hn.2 m hm)⟩
  rw[List.all_eq_true]
  exact fun m hm=>im m ((List.all_eq_true.1 (hn.1 s hs)) m hm)
 ·intro n x s hx hs
  have hx:f.nodes[n]? =some x:=hx
  by_cases hn:n<w.states.length
  ·rw[now_old hn] at hs
   have hy:w.f.nodes[n]? =some w.f.nodes[n]:=List.getElem?_eq_getElem (by omega)
   have h:=R.st n _ s hy hs
   have hk:=h3 n _ x hy hx
   unfold stateOK at h ⊢
   rw[hk]
   split at h
   ·rename_i e
    rw[if_pos e]
    rw[Bool.and_eq_true,Bool.or_eq_true] at h ⊢
    exact⟨h.1.imp id (tm _),h.2⟩
   ·rename_i e
    rw[if_neg e];exact h
  ·rw[now_new sl (by omega) hx] at hs
   have e:=Option.some.inj hs
   subst e
   unfold stateOK bornS
   by_cases e:x.kind=1
   ·rw[if_pos e,if_pos e]
    rcases born_cases x.name x.is with q|q<;>rw[q]<;>simp
   ·rw[if_neg e,if_neg e];rfl
 ·intro l hl t ht
  have hl:l∈w.line.todos++List.replicate _ []:=hl
  rcases List.mem_append.1 hl with e|e
  ·exact R.td l e t ht
  ·rw[(List.mem_replicate.1 e).2] at ht;cases ht
 ·intro b hb
  have h:=R.bu b hb
  unfold buildG at h ⊢
  rw[Bool.and_eq_true,Bool.or_eq_true] at h ⊢
  refine⟨h.1,h.2.imp id fun q=>?_⟩
  unfold elemV at q ⊢
  rw[Bool.and_eq_true] at q ⊢
  obtain⟨i,x,hi,hx,hxe⟩:=there_iff.1 q.1
  have hil:=(List.getElem?_eq_some_iff.1 hx).1
  have hy:f.nodes[i]? =some f.nodes[i]:=List.getElem?_eq_getElem (by omega)
  refine⟨tm _ q.1,?_⟩
  rw[hi]
  show decide ((nd f.nodes (i:Int)).kind=1)=true
  rw[nd_get hy,h3 i x _ hx hy,←hxe];exact q.2
theorem fate_in {f:ForM}{n:Int}{d:DeskM}(h:fateF f n d≠-1):0≤fateF f n d∧fateF f n d< (d.defs.length:Int):=by
 unfold fateF at h ⊢
 split at h
 ·rename_i e
  rw[if_pos e]
  unfold fateD at h ⊢
  split at h
  ·rename_i e2
   rw[if_pos e2]
   unfold findD at h ⊢
   split at h
   ·rename_i e3
    rw[if_pos e3]
    rcases findR_cases d.defs (nd f.nodes n).name (nd f.nodes n).is with q|⟨k,x,q,hk,_⟩
    ·exact absurd q.1 h
    ·have:=(List.getElem?_eq_some_iff.1 hk).1
     omega
   ·exact absurd rfl h
  ·exact absurd rfl h
 ·exact absurd rfl h
theorem dueL_ok {w:WorldM}(R:RightG w)(ns:List NoteM):∀d∈dueL w.f w.states w.desk w.classes ns,dueOK w d=true:=by
 intro d hd
 unfold dueL at hd
 split at hd
 ·obtain⟨x,_,hx⟩:=List.mem_flatMap.1 hd
  rcases due_cases R.sl x (d:=w.desk) (cs:=w.classes) with e|⟨i,s,y,hi,hs,hy,hk,e,ha⟩
  ·rw[e] at hx;cases hx
  ·rw[e] at hx
   rw[List.mem_singleton.1 hx]
   unfold dueOK todoG defG
   rw[Bool.and_eq_true,Bool.or_eq_true,Bool.and_eq_true,Bool.and_eq_true,Bool.and_eq_true]
   simp only[decide_eq_true_eq]
   refine⟨by rw[hi];exact there_get hy,?_⟩
   rcases asks_cases ha with⟨_,_,h3,h4⟩|⟨_,h2,_,_,_,h5,h6⟩
   ·rw[h4];exact .inr ⟨rfl,fate_in h3⟩
   ·rw[h2];exact .inl ⟨h5,by show x.kind<9;omega⟩
 ·cases hd
theorem tellD_ok {w:WorldM}{c:ClassM}{n:Int}{t:TodoM}(hn:thereN w.f.nodes n=true)(ht:todoG w t=true):∀d∈tellD c n t,dueOK w d=true:=by
 intro d hd
 unfold tellD at hd
 split at hd
 ·rw[List.mem_singleton.1 hd];unfold dueOK;rw[hn,ht];rfl
 ·cases hd
theorem toldDu_ok {w:WorldM}(R:RightG w):∀d∈toldDu w.f w.states w.desk w.classes,dueOK w d=true:=by
 intro d hd
 unfold toldDu at hd
 split at hd
 ·unfold tDu at hd
  obtain⟨n,hn,hd⟩:=List.mem_flatMap.1 hd
  rw[List.mem_range] at hn
  have ht:thereN w.f.nodes (n:Int)=true:=by have:=R.sl;unfold thereN;simp;omega
  unfold toldD at hd
  split at hd
  ·rcases List.mem_append.1 hd with e|e
   ·split at e
    ·cases e
    ·exact tellD_ok ht (by rfl) d e
   ·split at e
    ·cases e
    ·exact tellD_ok ht (by rfl) d e
  ·cases hd
 ·cases hd
theorem look_of {w:WorldM}(R:RightG w):lookV w.f w.states w.desk=true:=by unfold lookV;rw[decide_eq_true R.sl,R.rf,R.rd];rfl
theorem told_right {w:WorldM}(R:RightG w):RightG {w with states:=toldSt w.f w.states w.desk w.classes}:=by
 refine⟨by rw[←R.sl];exact told_len,R.tl,R.cl,R.rf,R.rd,R.ln,?_,R.td,R.ta,R.bu⟩
 intro n x s hx hs
 have hx:w.f.nodes[n]? =some x:=hx
 have hs:(toldSt w.f w.states w.desk w.classes)[n]? =some s:=hs
 have hn:n<w.states.length:=by have:=(List.getElem?_eq_some_iff.1 hx).1;have:=R.sl;omega
 rw[told_get (look_of R) hn] at hs
 have e:=Option.some.inj hs
 subst e
 have hg:w.states[n]? =some w.states[n]:=List.getElem?_eq_getElem hn
 have h:=R.st n x _ hx hg
 rw[sAt_of hg]
 unfold toldS
 split
 ·rename_i hd
  unfold dutyB at hd
  simp only[Bool.and_eq_true,decide_eq_true_eq] at hd
  have hk:x.kind=1:=by have:=hd.2;rwa [nd_get hx] at this
  unfold stateOK at h ⊢
  rw[if_pos hk] at h ⊢
  rw[Bool.and_eq_true] at h ⊢
  refine⟨?_,h.2⟩
  rw[Bool.or_eq_true,decide_eq_true_eq]
  by_cases q:ownN w.f.nodes (n:Int)=-1
  ·exact .inl q
  ·exact .inr (own_form (tree_of R.rf) (there_get hx) q).1
 ·exact h
theorem told_enl {x:WorldM}{due:List DueN}(N:RightG x)(h:∀d∈due,dueOK x d=true):RightG (enlW {enlW x due with states:=toldSt x.f x.states x.desk x.classes} (toldDu x.f x.states x.desk x.classes)):=by
 have e:=enl_right due x N h
 have hf:=enl_f due x
 have hs:=enl_states due x
 have hd:=enl_desk due x
 have hc:=enl_classes due x
 generalize enlW x due=y at*
 rw[←hf,←hs,←hd,←hc]
 exact enl_right _ _ (told_right e) (fun d hd=>toldDu_ok e d hd)
theorem tell_right {w:WorldM}{f:ForM}(R:RightG w)(hf:rightF f=true)(hw:followsW w f=true)(ns:List NoteM):RightG (tellG w f ns):=told_enl (now_right R hf hw) (dueL_ok (now_right R hf hw) ns)
theorem tellOK_iff {w:WorldM}{f:ForM}:tellOK w f=true↔RightG w∧rightF f=true∧followsW w f=true:=by
 unfold tellOK;rw[Bool.and_eq_true,Bool.and_eq_true,rightG_iff,and_assoc]
theorem tell_f (w:WorldM)(f:ForM)(ns:List NoteM):(tellG w f ns).f=f:=by unfold tellG;rw[enl_f];exact enl_f ..
theorem tell_states (w:WorldM)(f:ForM)(ns:List NoteM):(tellG w f ns).states=toldSt f (nowW w f).states w.desk w.classes:=by unfold tellG;rw[enl_states];rfl
theorem tell_tasks (w:WorldM)(f:ForM)(ns:List NoteM):∃r,(tellG w f ns).tasks=w.tasks++r∧r.length≤1:=by
 unfold tellG
 rw[enl_tasks]
 show ∃r,(enlW (nowW w f) (dueL f (nowW w f).states w.desk w.classes ns)).tasks++_=w.tasks++r∧_
 rw[enl_tasks]
 show ∃r,w.tasks++_++_=w.tasks++r∧_
 rw[List.append_assoc]
 refine⟨_,rfl,?_⟩
 by_cases h:dueL f (nowW w f).states w.desk w.classes ns=[]
 ·rw[if_neg (fun q=>q.1 h),List.nil_append];split<;>simp
 ·have:=enl_tell _ (nowW w f) h
  rw[List.length_append]
  have l1:∀ (p:Prop) [Decidable p],(if p then[drainT] else[]).length≤1:=fun p _=>by split<;>simp
  have l2:∀ (p:Prop) [Decidable p],¬p→(if p then[drainT] else[]).length=0:=fun p _ hp=>by rw[if_neg hp];rfl
  refine Nat.le_trans (Nat.add_le_add (l1 _) (Nat.le_of_eq (l2 _ ?_))) (by decide)
  intro q
  have q2:lnTell (enlW (nowW w f) (dueL f (nowW w f).states w.desk w.classes ns)).line=true:=q.2
  rw[this] at q2;cases q2
theorem toldS_born (f:ForM)(d:DeskM)(cs:List ClassM)(n:Int)(x:NodeM):toldS f d cs n (bornS x)=bornS x:=by
 unfold toldS
 rw[if_neg]
 unfold dutyB bornS
 intro h
 simp only[Bool.and_eq_true,decide_eq_true_eq] at h
 have:=h.1.2
 split at this
 ·rcases born_cases x.name x.is with q|q<;>rw[q] at this<;>cases this
 ·cases this
theorem look_now {w:WorldM}{f:ForM}(R:RightG w)(hf:rightF f=true)(hw:followsW w f=true):lookV f (nowW w f).states w.desk=true:=look_of (now_right R hf hw)
theorem tell_new {w:WorldM}{f:ForM}(R:RightG w)(hf:rightF f=true)(hw:followsW w f=true)(ns:List NoteM){n:Nat}{x:NodeM}(h:w.states.length≤n)(hx:f.nodes[n]? =some x):(tellG w f ns).states[n]? =some (bornS x):=by
 have hn:=(List.getElem?_eq_some_iff.1 hx).1
 have hl:=now_len R.sl (follows_iff.1 hw).2.1
 rw[tell_states,told_get (look_now R hf hw) (by omega),sAt_of (now_new R.sl h hx),toldS_born]
def setS (s:StateM)(ph df:Int):StateM:=⟨ph,df,s.owner,s.barred⟩
def putG (w:WorldM)(n:Int)(ph df:Int):WorldM:={w with states:=w.states.set n.toNat (setS (stOf w.states n) ph df)}
def spoilG (w:WorldM)(n:Int):WorldM:={putG w n 4 (-1) with line:=lnDrop w.line n}
def doneG (w:WorldM)(n:Int):WorldM:=(tellW (putG w n 3 (stOf w.states n).df) w.f []).1
def elemG (w:WorldM)(n:Int):Bool:=rightG w&&elemV w.f.nodes n
def startOK (w:WorldM)(n df:Int):Bool:=(elemG w n&&defG w df)&&decide ((stOf w.states n).phase=1)
def startG (w:WorldM)(n df:Int):WorldM:=
 let x:=putG w n 2 df
 let y:=(enlistW x (firstL x.f x.states x.desk x.classes n)).1
 {y with builds:=y.builds++ [⟨df,n⟩]}
def startW (w:WorldM)(n df:Int):WorldM×Bool:=if startOK w n df=true then(startG w n df,true) else(w,false)
def lastB (l:List BuildM)(df:Int):Int:=match(l.reverse.findIdx? fun b=>decide (b.df=df)) with
 |some i=>(l.length:Int)-1-i
 |none=> -1
def finishOK (w:WorldM)(n:Int):Bool:=(elemG w n&&decide ((stOf w.states n).phase=2))&&(decide (0<w.builds.length)&&decide ((w.builds.getLast?.map BuildM.df)=some (stOf w.states n).df))
def popG (w:WorldM):WorldM:={w with builds:=w.builds.dropLast}
def finishW (w:WorldM)(n answer e:Int):WorldM×Int:=
 if finishOK w n=true then
  (if e≠0 then(spoilG (popG w) n,e) else if answer≠n then(spoilG (popG w) n,7) else(doneG (popG w) n,0))
 else(w,1)
def breakW (w:WorldM)(n:Int):WorldM×Int:=if(elemG w n&& !decide ((stOf w.states n).phase=3))=true then(spoilG w n,0) else(w,1)
def fitN (x:NodeM)(s:ByteArray)(doc:Int):Bool:=((((decide (x.kind=1)&&decide (x.name=s))&&decide (x.doc=doc))&&decide (x.attrs.length=0))&&decide (x.kids.length=0))&&decide (x.parent=-1)
def fitW (w:WorldM)(n:Int)(s:ByteArray)(doc:Int):Int:=if(rightG w&&thereN w.f.nodes n)=true then(if fitN (nd w.f.nodes n) s doc=true then 0 else 5) else 1
def bareN (k d:Int):NodeM:=⟨k,⟨#[]⟩,⟨#[]⟩,⟨#[]⟩,[],-1,[],-1,-1,d⟩
def madeN (f:ForM)(x:NodeM):NodeM:=⟨x.kind,x.name,x.is,x.data,x.attrs,-1,[],-1,-1,if x.kind=0 then(f.nodes.length:Int) else x.doc⟩
def makeOK (f:ForM)(x:NodeM):Bool:=(rightF f&&namedN (madeN f x))&&(!decide (x.kind=4)&&(decide (x.kind=0)||isN f.nodes x.doc 0))
def makeF (f:ForM)(x:NodeM):ForM×Int×Int:=
 if makeOK f x=true then(if(f.nodes.length:Int)=f.most then(f,-1,8) else(⟨f.nodes++ [madeN f x],f.most⟩,f.nodes.length,0)) else(f,-1,1)
theorem nd_app {l:List NodeM}{y:NodeM}{n:Int}(h:thereN l n=true):nd (l++ [y]) n=nd l n:=by
 obtain⟨k,x,rfl,hx,_⟩:=there_iff.1 h
 rw[nd_get hx,nd_get (by rw[List.getElem?_append_left (List.getElem?_eq_some_iff.1 hx).1];exact hx)]
theorem there_app {l:List NodeM}{y:NodeM}{n:Int}(h:thereN l n=true):thereN (l++ [y]) n=true:=by
 unfold thereN at h ⊢
 rw[List.length_append,List.length_singleton]
 simp only[Bool.and_eq_true,decide_eq_true_eq] at h ⊢
 omega
theorem is_app {l:List NodeM}{y:NodeM}{n k:Int}(h:isN l n k=true):isN (l++ [y]) n k=true:=by
 unfold isN at h ⊢
 rw[Bool.and_eq_true] at h ⊢
 exact⟨there_app h.1,by rw[nd_app h.1];exact h.2⟩
theorem kidOK_app {l:List NodeM}{y:NodeM}{n:Int}{x:NodeM}{pre:List Int}{c:Int}(h:kidOK l n x pre c=true):kidOK (l++ [y]) n x pre c=true:=by
 unfold kidOK at h ⊢
 simp only[Bool.and_eq_true] at h ⊢
 obtain⟨⟨⟨⟨h1,h2⟩,h3⟩,h4⟩,h5⟩:=h
 rw[nd_app h1]
 exact⟨⟨⟨⟨there_app h1,h2⟩,h3⟩,h4⟩,h5⟩
theorem kidsOK_app {l:List NodeM}{y:NodeM}{n:Int}{x:NodeM}:∀ (cs pre:List Int),kidsOK l n x pre cs=true→kidsOK (l++ [y]) n x pre cs=true∧∀c∈cs,thereN l c=true
 |[],_,_=>⟨rfl,fun c hc=>by cases hc⟩
 | c ::r,pre,h=>by
   unfold kidsOK at h ⊢
   rw[Bool.and_eq_true] at h ⊢
   have ih:=kidsOK_app (y:=y) r _ h.2
   refine⟨⟨kidOK_app h.1,ih.1⟩,fun d hd=>?_⟩
   rcases List.mem_cons.1 hd with e|e
   ·subst e
    have:=h.1
    unfold kidOK at this
    simp only[Bool.and_eq_true] at this
    exact this.1.1.1.1
   ·exact ih.2 d e
theorem elemsN_app {l:List NodeM}{y:NodeM}{cs:List Int}(h:∀c∈cs,thereN l c=true):elemsN (l++ [y]) cs=elemsN l cs:=by
 unfold elemsN
 refine List.countP_congr fun c hc=>?_
 rw[nd_app (h c hc)]
theorem nodeOK_app {l:List NodeM}{y:NodeM}{n:Int}{x:NodeM}(h:nodeOK l n x=true):nodeOK (l++ [y]) n x=true:=by
 unfold nodeOK at h ⊢
 simp only[Bool.and_eq_true] at h ⊢
 obtain⟨h1,h2,h3,h4,h5⟩:=h
 refine⟨h1,?_,?_,?_,?_⟩
 ·unfold ownedN at h2 ⊢
  rw[Bool.and_eq_true] at h2 ⊢
  exact⟨is_app h2.1,h2.2⟩
 ·unfold hungN at h3 ⊢
  rw[Bool.or_eq_true] at h3 ⊢
  refine h3.imp id fun q=>?_
  simp only[Bool.and_eq_true] at q ⊢
  rw[nd_app q.1.1.2]
  exact⟨⟨⟨q.1.1.1,there_app q.1.1.2⟩,q.1.2⟩,q.2⟩
 ·unfold bearsN at h4 ⊢
  simp only[Bool.and_eq_true] at h4 ⊢
  have k:=kidsOK_app (y:=y) x.kids [] h4.1
  rw[elemsN_app k.2]
  exact⟨k.1,h4.2⟩
 ·unfold shadedN at h5 ⊢
  rw[Bool.and_eq_true] at h5 ⊢
  refine⟨?_,?_⟩
  ·have:=h5.1
   split
   ·rename_i e
    rw[if_pos e] at this
    simp only[Bool.and_eq_true] at this ⊢
    have t:thereN l x.host=true:=by have:=this.1.1;unfold isN at this;rw[Bool.and_eq_true] at this;exact this.1
    rw[nd_app t]
    exact⟨⟨is_app this.1.1,this.1.2⟩,this.2⟩
   ·rename_i e
    rw[if_neg e] at this;exact this
  ·rw[Bool.or_eq_true] at h5 ⊢
   refine h5.2.imp id fun q=>?_
   simp only[Bool.and_eq_true] at q ⊢
   have t:thereN l x.under=true:=by have:=q.1.2;unfold isN at this;rw[Bool.and_eq_true] at this;exact this.1
   rw[nd_app t]
   exact⟨⟨q.1.1,is_app q.1.2⟩,q.2⟩
theorem upNode_there {l:List NodeM}{n:Int}{x:NodeM}(h:nodeOK l n x=true):upN x=-1∨thereN l (upN x)=true:=by
 unfold nodeOK at h
 simp only[Bool.and_eq_true] at h
 obtain⟨_,_,h3,_,h5⟩:=h
 unfold upN
 by_cases e:x.parent=-1
 ·rw[if_pos e]
  unfold shadedN at h5
  rw[Bool.and_eq_true] at h5
  have:=h5.1
  split at this
  ·simp only[Bool.and_eq_true] at this
   have t:=this.1.1
   unfold isN at t
   rw[Bool.and_eq_true] at t
   exact .inr t.1
  ·rw[decide_eq_true_eq] at this;exact .inl this
 ·rw[if_neg e]
  unfold hungN at h3
  simp only[Bool.or_eq_true,Bool.and_eq_true,decide_eq_true_eq] at h3
  rcases h3 with q|q
  ·exact absurd q e
  ·exact .inr q.1.1.2
theorem ends_mono {l:List NodeM}:∀ (m:Nat) (n:Int),endsN l m n=true→endsN l (m+1) n=true
 |0,_,h=>by cases h
 | m +1,n,h=>by
   rw[endsN_succ] at h ⊢
   split
   ·rfl
   ·rename_i e
    rw[if_neg e] at h
    exact ends_mono m _ h
theorem ends_app {l:List NodeM}{y:NodeM}(hup:∀n,thereN l n=true→upN (nd l n)=-1∨thereN l (upN (nd l n))=true):∀ (m:Nat) (n:Int),thereN l n=true→endsN l m n=true→endsN (l++ [y]) m n=true
 |0,_,_,h=>by cases h
 | m +1,n,hn,h=>by
   rw[endsN_succ] at h ⊢
   rw[nd_app hn]
   split
   ·rfl
   ·rename_i e
    rw[if_neg e] at h
    rcases hup n hn with q|q
    ·exact absurd q e
    ·exact ends_app hup m _ q h
theorem make_right {f:ForM}{x:NodeM}(h:makeOK f x=true)(hm:(f.nodes.length:Int)≠f.most):rightF ⟨f.nodes++ [madeN f x],f.most⟩=true:=by
 unfold makeOK at h
 simp only[Bool.and_eq_true] at h
 obtain⟨⟨hr,hn⟩,hk,hd⟩:=h
 unfold rightF at hr ⊢
 simp only[Bool.and_eq_true] at hr ⊢
 obtain⟨h1,h2,h3⟩:=hr
 unfold headOK at h1 ⊢
 simp only[Bool.and_eq_true,decide_eq_true_eq] at h1 ⊢
 obtain⟨⟨⟨⟨a,b⟩,c⟩,d⟩,e⟩:=h1
 have t0:thereN f.nodes 0=true:=by unfold thereN;simp;omega
 rw[List.length_append,List.length_singleton,nd_app t0]
 rw[allIx_iff] at h2 h3
 have hup:∀n,thereN f.nodes n=true→upN (nd f.nodes n)=-1∨thereN f.nodes (upN (nd f.nodes n))=true:=fun n hn=>by
  obtain⟨k,z,rfl,hz,hze⟩:=there_iff.1 hn
  have:=h2 k z hz
  rw[Nat.zero_add] at this
  rw[hze];exact upNode_there this
 have new:nd (f.nodes++ [madeN f x]) (f.nodes.length:Int)=madeN f x:=nd_get (by rw[List.getElem?_append_right (Nat.le_refl _),Nat.sub_self];rfl)
 have tnew:thereN (f.nodes++ [madeN f x]) (f.nodes.length:Int)=true:=by unfold thereN;rw[List.length_append,List.length_singleton];simp;omega
 refine⟨⟨⟨⟨⟨a,b⟩,by omega⟩,by omega⟩,e⟩,?_,?_⟩
 ·rw [allIx_iff]
  intro k z hz
  rw[Nat.zero_add]
  by_cases hkl:k<f.nodes.length
  ·rw[List.getElem?_append_left hkl] at hz
   have:=h2 k z hz
   rw[Nat.zero_add] at this
   exact nodeOK_app this
  ·rw [List.getElem?_append_right (by omega)] at hz
   have hk0:k=f.nodes.length:=by
    have:=(List.getElem?_eq_some_iff.1 hz).1
    rw[List.length_singleton] at this;omega
   subst hk0
   rw[Nat.sub_self] at hz
   have hz:madeN f x=z:=Option.some.inj hz
   subst hz
   unfold nodeOK
   simp only[Bool.and_eq_true]
   rw[Bool.not_eq_true',decide_eq_false_iff_not] at hk
   refine⟨hn,?_,?_,?_,?_⟩
   ·unfold ownedN
    rw[Bool.and_eq_true]
    rw[Bool.or_eq_true,decide_eq_true_eq] at hd
    by_cases k0:x.kind=0
    ·have ed:(madeN f x).doc=f.nodes.length:=if_pos k0
     rw[ed]
     refine⟨?_,by rw[decide_eq_true (rfl:(f.nodes.length:Int)=f.nodes.length),Bool.or_true]⟩
     unfold isN
     rw[tnew,new,Bool.true_and,decide_eq_true_eq];exact k0
    ·have ed:(madeN f x).doc=x.doc:=if_neg k0
     rw[ed]
     refine⟨is_app (hd.resolve_left k0),?_⟩
     rw[Bool.or_eq_true];exact .inl (decide_eq_true k0)
   ·unfold hungN;rfl
   ·unfold bearsN
    show(true&&((_||decide (([]:List Int)=[]))&&(_||decide (0≤1))))=true
    simp
   ·unfold shadedN
    rw[if_neg (show(madeN f x).kind≠4 from hk)]
    rfl
 ·rw [allIx_iff]
  intro k z hz
  rw[Nat.zero_add]
  by_cases hkl:k<f.nodes.length
  ·rw[List.getElem?_append_left hkl] at hz
   have:=h3 k z hz
   rw[Nat.zero_add] at this
   exact ends_mono _ _ (ends_app hup _ _ (there_get hz) this)
  ·have hk0:k=f.nodes.length:=by
    have:=(List.getElem?_eq_some_iff.1 hz).1
    rw[List.length_append,List.length_singleton] at this;omega
   subst hk0
   rw[endsN_succ,new];rfl
theorem elem_get {l:List NodeM}{n:Int}(h:elemV l n=true):∃ (k:Nat) (x:NodeM),n=k∧l[k]? =some x∧nd l n=x∧x.kind=1:=by
 unfold elemV at h
 rw[Bool.and_eq_true,decide_eq_true_eq] at h
 obtain⟨k,x,hk,hx,e⟩:=there_iff.1 h.1
 exact⟨k,x,hk,hx,e,by rw[←e];exact h.2⟩
def fineS (w:WorldM)(ph df:Int):Prop:=((ph=2∨ph=3)∧defG w df=true)∨((ph=0∨ph=1∨ph=4)∧(df=-1∨defG w df=true))
theorem fine_of {w:WorldM}{x:NodeM}{s:StateM}(h:stateOK w x s=true)(hk:x.kind=1):(s.owner=-1∨thereN w.f.nodes s.owner=true)∧fineS w s.phase s.df:=by
 unfold stateOK at h
 rw[if_pos hk,Bool.and_eq_true,Bool.or_eq_true,decide_eq_true_eq] at h
 refine⟨h.1,?_⟩
 have h2:=h.2
 split at h2
 ·rename_i e;exact .inl ⟨e,h2⟩
 ·simp only[Bool.and_eq_true,Bool.or_eq_true,decide_eq_true_eq] at h2
  exact .inr ⟨by rcases h2.1 with(q|q)|q<;>simp[q],h2.2⟩
theorem of_fine {w:WorldM}{x:NodeM}{s:StateM}(ho:s.owner=-1∨thereN w.f.nodes s.owner=true)(h:fineS w s.phase s.df)(hk:x.kind=1):stateOK w x s=true:=by
 unfold stateOK
 rw[if_pos hk,Bool.and_eq_true,Bool.or_eq_true,decide_eq_true_eq]
 refine⟨ho,?_⟩
 rcases h with⟨p,q⟩|⟨p,q⟩
 ·rw[if_pos p];exact q
 ·rw[if_neg (by omega),Bool.and_eq_true,Bool.or_eq_true,Bool.or_eq_true,Bool.or_eq_true,decide_eq_true_eq,decide_eq_true_eq,decide_eq_true_eq,decide_eq_true_eq]
  exact⟨by omega,q⟩
theorem put_get {w:WorldM}{k:Nat}{s:StateM}(hs:w.states[k]? =some s)(ph df:Int)(n:Nat):(putG w k ph df).states[n]? =if k=n then some (setS s ph df) else w.states[n]? :=by
 show(w.states.set (k:Int).toNat (setS (stOf w.states k) ph df))[n]? =_
 rw[Int.toNat_natCast,stOf_get hs,List.getElem?_set]
 by_cases e:k=n
 ·rw[if_pos e,if_pos e,if_pos (List.getElem?_eq_some_iff.1 hs).1]
 ·rw[if_neg e,if_neg e]
theorem put_right {w:WorldM}(R:RightG w){n ph df:Int}(he:elemV w.f.nodes n=true)(h:fineS w ph df):RightG (putG w n ph df):=by
 obtain⟨k,x,rfl,hx,_,hk⟩:=elem_get he
 have hkl:=(List.getElem?_eq_some_iff.1 hx).1
 have sl:=R.sl
 have hs:w.states[k]? =some w.states[k]:=List.getElem?_eq_getElem (by omega)
 refine⟨by show(w.states.set _ _).length=_;rw[List.length_set];exact sl,R.tl,R.cl,R.rf,R.rd,R.ln,?_,R.td,R.ta,R.bu⟩
 intro m y s hy hm
 rw[put_get hs] at hm
 split at hm
 ·rename_i e
  subst e
  have e2:x=y:=Option.some.inj (hx.symm.trans hy)
  subst e2
  have hm:=Option.some.inj hm
  subst hm
  exact of_fine (fine_of (R.st k x _ hx hs) hk).1 h hk
 ·exact R.st m y s hy hm
theorem drop_right {w:WorldM}(R:RightG w)(n:Int):RightG {w with line:=lnDrop w.line n}:=by
 refine⟨R.sl,by show(w.line.todos.set _ _).length=_;rw[List.length_set];exact R.tl,R.cl,R.rf,R.rd,?_,R.st,?_,R.ta,R.bu⟩
 ·have:=R.ln
  unfold lnR at this ⊢
  have hi:∀m,inLn (lnDrop w.line n) m=inLn w.line m:=fun m=>by
   unfold inLn;show(_&&decide (m< ((w.line.todos.set n.toNat []).length:Int)))=_;rw[List.length_set]
  have hf:inLn (lnDrop w.line n)=inLn w.line:=funext hi
  show(w.line.stack.all (fun s=>s.all (inLn (lnDrop w.line n)))&&w.line.back.all (inLn (lnDrop w.line n)))=true
  rw[hf];exact this
 ·intro l hl t ht
  have hl:l∈w.line.todos.set n.toNat []:=hl
  rcases mem_setL hl with e|e
  ·exact R.td l e t ht
  ·subst e;cases ht
theorem spoil_right {w:WorldM}(R:RightG w){n:Int}(he:elemV w.f.nodes n=true):RightG (spoilG w n):=drop_right (put_right R he (.inr ⟨.inr (.inr rfl),.inl rfl⟩)) n
theorem builds_right {w:WorldM}(R:RightG w){l:List BuildM}(h:∀b∈l,buildG w b=true):RightG {w with builds:=l}:=⟨R.sl,R.tl,R.cl,R.rf,R.rd,R.ln,R.st,R.td,R.ta,h⟩
theorem filter_no {α:Type}{p:α→Bool}{l:List α}(h:∀x∈l,p x=false):l.filter p=[]:=List.filter_eq_nil_iff.2 fun x hx=>by rw[h x hx];simp
def bearN (s is:ByteArray)(doc:Int):NodeM:=⟨1,lowS s,is,⟨#[]⟩,[],0,[],0,0,doc⟩
def bearOK (s is:ByteArray):Bool:=rightS s&& !(decide (bornM ⟨#[]⟩ is=1)&& !customS is)
def bearW (w:WorldM)(s is:ByteArray)(doc:Int):WorldM×Int×Int:=
 if (rightG w&&thereN w.f.nodes doc)=true then
  (if (nd w.f.nodes doc).kind=0 then
   (if bearOK s is=true then
    (if(makeF w.f (bearN s is doc)).2.2=0 then((tellW w (makeF w.f (bearN s is doc)).1 []).1,(makeF w.f (bearN s is doc)).2.1,(tellW w (makeF w.f (bearN s is doc)).1 []).2)
     else(w,-1,(makeF w.f (bearN s is doc)).2.2))
    else(w,-1,4))
   else(w,-1,5))
  else(w,-1,1)
def defAt (d:DeskM)(n:Int):DefM:=(d.defs[n.toNat]?).getD ⟨⟨#[]⟩,⟨#[]⟩,0⟩
def buildAt (l:List BuildM)(n:Int):BuildM:=(l[n.toNat]?).getD ⟨0,0⟩
def isOf (x:DefM):ByteArray:=if x.locl=x.name then⟨#[]⟩ else x.name
def freshW (w:WorldM)(df:Int):WorldM×Int×Bool×Int:=
 if(bearW w (defAt w.desk df).locl (isOf (defAt w.desk df)) 0).2.2=0 then(putG (bearW w (defAt w.desk df).locl (isOf (defAt w.desk df)) 0).1 (bearW w (defAt w.desk df).locl (isOf (defAt w.desk df)) 0).2.1 2 df,(bearW w (defAt w.desk df).locl (isOf (defAt w.desk df)) 0).2.1,true,0)
 else(w,-1,false,(bearW w (defAt w.desk df).locl (isOf (defAt w.desk df)) 0).2.2)
def takeB (w:WorldM)(df:Int):WorldM×Int×Bool×Int:=
 if(buildAt w.builds (lastB w.builds df)).node=-4 then(w,-1,false,7)
 else({w with builds:=w.builds.set (lastB w.builds df).toNat ⟨(buildAt w.builds (lastB w.builds df)).df,-4⟩},(buildAt w.builds (lastB w.builds df)).node,false,0)
def superOK (w:WorldM)(cl:Int):Bool:=rightG w&&(decide (0≤cl)&&decide (cl< (w.classes.length:Int)))
def superW (w:WorldM)(cl:Int):WorldM×Int×Bool×Int:=
 if superOK w cl=true then
  (if classedD w.desk cl=-1 then(w,-1,false,6)
   else if lastB w.builds (classedD w.desk cl)<0 then freshW w (classedD w.desk cl) else takeB w (classedD w.desk cl))
 else(w,-1,false,1)
theorem born_is (is:ByteArray):(decide (bornM ⟨#[]⟩ is=1))=!decide (is=⟨#[]⟩):=by
 unfold bornM
 rw[show customS ⟨#[]⟩=false from by decide,Bool.or_false]
 by_cases e:is=⟨#[]⟩
 ·rw[decide_eq_true e];rfl
 ·rw[decide_eq_false e];rfl
theorem bearOK_iff {s is:ByteArray}:bearOK s is=true↔rightS s=true∧(is=⟨#[]⟩∨customS is=true):=by
 unfold bearOK
 rw[born_is,Bool.and_eq_true]
 constructor
 ·rintro⟨h1,h2⟩
  refine⟨h1,?_⟩
  by_cases e:is=⟨#[]⟩
  ·exact .inl e
  ·rw[decide_eq_false e] at h2;simp at h2;exact .inr h2
 ·rintro⟨h1,h2⟩
  refine⟨h1,?_⟩
  rcases h2 with e|e
  ·rw[decide_eq_true e];rfl
  ·rw[e];simp
theorem bear_make {w:WorldM}(hr:rightF w.f=true){s is:ByteArray}{doc:Int}(ht:thereN w.f.nodes doc=true)(hk:(nd w.f.nodes doc).kind=0)(hb:bearOK s is=true):makeOK w.f (bearN s is doc)=true:=by
 have⟨h1,h2⟩:=bearOK_iff.1 hb
 unfold makeOK
 rw[hr]
 have hn:namedN (madeN w.f (bearN s is doc))=true:=by
  unfold namedN
  rw[if_pos (show(madeN w.f (bearN s is doc)).kind=1 from rfl)]
  show((((rightS (lowS s)&&decide (lowS (lowS s)=lowS s))&&(decide (is=⟨#[]⟩)||customS is))&&decide ((⟨#[]⟩:ByteArray)=⟨#[]⟩))&&rightA [])=true
  rw[rightS_low,h1,lowS_low,decide_eq_true (rfl:lowS s=lowS s),decide_eq_true (rfl:(⟨#[]⟩:ByteArray)=⟨#[]⟩),show rightA []=true from by decide]
  rcases h2 with e|e
  ·rw[decide_eq_true e];rfl
  ·rw[e];simp
 rw[hn]
 show(true&&(!decide ((1:Int)=4)&&(decide ((1:Int)=0)||isN w.f.nodes doc 0)))=true
 unfold isN
 rw[ht,hk];rfl
@[reducible] def moreF (f : ForM) (y : NodeM) : ForM := ⟨f.nodes ++ [y], f.most⟩
theorem more_follows (w:WorldM)(y:NodeM):followsW w (moreF w.f y)=true:=by
 refine follows_iff.2 ⟨rfl,by show _≤ (w.f.nodes++ [y]).length;rw[List.length_append];omega,fun n x z hx hz=>?_⟩
 have hz:(w.f.nodes++ [y])[n]? =some z:=hz
 rw[List.getElem?_append_left (List.getElem?_eq_some_iff.1 hx).1,hx] at hz
 rw[Option.some.inj hz]
theorem bear_eq {w:WorldM}(R:RightG w){s is:ByteArray}{doc:Int}(ht:thereN w.f.nodes doc=true)(hk:(nd w.f.nodes doc).kind=0)(hb:bearOK s is=true):
  bearW w s is doc=if(w.f.nodes.length:Int)=w.f.most then(w,(-1:Int),(8:Int)) else(tellG w (moreF w.f (madeN w.f (bearN s is doc))) [],(w.f.nodes.length:Int),(0:Int)):=by
 unfold bearW
 rw[if_pos (by rw[rightG_iff.2 R,ht];rfl),if_pos hk,if_pos hb]
 have hm:makeF w.f (bearN s is doc)=if(w.f.nodes.length:Int)=w.f.most then(w.f,(-1:Int),(8:Int)) else(moreF w.f (madeN w.f (bearN s is doc)),(w.f.nodes.length:Int),(0:Int)):=by
  unfold makeF;rw[if_pos (bear_make R.rf ht hk hb)]
 rw[hm]
 by_cases e:(w.f.nodes.length:Int)=w.f.most
 ·rw[if_pos e,if_pos e];rfl
 ·rw[if_neg e,if_neg e]
  have ok:tellOK w (moreF w.f (madeN w.f (bearN s is doc)))=true:=tellOK_iff.2 ⟨R,make_right (bear_make R.rf ht hk hb) e,more_follows w _⟩
  have e1:tellW w (moreF w.f (madeN w.f (bearN s is doc))) []=(tellG w (moreF w.f (madeN w.f (bearN s is doc))) [],0):=if_pos ok
  rw[e1];rfl
theorem bear_right {w:WorldM}(R:RightG w){s is:ByteArray}{doc:Int}(ht:thereN w.f.nodes doc=true)(hk:(nd w.f.nodes doc).kind=0)(hb:bearOK s is=true)(e:(w.f.nodes.length:Int)≠w.f.most):RightG (tellG w (moreF w.f (madeN w.f (bearN s is doc))) []):=tell_right R (make_right (bear_make R.rf ht hk hb) e) (more_follows w _) []
end Go.Proofs.Heir
namespace Go.Proofs.Heir
open Go Go.Am Go.RowKit Go.Lib
set_option maxRecDepth 100000
set_option maxHeartbeats 8000000
theorem any_ix {α:Type}(p:α→Bool)(l:List α):l.any p=decide (0≤idxI p l):=by
 unfold idxI
 cases h:l.findIdx? p with
 | none=>
   rw[List.findIdx?_eq_none_iff] at h
   have:l.any p=false:=by rw[List.any_eq_false];intro x hx;rw[h x hx];simp
   rw[this];rfl
 | some i=>
   rw[List.findIdx?_eq_some_iff_getElem] at h
   obtain⟨hi,h1,_⟩:=h
   have:l.any p=true:=List.any_eq_true.2 ⟨_,List.getElem_mem hi,h1⟩
   rw[this];exact(decide_eq_true (Int.natCast_nonneg i)).symm
theorem ixS_ok (g:Nat)(cg:Callable Tryz.prog g)(caps:List AV)(hcaps:noRefL caps=true)(p:ByteArray→Bool)(l:List ByteArray)(hl:l.length≤100000)(hf:∀a,a∈l→FnOK Tryz.prog g [] (eStr a::caps) [] (eBool (p a))):
  FnOK Tryz.prog 157 [] [eStrs l,.clo (.func g) [] caps] [] (eInt (idxI p l)):=by
 have hlm:(l.map oStr).length=l.length:=List.length_map ..
 refine FnOK.startC (rvs:=[.tmp 4]) G G_good Tryz.func157 rfl Tryz.ntmps157 rfl rfl ?_;with_reducible refine wD ?_
 refine LoopK.use G G_good (fun(k:Nat)=>[(0,eStrs l),(1,.clo (.func g) [] caps),(7,eInt l.length),(8,eInt k)]) (fun _=>[]) (fun k=>k≤l.length∧∀j x,j<k→l[j]? =some x→p x=false) (fun k=>l.length-k) 0 ⟨Nat.zero_le _,fun j x h=>by omega⟩
  ⟨⟨rfl,rfl⟩,⟨rfl,⟨rfl,trivial,MFL_refl hcaps⟩,by show(l.length:Int)=((l.map oStr).length:Int);rw[hlm],rfl,trivial⟩,trivial⟩ ?_
 rintro k ⟨hk,hno⟩
 with_reducible refine wK ?_
 refine IfK.mk (fun h1=>?_) (fun h1=>?_)<;>(try simp only[castN] at h1)<;>with_reducible refine wK ?_
 ·simp only[decide_eq_true_eq] at h1
  have hk':k<l.length:=by omega
  obtain⟨a,ha⟩:∃a,l[k]? =some a:=⟨_,List.getElem?_eq_getElem hk'⟩
  refine IdxK.mk k (eStr a) rfl (strs_get ha) ?_;with_reducible refine wK ?_
  refine CallK.lit [] (hf a (List.mem_of_getElem? ha)) cg ⟨rfl,MFL_refl hcaps⟩ rfl rfl ?_;with_reducible refine wK ?_
  refine IfK.mk (fun h2=>?_) (fun h2=>?_)<;>(try simp only[castN] at h2)<;>with_reducible refine wK ?_
  ·(refine eK ?_ ?_<;>with_reducible repeat' (first|exact trivial|(show _∧_;refine aK ?_ ?_)))
   exact idxI_hit ha h2 hno
  ·refine nK ?_;with_reducible refine wK ?_
   refine NextK.mk (k+1) ⟨by omega,fun j x hj hx=>?_⟩ (by omega) ⟨⟨rfl,rfl⟩,⟨rfl,⟨rfl,trivial,MFL_refl hcaps⟩,rfl,by show((k+1:Nat):Int)=(k:Int)+1;omega,trivial⟩,trivial⟩
   rcases Nat.lt_or_ge j k with h6|h6
   ·exact hno j x h6 hx
   ·have:j=k:=by omega
    subst this
    rw[ha] at hx;cases hx;exact h2
 ·(refine eK ?_ ?_<;>with_reducible repeat' (first|exact trivial|(show _∧_;refine aK ?_ ?_)))
  have:k=l.length:=by simp only[decide_eq_false_iff_not] at h1;omega
  exact idxI_none fun j x hx=>hno j x (by have:=(List.getElem?_eq_some_iff.1 hx).1;omega) hx
theorem cfS_ok (g:Nat)(cg:Callable Tryz.prog g)(caps:List AV)(hcaps:noRefL caps=true)(p:ByteArray→Bool)(l:List ByteArray)(hl:l.length≤100000)(hf:∀a,a∈l→FnOK Tryz.prog g [] (eStr a::caps) [] (eBool (p a))):
  FnOK Tryz.prog 84 [] [eStrs l,.clo (.func g) [] caps] [] (eBool (l.any p)):=by
 refine FnOK.startC (rvs:=[.tmp 4]) G G_good Tryz.func84 rfl Tryz.ntmps84 rfl rfl ?_;with_reducible refine wD ?_
 refine CallK.lit [] (ixS_ok g cg caps hcaps p l hl hf) c157 ⟨rfl,⟨rfl,trivial,MFL_refl hcaps⟩,trivial⟩ rfl rfl ?_;with_reducible refine wK ?_
 (refine eK ?_ ?_<;>with_reducible repeat' (first|exact trivial|(show _∧_;refine aK ?_ ?_)))
 exact any_ix p l
theorem ixHk_ok (g:Nat)(cg:Callable Tryz.prog g)(caps:List AV)(hcaps:noRefL caps=true)(p:HookM→Bool)(l:List HookM)(hl:l.length≤100000)(hf:∀a,a∈l→FnOK Tryz.prog g [] (eHook a::caps) [] (eBool (p a))):
  FnOK Tryz.prog 158 [] [eHooks l,.clo (.func g) [] caps] [] (eInt (idxI p l)):=by
 have hlm:(l.map oHook).length=l.length:=List.length_map ..
 refine FnOK.startC (rvs:=[.tmp 4]) G G_good Tryz.func158 rfl Tryz.ntmps158 rfl rfl ?_;with_reducible refine wD ?_
 refine LoopK.use G G_good (fun(k:Nat)=>[(0,eHooks l),(1,.clo (.func g) [] caps),(7,eInt l.length),(8,eInt k)]) (fun _=>[]) (fun k=>k≤l.length∧∀j x,j<k→l[j]? =some x→p x=false) (fun k=>l.length-k) 0 ⟨Nat.zero_le _,fun j x h=>by omega⟩
  ⟨⟨rfl,rfl⟩,⟨rfl,⟨rfl,trivial,MFL_refl hcaps⟩,by show(l.length:Int)=((l.map oHook).length:Int);rw[hlm],rfl,trivial⟩,trivial⟩ ?_
 rintro k ⟨hk,hno⟩
 with_reducible refine wK ?_
 refine IfK.mk (fun h1=>?_) (fun h1=>?_)<;>(try simp only[castN] at h1)<;>with_reducible refine wK ?_
 ·simp only[decide_eq_true_eq] at h1
  have hk':k<l.length:=by omega
  obtain⟨a,ha⟩:∃a,l[k]? =some a:=⟨_,List.getElem?_eq_getElem hk'⟩
  refine IdxK.mk k (eHook a) rfl (hook_get ha) ?_;with_reducible refine wK ?_
  refine CallK.lit [] (hf a (List.mem_of_getElem? ha)) cg ⟨⟨rfl,rfl,trivial⟩,MFL_refl hcaps⟩ rfl rfl ?_;with_reducible refine wK ?_
  refine IfK.mk (fun h2=>?_) (fun h2=>?_)<;>(try simp only[castN] at h2)<;>with_reducible refine wK ?_
  ·(refine eK ?_ ?_<;>with_reducible repeat' (first|exact trivial|(show _∧_;refine aK ?_ ?_)))
   exact idxI_hit ha h2 hno
  ·refine nK ?_;with_reducible refine wK ?_
   refine NextK.mk (k+1) ⟨by omega,fun j x hj hx=>?_⟩ (by omega) ⟨⟨rfl,rfl⟩,⟨rfl,⟨rfl,trivial,MFL_refl hcaps⟩,rfl,by show((k+1:Nat):Int)=(k:Int)+1;omega,trivial⟩,trivial⟩
   rcases Nat.lt_or_ge j k with h6|h6
   ·exact hno j x h6 hx
   ·have:j=k:=by omega
    subst this
    rw[ha] at hx;cases hx;exact h2
 ·(refine eK ?_ ?_<;>with_reducible repeat' (first|exact trivial|(show _∧_;refine aK ?_ ?_)))
  have:k=l.length:=by simp only[decide_eq_false_iff_not] at h1;omega
  exact idxI_none fun j x hx=>hno j x (by have:=(List.getElem?_eq_some_iff.1 hx).1;omega) hx
theorem cfHk_ok (g:Nat)(cg:Callable Tryz.prog g)(caps:List AV)(hcaps:noRefL caps=true)(p:HookM→Bool)(l:List HookM)(hl:l.length≤100000)(hf:∀a,a∈l→FnOK Tryz.prog g [] (eHook a::caps) [] (eBool (p a))):
  FnOK Tryz.prog 85 [] [eHooks l,.clo (.func g) [] caps] [] (eBool (l.any p)):=by
 refine FnOK.startC (rvs:=[.tmp 4]) G G_good Tryz.func85 rfl Tryz.ntmps85 rfl rfl ?_;with_reducible refine wD ?_
 refine CallK.lit [] (ixHk_ok g cg caps hcaps p l hl hf) c158 ⟨rfl,⟨rfl,trivial,MFL_refl hcaps⟩,trivial⟩ rfl rfl ?_;with_reducible refine wK ?_
 (refine eK ?_ ?_<;>with_reducible repeat' (first|exact trivial|(show _∧_;refine aK ?_ ?_)))
 exact any_ix p l
theorem ixCl_ok (g:Nat)(cg:Callable Tryz.prog g)(caps:List AV)(hcaps:noRefL caps=true)(p:ClassM→Bool)(l:List ClassM)(hl:l.length≤100000)(hf:∀a,a∈l→FnOK Tryz.prog g [] (eClass a::caps) [] (eBool (p a))):
  FnOK Tryz.prog 246 [] [eClasses l,.clo (.func g) [] caps] [] (eInt (idxI p l)):=by
 have hlm:(l.map oClass).length=l.length:=List.length_map ..
 refine FnOK.startC (rvs:=[.tmp 4]) G G_good Tryz.func246 rfl Tryz.ntmps246 rfl rfl ?_;with_reducible refine wD ?_
 refine LoopK.use G G_good (fun(k:Nat)=>[(0,eClasses l),(1,.clo (.func g) [] caps),(7,eInt l.length),(8,eInt k)]) (fun _=>[]) (fun k=>k≤l.length∧∀j x,j<k→l[j]? =some x→p x=false) (fun k=>l.length-k) 0 ⟨Nat.zero_le _,fun j x h=>by omega⟩
  ⟨⟨rfl,rfl⟩,⟨rfl,⟨rfl,trivial,MFL_refl hcaps⟩,by show(l.length:Int)=((l.map oClass).length:Int);rw[hlm],rfl,trivial⟩,trivial⟩ ?_
 rintro k ⟨hk,hno⟩
 with_reducible refine wK ?_
 refine IfK.mk (fun h1=>?_) (fun h1=>?_)<;>(try simp only[castN] at h1)<;>with_reducible refine wK ?_
 ·simp only[decide_eq_true_eq] at h1
  have hk':k<l.length:=by omega
  obtain⟨a,ha⟩:∃a,l[k]? =some a:=⟨_,List.getElem?_eq_getElem hk'⟩
  refine IdxK.mk k (eClass a) rfl (class_get ha) ?_;with_reducible refine wK ?_
  refine CallK.lit [] (hf a (List.mem_of_getElem? ha)) cg ⟨⟨rfl,rfl,rfl,rfl,rfl,trivial⟩,MFL_refl hcaps⟩ rfl rfl ?_;with_reducible refine wK ?_
  refine IfK.mk (fun h2=>?_) (fun h2=>?_)<;>(try simp only[castN] at h2)<;>with_reducible refine wK ?_
  ·(refine eK ?_ ?_<;>with_reducible repeat' (first|exact trivial|(show _∧_;refine aK ?_ ?_)))
   exact idxI_hit ha h2 hno
  ·refine nK ?_;with_reducible refine wK ?_
   refine NextK.mk (k+1) ⟨by omega,fun j x hj hx=>?_⟩ (by omega) ⟨⟨rfl,rfl⟩,⟨rfl,⟨rfl,trivial,MFL_refl hcaps⟩,rfl,by show((k+1:Nat):Int)=(k:Int)+1;omega,trivial⟩,trivial⟩
   rcases Nat.lt_or_ge j k with h6|h6
   ·exact hno j x h6 hx
   ·have:j=k:=by omega
    subst this
    rw[ha] at hx;cases hx;exact h2
 ·(refine eK ?_ ?_<;>with_reducible repeat' (first|exact trivial|(show _∧_;refine aK ?_ ?_)))
  have:k=l.length:=by simp only[decide_eq_false_iff_not] at h1;omega
  exact idxI_none fun j x hx=>hno j x (by have:=(List.getElem?_eq_some_iff.1 hx).1;omega) hx
theorem cfCl_ok (g:Nat)(cg:Callable Tryz.prog g)(caps:List AV)(hcaps:noRefL caps=true)(p:ClassM→Bool)(l:List ClassM)(hl:l.length≤100000)(hf:∀a,a∈l→FnOK Tryz.prog g [] (eClass a::caps) [] (eBool (p a))):
  FnOK Tryz.prog 207 [] [eClasses l,.clo (.func g) [] caps] [] (eBool (l.any p)):=by
 refine FnOK.startC (rvs:=[.tmp 4]) G G_good Tryz.func207 rfl Tryz.ntmps207 rfl rfl ?_;with_reducible refine wD ?_
 refine CallK.lit [] (ixCl_ok g cg caps hcaps p l hl hf) c246 ⟨rfl,⟨rfl,trivial,MFL_refl hcaps⟩,trivial⟩ rfl rfl ?_;with_reducible refine wK ?_
 (refine eK ?_ ?_<;>with_reducible repeat' (first|exact trivial|(show _∧_;refine aK ?_ ?_)))
 exact any_ix p l
theorem ixDf_ok (g:Nat)(cg:Callable Tryz.prog g)(caps:List AV)(hcaps:noRefL caps=true)(p:DefM→Bool)(l:List DefM)(hl:l.length≤100000)(hf:∀a,a∈l→FnOK Tryz.prog g [] (eDef a::caps) [] (eBool (p a))):
  FnOK Tryz.prog 247 [] [eDefs l,.clo (.func g) [] caps] [] (eInt (idxI p l)):=by
 have hlm:(l.map oDef).length=l.length:=List.length_map ..
 refine FnOK.startC (rvs:=[.tmp 4]) G G_good Tryz.func247 rfl Tryz.ntmps247 rfl rfl ?_;with_reducible refine wD ?_
 refine LoopK.use G G_good (fun(k:Nat)=>[(0,eDefs l),(1,.clo (.func g) [] caps),(7,eInt l.length),(8,eInt k)]) (fun _=>[]) (fun k=>k≤l.length∧∀j x,j<k→l[j]? =some x→p x=false) (fun k=>l.length-k) 0 ⟨Nat.zero_le _,fun j x h=>by omega⟩
  ⟨⟨rfl,rfl⟩,⟨rfl,⟨rfl,trivial,MFL_refl hcaps⟩,by show(l.length:Int)=((l.map oDef).length:Int);rw[hlm],rfl,trivial⟩,trivial⟩ ?_
 rintro k ⟨hk,hno⟩
 with_reducible refine wK ?_
 refine IfK.mk (fun h1=>?_) (fun h1=>?_)<;>(try simp only[castN] at h1)<;>with_reducible refine wK ?_
 ·simp only[decide_eq_true_eq] at h1
  have hk':k<l.length:=by omega
  obtain⟨a,ha⟩:∃a,l[k]? =some a:=⟨_,List.getElem?_eq_getElem hk'⟩
  refine IdxK.mk k (eDef a) rfl (def_get ha) ?_;with_reducible refine wK ?_
  refine CallK.lit [] (hf a (List.mem_of_getElem? ha)) cg ⟨⟨rfl,rfl,rfl,trivial⟩,MFL_refl hcaps⟩ rfl rfl ?_;with_reducible refine wK ?_
  refine IfK.mk (fun h2=>?_) (fun h2=>?_)<;>(try simp only[castN] at h2)<;>with_reducible refine wK ?_
  ·(refine eK ?_ ?_<;>with_reducible repeat' (first|exact trivial|(show _∧_;refine aK ?_ ?_)))
   exact idxI_hit ha h2 hno
  ·refine nK ?_;with_reducible refine wK ?_
   refine NextK.mk (k+1) ⟨by omega,fun j x hj hx=>?_⟩ (by omega) ⟨⟨rfl,rfl⟩,⟨rfl,⟨rfl,trivial,MFL_refl hcaps⟩,rfl,by show((k+1:Nat):Int)=(k:Int)+1;omega,trivial⟩,trivial⟩
   rcases Nat.lt_or_ge j k with h6|h6
   ·exact hno j x h6 hx
   ·have:j=k:=by omega
    subst this
    rw[ha] at hx;cases hx;exact h2
 ·(refine eK ?_ ?_<;>with_reducible repeat' (first|exact trivial|(show _∧_;refine aK ?_ ?_)))
  have:k=l.length:=by simp only[decide_eq_false_iff_not] at h1;omega
  exact idxI_none fun j x hx=>hno j x (by have:=(List.getElem?_eq_some_iff.1 hx).1;omega) hx
theorem cfDf_ok (g:Nat)(cg:Callable Tryz.prog g)(caps:List AV)(hcaps:noRefL caps=true)(p:DefM→Bool)(l:List DefM)(hl:l.length≤100000)(hf:∀a,a∈l→FnOK Tryz.prog g [] (eDef a::caps) [] (eBool (p a))):
  FnOK Tryz.prog 208 [] [eDefs l,.clo (.func g) [] caps] [] (eBool (l.any p)):=by
 refine FnOK.startC (rvs:=[.tmp 4]) G G_good Tryz.func208 rfl Tryz.ntmps208 rfl rfl ?_;with_reducible refine wD ?_
 refine CallK.lit [] (ixDf_ok g cg caps hcaps p l hl hf) c247 ⟨rfl,⟨rfl,trivial,MFL_refl hcaps⟩,trivial⟩ rfl rfl ?_;with_reducible refine wK ?_
 (refine eK ?_ ?_<;>with_reducible repeat' (first|exact trivial|(show _∧_;refine aK ?_ ?_)))
 exact any_ix p l
theorem ixTd_ok (g:Nat)(cg:Callable Tryz.prog g)(caps:List AV)(hcaps:noRefL caps=true)(p:TodoM→Bool)(l:List TodoM)(hl:l.length≤100000)(hf:∀a,a∈l→FnOK Tryz.prog g [] (eTodo a::caps) [] (eBool (p a))):
  FnOK Tryz.prog 211 [] [eTodos l,.clo (.func g) [] caps] [] (eInt (idxI p l)):=by
 have hlm:(l.map oTodo).length=l.length:=List.length_map ..
 refine FnOK.startC (rvs:=[.tmp 4]) G G_good Tryz.func211 rfl Tryz.ntmps211 rfl rfl ?_;with_reducible refine wD ?_
 refine LoopK.use G G_good (fun(k:Nat)=>[(0,eTodos l),(1,.clo (.func g) [] caps),(7,eInt l.length),(8,eInt k)]) (fun _=>[]) (fun k=>k≤l.length∧∀j x,j<k→l[j]? =some x→p x=false) (fun k=>l.length-k) 0 ⟨Nat.zero_le _,fun j x h=>by omega⟩
  ⟨⟨rfl,rfl⟩,⟨rfl,⟨rfl,trivial,MFL_refl hcaps⟩,by show(l.length:Int)=((l.map oTodo).length:Int);rw[hlm],rfl,trivial⟩,trivial⟩ ?_
 rintro k ⟨hk,hno⟩
 with_reducible refine wK ?_
 refine IfK.mk (fun h1=>?_) (fun h1=>?_)<;>(try simp only[castN] at h1)<;>with_reducible refine wK ?_
 ·simp only[decide_eq_true_eq] at h1
  have hk':k<l.length:=by omega
  obtain⟨a,ha⟩:∃a,l[k]? =some a:=⟨_,List.getElem?_eq_getElem hk'⟩
  refine IdxK.mk k (eTodo a) rfl (todo_get ha) ?_;with_reducible refine wK ?_
  refine CallK.lit [] (hf a (List.mem_of_getElem? ha)) cg ⟨⟨rfl,rfl,rfl,rfl,rfl,rfl,rfl,rfl,rfl,rfl,trivial⟩,MFL_refl hcaps⟩ rfl rfl ?_;with_reducible refine wK ?_
  refine IfK.mk (fun h2=>?_) (fun h2=>?_)<;>(try simp only[castN] at h2)<;>with_reducible refine wK ?_
  ·(refine eK ?_ ?_<;>with_reducible repeat' (first|exact trivial|(show _∧_;refine aK ?_ ?_)))
   exact idxI_hit ha h2 hno
  ·refine nK ?_;with_reducible refine wK ?_
   refine NextK.mk (k+1) ⟨by omega,fun j x hj hx=>?_⟩ (by omega) ⟨⟨rfl,rfl⟩,⟨rfl,⟨rfl,trivial,MFL_refl hcaps⟩,rfl,by show((k+1:Nat):Int)=(k:Int)+1;omega,trivial⟩,trivial⟩
   rcases Nat.lt_or_ge j k with h6|h6
   ·exact hno j x h6 hx
   ·have:j=k:=by omega
    subst this
    rw[ha] at hx;cases hx;exact h2
 ·(refine eK ?_ ?_<;>with_reducible repeat' (first|exact trivial|(show _∧_;refine aK ?_ ?_)))
  have:k=l.length:=by simp only[decide_eq_false_iff_not] at h1;omega
  exact idxI_none fun j x hx=>hno j x (by have:=(List.getElem?_eq_some_iff.1 hx).1;omega) hx
theorem cfTd_ok (g:Nat)(cg:Callable Tryz.prog g)(caps:List AV)(hcaps:noRefL caps=true)(p:TodoM→Bool)(l:List TodoM)(hl:l.length≤100000)(hf:∀a,a∈l→FnOK Tryz.prog g [] (eTodo a::caps) [] (eBool (p a))):
  FnOK Tryz.prog 147 [] [eTodos l,.clo (.func g) [] caps] [] (eBool (l.any p)):=by
 refine FnOK.startC (rvs:=[.tmp 4]) G G_good Tryz.func147 rfl Tryz.ntmps147 rfl rfl ?_;with_reducible refine wD ?_
 refine CallK.lit [] (ixTd_ok g cg caps hcaps p l hl hf) c211 ⟨rfl,⟨rfl,trivial,MFL_refl hcaps⟩,trivial⟩ rfl rfl ?_;with_reducible refine wK ?_
 (refine eK ?_ ?_<;>with_reducible repeat' (first|exact trivial|(show _∧_;refine aK ?_ ?_)))
 exact any_ix p l
theorem ixTk_ok (g:Nat)(cg:Callable Tryz.prog g)(caps:List AV)(hcaps:noRefL caps=true)(p:TaskM→Bool)(l:List TaskM)(hl:l.length≤100000)(hf:∀a,a∈l→FnOK Tryz.prog g [] (eTask a::caps) [] (eBool (p a))):
  FnOK Tryz.prog 212 [] [eTasks l,.clo (.func g) [] caps] [] (eInt (idxI p l)):=by
 have hlm:(l.map oTask).length=l.length:=List.length_map ..
 refine FnOK.startC (rvs:=[.tmp 4]) G G_good Tryz.func212 rfl Tryz.ntmps212 rfl rfl ?_;with_reducible refine wD ?_
 refine LoopK.use G G_good (fun(k:Nat)=>[(0,eTasks l),(1,.clo (.func g) [] caps),(7,eInt l.length),(8,eInt k)]) (fun _=>[]) (fun k=>k≤l.length∧∀j x,j<k→l[j]? =some x→p x=false) (fun k=>l.length-k) 0 ⟨Nat.zero_le _,fun j x h=>by omega⟩
  ⟨⟨rfl,rfl⟩,⟨rfl,⟨rfl,trivial,MFL_refl hcaps⟩,by show(l.length:Int)=((l.map oTask).length:Int);rw[hlm],rfl,trivial⟩,trivial⟩ ?_
 rintro k ⟨hk,hno⟩
 with_reducible refine wK ?_
 refine IfK.mk (fun h1=>?_) (fun h1=>?_)<;>(try simp only[castN] at h1)<;>with_reducible refine wK ?_
 ·simp only[decide_eq_true_eq] at h1
  have hk':k<l.length:=by omega
  obtain⟨a,ha⟩:∃a,l[k]? =some a:=⟨_,List.getElem?_eq_getElem hk'⟩
  refine IdxK.mk k (eTask a) rfl (task_get ha) ?_;with_reducible refine wK ?_
  refine CallK.lit [] (hf a (List.mem_of_getElem? ha)) cg ⟨⟨rfl,rfl,rfl,trivial⟩,MFL_refl hcaps⟩ rfl rfl ?_;with_reducible refine wK ?_
  refine IfK.mk (fun h2=>?_) (fun h2=>?_)<;>(try simp only[castN] at h2)<;>with_reducible refine wK ?_
  ·(refine eK ?_ ?_<;>with_reducible repeat' (first|exact trivial|(show _∧_;refine aK ?_ ?_)))
   exact idxI_hit ha h2 hno
  ·refine nK ?_;with_reducible refine wK ?_
   refine NextK.mk (k+1) ⟨by omega,fun j x hj hx=>?_⟩ (by omega) ⟨⟨rfl,rfl⟩,⟨rfl,⟨rfl,trivial,MFL_refl hcaps⟩,rfl,by show((k+1:Nat):Int)=(k:Int)+1;omega,trivial⟩,trivial⟩
   rcases Nat.lt_or_ge j k with h6|h6
   ·exact hno j x h6 hx
   ·have:j=k:=by omega
    subst this
    rw[ha] at hx;cases hx;exact h2
 ·(refine eK ?_ ?_<;>with_reducible repeat' (first|exact trivial|(show _∧_;refine aK ?_ ?_)))
  have:k=l.length:=by simp only[decide_eq_false_iff_not] at h1;omega
  exact idxI_none fun j x hx=>hno j x (by have:=(List.getElem?_eq_some_iff.1 hx).1;omega) hx
theorem cfTk_ok (g:Nat)(cg:Callable Tryz.prog g)(caps:List AV)(hcaps:noRefL caps=true)(p:TaskM→Bool)(l:List TaskM)(hl:l.length≤100000)(hf:∀a,a∈l→FnOK Tryz.prog g [] (eTask a::caps) [] (eBool (p a))):
  FnOK Tryz.prog 149 [] [eTasks l,.clo (.func g) [] caps] [] (eBool (l.any p)):=by
 refine FnOK.startC (rvs:=[.tmp 4]) G G_good Tryz.func149 rfl Tryz.ntmps149 rfl rfl ?_;with_reducible refine wD ?_
 refine CallK.lit [] (ixTk_ok g cg caps hcaps p l hl hf) c212 ⟨rfl,⟨rfl,trivial,MFL_refl hcaps⟩,trivial⟩ rfl rfl ?_;with_reducible refine wK ?_
 (refine eK ?_ ?_<;>with_reducible repeat' (first|exact trivial|(show _∧_;refine aK ?_ ?_)))
 exact any_ix p l
theorem ixBu_ok (g:Nat)(cg:Callable Tryz.prog g)(caps:List AV)(hcaps:noRefL caps=true)(p:BuildM→Bool)(l:List BuildM)(hl:l.length≤100000)(hf:∀a,a∈l→FnOK Tryz.prog g [] (eBuild a::caps) [] (eBool (p a))):
  FnOK Tryz.prog 213 [] [eBuilds l,.clo (.func g) [] caps] [] (eInt (idxI p l)):=by
 have hlm:(l.map oBuild).length=l.length:=List.length_map ..
 refine FnOK.startC (rvs:=[.tmp 4]) G G_good Tryz.func213 rfl Tryz.ntmps213 rfl rfl ?_;with_reducible refine wD ?_
 refine LoopK.use G G_good (fun(k:Nat)=>[(0,eBuilds l),(1,.clo (.func g) [] caps),(7,eInt l.length),(8,eInt k)]) (fun _=>[]) (fun k=>k≤l.length∧∀j x,j<k→l[j]? =some x→p x=false) (fun k=>l.length-k) 0 ⟨Nat.zero_le _,fun j x h=>by omega⟩
  ⟨⟨rfl,rfl⟩,⟨rfl,⟨rfl,trivial,MFL_refl hcaps⟩,by show(l.length:Int)=((l.map oBuild).length:Int);rw[hlm],rfl,trivial⟩,trivial⟩ ?_
 rintro k ⟨hk,hno⟩
 with_reducible refine wK ?_
 refine IfK.mk (fun h1=>?_) (fun h1=>?_)<;>(try simp only[castN] at h1)<;>with_reducible refine wK ?_
 ·simp only[decide_eq_true_eq] at h1
  have hk':k<l.length:=by omega
  obtain⟨a,ha⟩:∃a,l[k]? =some a:=⟨_,List.getElem?_eq_getElem hk'⟩
  refine IdxK.mk k (eBuild a) rfl (build_get ha) ?_;with_reducible refine wK ?_
  refine CallK.lit [] (hf a (List.mem_of_getElem? ha)) cg ⟨⟨rfl,rfl,trivial⟩,MFL_refl hcaps⟩ rfl rfl ?_;with_reducible refine wK ?_
  refine IfK.mk (fun h2=>?_) (fun h2=>?_)<;>(try simp only[castN] at h2)<;>with_reducible refine wK ?_
  ·(refine eK ?_ ?_<;>with_reducible repeat' (first|exact trivial|(show _∧_;refine aK ?_ ?_)))
   exact idxI_hit ha h2 hno
  ·refine nK ?_;with_reducible refine wK ?_
   refine NextK.mk (k+1) ⟨by omega,fun j x hj hx=>?_⟩ (by omega) ⟨⟨rfl,rfl⟩,⟨rfl,⟨rfl,trivial,MFL_refl hcaps⟩,rfl,by show((k+1:Nat):Int)=(k:Int)+1;omega,trivial⟩,trivial⟩
   rcases Nat.lt_or_ge j k with h6|h6
   ·exact hno j x h6 hx
   ·have:j=k:=by omega
    subst this
    rw[ha] at hx;cases hx;exact h2
 ·(refine eK ?_ ?_<;>with_reducible repeat' (first|exact trivial|(show _∧_;refine aK ?_ ?_)))
  have:k=l.length:=by simp only[decide_eq_false_iff_not] at h1;omega
  exact idxI_none fun j x hx=>hno j x (by have:=(List.getElem?_eq_some_iff.1 hx).1;omega) hx
theorem cfBu_ok (g:Nat)(cg:Callable Tryz.prog g)(caps:List AV)(hcaps:noRefL caps=true)(p:BuildM→Bool)(l:List BuildM)(hl:l.length≤100000)(hf:∀a,a∈l→FnOK Tryz.prog g [] (eBuild a::caps) [] (eBool (p a))):
  FnOK Tryz.prog 152 [] [eBuilds l,.clo (.func g) [] caps] [] (eBool (l.any p)):=by
 refine FnOK.startC (rvs:=[.tmp 4]) G G_good Tryz.func152 rfl Tryz.ntmps152 rfl rfl ?_;with_reducible refine wD ?_
 refine CallK.lit [] (ixBu_ok g cg caps hcaps p l hl hf) c213 ⟨rfl,⟨rfl,trivial,MFL_refl hcaps⟩,trivial⟩ rfl rfl ?_;with_reducible refine wK ?_
 (refine eK ?_ ?_<;>with_reducible repeat' (first|exact trivial|(show _∧_;refine aK ?_ ?_)))
 exact any_ix p l
theorem ixDu_ok (g:Nat)(cg:Callable Tryz.prog g)(caps:List AV)(hcaps:noRefL caps=true)(p:DueN→Bool)(l:List DueN)(hl:l.length≤100000)(hf:∀a,a∈l→FnOK Tryz.prog g [] (eDueN a::caps) [] (eBool (p a))):
  FnOK Tryz.prog 163 [] [eDuesN l,.clo (.func g) [] caps] [] (eInt (idxI p l)):=by
 have hlm:(l.map oDueN).length=l.length:=List.length_map ..
 refine FnOK.startC (rvs:=[.tmp 4]) G G_good Tryz.func163 rfl Tryz.ntmps163 rfl rfl ?_;with_reducible refine wD ?_
 refine LoopK.use G G_good (fun(k:Nat)=>[(0,eDuesN l),(1,.clo (.func g) [] caps),(7,eInt l.length),(8,eInt k)]) (fun _=>[]) (fun k=>k≤l.length∧∀j x,j<k→l[j]? =some x→p x=false) (fun k=>l.length-k) 0 ⟨Nat.zero_le _,fun j x h=>by omega⟩
  ⟨⟨rfl,rfl⟩,⟨rfl,⟨rfl,trivial,MFL_refl hcaps⟩,by show(l.length:Int)=((l.map oDueN).length:Int);rw[hlm],rfl,trivial⟩,trivial⟩ ?_
 rintro k ⟨hk,hno⟩
 with_reducible refine wK ?_
 refine IfK.mk (fun h1=>?_) (fun h1=>?_)<;>(try simp only[castN] at h1)<;>with_reducible refine wK ?_
 ·simp only[decide_eq_true_eq] at h1
  have hk':k<l.length:=by omega
  obtain⟨a,ha⟩:∃a,l[k]? =some a:=⟨_,List.getElem?_eq_getElem hk'⟩
  refine IdxK.mk k (eDueN a) rfl (dueN_get ha) ?_;with_reducible refine wK ?_
  refine CallK.lit [] (hf a (List.mem_of_getElem? ha)) cg ⟨⟨rfl,rfl,rfl,rfl,rfl,rfl,rfl,rfl,rfl,rfl,rfl,trivial⟩,MFL_refl hcaps⟩ rfl rfl ?_;with_reducible refine wK ?_
  refine IfK.mk (fun h2=>?_) (fun h2=>?_)<;>(try simp only[castN] at h2)<;>with_reducible refine wK ?_
  ·(refine eK ?_ ?_<;>with_reducible repeat' (first|exact trivial|(show _∧_;refine aK ?_ ?_)))
   exact idxI_hit ha h2 hno
  ·refine nK ?_;with_reducible refine wK ?_
   refine NextK.mk (k+1) ⟨by omega,fun j x hj hx=>?_⟩ (by omega) ⟨⟨rfl,rfl⟩,⟨rfl,⟨rfl,trivial,MFL_refl hcaps⟩,rfl,by show((k+1:Nat):Int)=(k:Int)+1;omega,trivial⟩,trivial⟩
   rcases Nat.lt_or_ge j k with h6|h6
   ·exact hno j x h6 hx
   ·have:j=k:=by omega
    subst this
    rw[ha] at hx;cases hx;exact h2
 ·(refine eK ?_ ?_<;>with_reducible repeat' (first|exact trivial|(show _∧_;refine aK ?_ ?_)))
  have:k=l.length:=by simp only[decide_eq_false_iff_not] at h1;omega
  exact idxI_none fun j x hx=>hno j x (by have:=(List.getElem?_eq_some_iff.1 hx).1;omega) hx
theorem cfDu_ok (g:Nat)(cg:Callable Tryz.prog g)(caps:List AV)(hcaps:noRefL caps=true)(p:DueN→Bool)(l:List DueN)(hl:l.length≤100000)(hf:∀a,a∈l→FnOK Tryz.prog g [] (eDueN a::caps) [] (eBool (p a))):
  FnOK Tryz.prog 97 [] [eDuesN l,.clo (.func g) [] caps] [] (eBool (l.any p)):=by
 refine FnOK.startC (rvs:=[.tmp 4]) G G_good Tryz.func97 rfl Tryz.ntmps97 rfl rfl ?_;with_reducible refine wD ?_
 refine CallK.lit [] (ixDu_ok g cg caps hcaps p l hl hf) c163 ⟨rfl,⟨rfl,trivial,MFL_refl hcaps⟩,trivial⟩ rfl rfl ?_;with_reducible refine wK ?_
 (refine eK ?_ ?_<;>with_reducible repeat' (first|exact trivial|(show _∧_;refine aK ?_ ?_)))
 exact any_ix p l
theorem one_todos (l:List TodoM):oneL (flat (l.map oTodo))=true:=oneL_map oTodo (fun _=>rfl) l
@[reducible] def mTodos (l : List TodoM) : MS := .live 10 (l.map oTodo) false
theorem outs_todos (l:List TodoM):okOuts [mTodos l]:=⟨Wide.of_mem fun r hr=>by
 obtain⟨a,_,rfl⟩:=List.mem_map.1 hr
 rfl,noRef_todos1 l,trivial⟩
theorem frz_todos {m:ML}{fz:Nat→Bool}{tab:List (Nat×Nat)}{n t len:Nat}{ro:Bool}{rows:List AV}{l:List TodoM}(h1:lkM m t=.live 10 rows ro)(h2:fz t=true)(h3:rows=l.map oTodo)(h4:len=l.length):FrzK m fz (MF tab fz m n) (eTodos l) t 0 len:=by
 subst h3;subst h4
 have e:(l.map oTodo).length=l.length:=List.length_map ..
 exact .cut h1 h2 (by omega) (by rw[List.drop_zero,List.take_of_length_le (by omega)]) (noRef_todos1 l)
theorem cltodos_ok (l:List TodoM)(hl:l.length≤100000):FnOK Tryz.prog 218 [] [eTodos l] [mTodos l] (.own 0 0 l.length):=by
 have hlm:(l.map oTodo).length=l.length:=List.length_map ..
 refine FnOK.startC (rvs:=[.tmp 2]) G G_good Tryz.func218 rfl Tryz.ntmps218 rfl rfl ?_;with_reducible refine wD ?_
 refine GuessK.mk (fun h=>?_) (fun _=>?_)<;>with_reducible refine wK ?_
 ·obtain rfl:l=[]:=by simpa using h
  (refine eK ?_ ?_<;>with_reducible repeat' (first|exact trivial|(show _∧_;refine aK ?_ ?_)))
  all_goals first|rfl|trivial
 ·refine AppK.mk [] (l.map oTodo) ⟨rfl,rfl,rfl⟩ ⟨rfl,rfl,rfl⟩ (one_todos l) (by simp;omega) (by simp;omega) ?_;with_reducible refine wK ?_
  (refine eK ?_ ?_<;>with_reducible repeat' (first|exact trivial|(show _∧_;refine aK ?_ ?_)))
  ·exact hlm.symm
  ·exact MFL_refl (noRef_todos1 l)
theorem one_todoss (l:List (List TodoM)):oneL (flat (l.map oTodos))=true:=oneL_map oTodos (fun _=>rfl) l
@[reducible] def mTodoss (l : List (List TodoM)) : MS := .live 1 (l.map oTodos) false
theorem outs_todoss (l:List (List TodoM)):okOuts [mTodoss l]:=⟨Wide.of_mem fun r hr=>by
 obtain⟨a,_,rfl⟩:=List.mem_map.1 hr
 rfl,noRef_todos2 l,trivial⟩
theorem cltodoss_ok (l:List (List TodoM))(hl:l.length≤100000):FnOK Tryz.prog 216 [] [eTodoss l] [mTodoss l] (.own 0 0 l.length):=by
 have hlm:(l.map oTodos).length=l.length:=List.length_map ..
 refine FnOK.startC (rvs:=[.tmp 2]) G G_good Tryz.func216 rfl Tryz.ntmps216 rfl rfl ?_;with_reducible refine wD ?_
 refine GuessK.mk (fun h=>?_) (fun _=>?_)<;>with_reducible refine wK ?_
 ·obtain rfl:l=[]:=by simpa using h
  (refine eK ?_ ?_<;>with_reducible repeat' (first|exact trivial|(show _∧_;refine aK ?_ ?_)))
  all_goals first|rfl|trivial
 ·refine AppK.mk [] (l.map oTodos) ⟨rfl,rfl,rfl⟩ ⟨rfl,rfl,rfl⟩ (one_todoss l) (by simp;omega) (by simp;omega) ?_;with_reducible refine wK ?_
  (refine eK ?_ ?_<;>with_reducible repeat' (first|exact trivial|(show _∧_;refine aK ?_ ?_)))
  ·exact hlm.symm
  ·exact MFL_refl (noRef_todos2 l)
theorem one_intss (l:List (List Int)):oneL (flat (l.map oInts))=true:=oneL_map oInts (fun _=>rfl) l
@[reducible] def mIntss (l : List (List Int)) : MS := .live 1 (l.map oInts) false
theorem outs_intss (l:List (List Int)):okOuts [mIntss l]:=⟨Wide.of_mem fun r hr=>by
 obtain⟨a,_,rfl⟩:=List.mem_map.1 hr
 rfl,noRef_stack l,trivial⟩
theorem frz_intss {m:ML}{fz:Nat→Bool}{tab:List (Nat×Nat)}{n t len:Nat}{ro:Bool}{rows:List AV}{l:List (List Int)}(h1:lkM m t=.live 1 rows ro)(h2:fz t=true)(h3:rows=l.map oInts)(h4:len=l.length):FrzK m fz (MF tab fz m n) (eIntss l) t 0 len:=by
 subst h3;subst h4
 have e:(l.map oInts).length=l.length:=List.length_map ..
 exact .cut h1 h2 (by omega) (by rw[List.drop_zero,List.take_of_length_le (by omega)]) (noRef_stack l)
theorem clintss_ok (l:List (List Int))(hl:l.length≤100000):FnOK Tryz.prog 209 [] [eIntss l] [mIntss l] (.own 0 0 l.length):=by
 have hlm:(l.map oInts).length=l.length:=List.length_map ..
 refine FnOK.startC (rvs:=[.tmp 2]) G G_good Tryz.func209 rfl Tryz.ntmps209 rfl rfl ?_;with_reducible refine wD ?_
 refine GuessK.mk (fun h=>?_) (fun _=>?_)<;>with_reducible refine wK ?_
 ·obtain rfl:l=[]:=by simpa using h
  (refine eK ?_ ?_<;>with_reducible repeat' (first|exact trivial|(show _∧_;refine aK ?_ ?_)))
  all_goals first|rfl|trivial
 ·refine AppK.mk [] (l.map oInts) ⟨rfl,rfl,rfl⟩ ⟨rfl,rfl,rfl⟩ (one_intss l) (by simp;omega) (by simp;omega) ?_;with_reducible refine wK ?_
  (refine eK ?_ ?_<;>with_reducible repeat' (first|exact trivial|(show _∧_;refine aK ?_ ?_)))
  ·exact hlm.symm
  ·exact MFL_refl (noRef_stack l)
theorem one_tasks (l:List TaskM):oneL (flat (l.map oTask))=true:=oneL_map oTask (fun _=>rfl) l
@[reducible] def mTasks (l : List TaskM) : MS := .live 3 (l.map oTask) false
theorem outs_tasks (l:List TaskM):okOuts [mTasks l]:=⟨Wide.of_mem fun r hr=>by
 obtain⟨a,_,rfl⟩:=List.mem_map.1 hr
 rfl,noRef_tasks l,trivial⟩
theorem frz_tasks {m:ML}{fz:Nat→Bool}{tab:List (Nat×Nat)}{n t len:Nat}{ro:Bool}{rows:List AV}{l:List TaskM}(h1:lkM m t=.live 3 rows ro)(h2:fz t=true)(h3:rows=l.map oTask)(h4:len=l.length):FrzK m fz (MF tab fz m n) (eTasks l) t 0 len:=by
 subst h3;subst h4
 have e:(l.map oTask).length=l.length:=List.length_map ..
 exact .cut h1 h2 (by omega) (by rw[List.drop_zero,List.take_of_length_le (by omega)]) (noRef_tasks l)
theorem cltasks_ok (l:List TaskM)(hl:l.length≤100000):FnOK Tryz.prog 164 [] [eTasks l] [mTasks l] (.own 0 0 l.length):=by
 have hlm:(l.map oTask).length=l.length:=List.length_map ..
 refine FnOK.startC (rvs:=[.tmp 2]) G G_good Tryz.func164 rfl Tryz.ntmps164 rfl rfl ?_;with_reducible refine wD ?_
 refine GuessK.mk (fun h=>?_) (fun _=>?_)<;>with_reducible refine wK ?_
 ·obtain rfl:l=[]:=by simpa using h
  (refine eK ?_ ?_<;>with_reducible repeat' (first|exact trivial|(show _∧_;refine aK ?_ ?_)))
  all_goals first|rfl|trivial
 ·refine AppK.mk [] (l.map oTask) ⟨rfl,rfl,rfl⟩ ⟨rfl,rfl,rfl⟩ (one_tasks l) (by simp;omega) (by simp;omega) ?_;with_reducible refine wK ?_
  (refine eK ?_ ?_<;>with_reducible repeat' (first|exact trivial|(show _∧_;refine aK ?_ ?_)))
  ·exact hlm.symm
  ·exact MFL_refl (noRef_tasks l)
theorem one_builds (l:List BuildM):oneL (flat (l.map oBuild))=true:=oneL_map oBuild (fun _=>rfl) l
@[reducible] def mBuilds (l : List BuildM) : MS := .live 2 (l.map oBuild) false
theorem outs_builds (l:List BuildM):okOuts [mBuilds l]:=⟨Wide.of_mem fun r hr=>by
 obtain⟨a,_,rfl⟩:=List.mem_map.1 hr
 rfl,noRef_builds l,trivial⟩
theorem frz_builds {m:ML}{fz:Nat→Bool}{tab:List (Nat×Nat)}{n t len:Nat}{ro:Bool}{rows:List AV}{l:List BuildM}(h1:lkM m t=.live 2 rows ro)(h2:fz t=true)(h3:rows=l.map oBuild)(h4:len=l.length):FrzK m fz (MF tab fz m n) (eBuilds l) t 0 len:=by
 subst h3;subst h4
 have e:(l.map oBuild).length=l.length:=List.length_map ..
 exact .cut h1 h2 (by omega) (by rw[List.drop_zero,List.take_of_length_le (by omega)]) (noRef_builds l)
theorem clbuilds_ok (l:List BuildM)(hl:l.length≤100000):FnOK Tryz.prog 114 [] [eBuilds l] [mBuilds l] (.own 0 0 l.length):=by
 have hlm:(l.map oBuild).length=l.length:=List.length_map ..
 refine FnOK.startC (rvs:=[.tmp 2]) G G_good Tryz.func114 rfl Tryz.ntmps114 rfl rfl ?_;with_reducible refine wD ?_
 refine GuessK.mk (fun h=>?_) (fun _=>?_)<;>with_reducible refine wK ?_
 ·obtain rfl:l=[]:=by simpa using h
  (refine eK ?_ ?_<;>with_reducible repeat' (first|exact trivial|(show _∧_;refine aK ?_ ?_)))
  all_goals first|rfl|trivial
 ·refine AppK.mk [] (l.map oBuild) ⟨rfl,rfl,rfl⟩ ⟨rfl,rfl,rfl⟩ (one_builds l) (by simp;omega) (by simp;omega) ?_;with_reducible refine wK ?_
  (refine eK ?_ ?_<;>with_reducible repeat' (first|exact trivial|(show _∧_;refine aK ?_ ?_)))
  ·exact hlm.symm
  ·exact MFL_refl (noRef_builds l)
theorem one_classes (l:List ClassM):oneL (flat (l.map oClass))=true:=oneL_map oClass (fun _=>rfl) l
@[reducible] def mClasses (l : List ClassM) : MS := .live 5 (l.map oClass) false
theorem outs_classes (l:List ClassM):okOuts [mClasses l]:=⟨Wide.of_mem fun r hr=>by
 obtain⟨a,_,rfl⟩:=List.mem_map.1 hr
 rfl,noRef_classes l,trivial⟩
theorem frz_classes {m:ML}{fz:Nat→Bool}{tab:List (Nat×Nat)}{n t len:Nat}{ro:Bool}{rows:List AV}{l:List ClassM}(h1:lkM m t=.live 5 rows ro)(h2:fz t=true)(h3:rows=l.map oClass)(h4:len=l.length):FrzK m fz (MF tab fz m n) (eClasses l) t 0 len:=by
 subst h3;subst h4
 have e:(l.map oClass).length=l.length:=List.length_map ..
 exact .cut h1 h2 (by omega) (by rw[List.drop_zero,List.take_of_length_le (by omega)]) (noRef_classes l)
theorem clclasses_ok (l:List ClassM)(hl:l.length≤100000):FnOK Tryz.prog 91 [] [eClasses l] [mClasses l] (.own 0 0 l.length):=by
 have hlm:(l.map oClass).length=l.length:=List.length_map ..
 refine FnOK.startC (rvs:=[.tmp 2]) G G_good Tryz.func91 rfl Tryz.ntmps91 rfl rfl ?_;with_reducible refine wD ?_
 refine GuessK.mk (fun h=>?_) (fun _=>?_)<;>with_reducible refine wK ?_
 ·obtain rfl:l=[]:=by simpa using h
  (refine eK ?_ ?_<;>with_reducible repeat' (first|exact trivial|(show _∧_;refine aK ?_ ?_)))
  all_goals first|rfl|trivial
 ·refine AppK.mk [] (l.map oClass) ⟨rfl,rfl,rfl⟩ ⟨rfl,rfl,rfl⟩ (one_classes l) (by simp;omega) (by simp;omega) ?_;with_reducible refine wK ?_
  (refine eK ?_ ?_<;>with_reducible repeat' (first|exact trivial|(show _∧_;refine aK ?_ ?_)))
  ·exact hlm.symm
  ·exact MFL_refl (noRef_classes l)
@[reducible] def mLn (l : LineM) : MS := .live 4 [eLine l] false
theorem outs_ints (l:List Int):okOuts [rInts l]:=⟨Wide.of_mem fun r hr=>by
 obtain⟨a,_,rfl⟩:=List.mem_map.1 hr
 rfl,noRef_ints l,trivial⟩
theorem clints_ok (l:List Int)(hl:l.length≤100000):FnOK Tryz.prog 217 [] [eInts l] [rInts l] (.own 0 0 l.length):=by
 have hlm:(l.map oInt).length=l.length:=List.length_map ..
 refine FnOK.startC (rvs:=[.tmp 2]) G G_good Tryz.func217 rfl Tryz.ntmps217 rfl rfl ?_;with_reducible refine wD ?_
 refine GuessK.mk (fun h=>?_) (fun _=>?_)<;>with_reducible refine wK ?_
 ·obtain rfl:l=[]:=by simpa using h
  (refine eK ?_ ?_<;>with_reducible repeat' (first|exact trivial|(show _∧_;refine aK ?_ ?_)))
  all_goals first|rfl|trivial
 ·refine AppK.mk [] (l.map oInt) ⟨rfl,rfl,rfl⟩ ⟨rfl,rfl,rfl⟩ (oneL_map oInt (fun _=>rfl) l) (by simp;omega) (by simp;omega) ?_;with_reducible refine wK ?_
  (refine eK ?_ ?_<;>with_reducible repeat' (first|exact trivial|(show _∧_;refine aK ?_ ?_)))
  ·exact hlm.symm
  ·exact MFL_refl (noRef_ints l)
theorem lnOwn_ok (l:LineM)(h1:l.todos.length≤100000)(h2:l.stack.length≤100000)(h3:l.back.length≤100000):FnOK Tryz.prog 159 [] [eLine l] [mTodoss l.todos,mIntss l.stack,rInts l.back] (.agg [.own 0 0 l.todos.length,.own 1 0 l.stack.length,.own 2 0 l.back.length,eBool l.busy]):=by
 have a1:=cltodoss_ok l.todos h1
 have a2:=clintss_ok l.stack h2
 have a3:=clints_ok l.back h3
 obtain⟨a,b,c,d⟩:=l
 simp only at a1 a2 a3 ⊢
 refine FnOK.startC (rvs:=[.cell 2 34]) G G_good Tryz.func159 rfl Tryz.ntmps159 rfl rfl ?_;with_reducible refine wD ?_
 repeat' (first
  |refine gK ?_|refine aE ?_ ?_
  | ((first
   |((with_reducible refine kQ 216 ?_);refine CallK.new 51 [] a1 c216 ⟨rfl,trivial⟩ rfl rfl rfl (outs_todoss _) rfl ?_)
   |((with_reducible refine kQ 209 ?_);refine CallK.new 81 [] a2 c209 ⟨rfl,trivial⟩ rfl rfl rfl (outs_intss _) rfl ?_)
   |((with_reducible refine kQ 217 ?_);refine CallK.new 111 [] a3 c217 ⟨rfl,trivial⟩ rfl rfl rfl (outs_ints _) rfl ?_))<;>with_reducible refine wK ?_)
  |apply trivial)
 all_goals first
  |exact⟨.refl (noRef_todos2 _),noRef_todos2 _⟩
  |exact⟨.refl (noRef_stack _),noRef_stack _⟩
  |exact⟨.refl (noRef_ints _),noRef_ints _⟩
  |exact MFL_refl (noRef_todos2 _)
  |exact MFL_refl (noRef_stack _)
  |exact MFL_refl (noRef_ints _)
theorem lnIn_ok (l:LineM)(n:Int):FnOK Tryz.prog 210 [] [eLine l,eInt n] [] (eBool (inLn l n)):=by
 have hlm:=(show(l.todos.map oTodos).length=l.todos.length from List.length_map ..)
 unfold inLn
 obtain⟨a,b,c,d⟩:=l
 simp only at hlm
 by_cases h1:0≤n
 ·refine FnOK.startC (rvs:=[.tmp 4]) G G_good Tryz.func210 rfl Tryz.ntmps210 rfl rfl ?_;with_reducible refine wD ?_
  (have fct:=And.intro (eq_true h1) (hlm);(repeat' (first
  |refine gF ?_|refine aE ?_ ?_
  |apply trivial));all_goals clear fct)
  all_goals first|(simp[h1,hlm];done)
 ·refine FnOK.startC (rvs:=[.tmp 4]) G G_good Tryz.func210 rfl Tryz.ntmps210 rfl rfl ?_;with_reducible refine wD ?_
  (have fct:=And.intro (eq_false h1) (hlm);(repeat' (first
  |refine gF ?_|refine aE ?_ ?_
  |apply trivial));all_goals clear fct)
  all_goals first|(simp[h1];done)
theorem lnR_false {l:LineM}{k j:Nat}{s:List Int}{n:Int}(h:(l.stack++ [l.back])[k]? =some s)(h2:s[j]? =some n)(h3:inLn l n=false):lnR l=false:=by
 rw[Bool.eq_false_iff]
 intro h0
 unfold lnR at h0
 rw[Bool.and_eq_true,List.all_eq_true,List.all_eq_true] at h0
 have hm:=List.mem_of_getElem? h
 have hn:=List.mem_of_getElem? h2
 rcases List.mem_append.1 hm with e|e
 ·have:=List.all_eq_true.1 (h0.1 s e) n hn
  rw[h3] at this;cases this
 ·rw[List.mem_singleton.1 e] at hn
  have:=h0.2 n hn
  rw[h3] at this;cases this
theorem lnR_true {l:LineM}(h:∀ (k:Nat) s,(l.stack++ [l.back])[k]? =some s→∀ (j:Nat) n,s[j]? =some n→inLn l n=true):lnR l=true:=by
 unfold lnR
 rw[Bool.and_eq_true,List.all_eq_true,List.all_eq_true]
 constructor
 ·intro s hs
  rw[List.all_eq_true]
  intro n hn
  obtain⟨k,hk⟩:=List.getElem?_of_mem (List.mem_append_left [l.back] hs)
  obtain⟨j,hj⟩:=List.getElem?_of_mem hn
  exact h k s hk j n hj
 ·intro n hn
  obtain⟨k,hk⟩:=List.getElem?_of_mem (List.mem_append_right l.stack (List.mem_singleton.2 (rfl:l.back=l.back)))
  obtain⟨j,hj⟩:=List.getElem?_of_mem hn
  exact h k _ hk j n hj
theorem lnRight_ok (l:LineM)(hs:SmL 99000 l):FnOK Tryz.prog 145 [] [eLine l] [] (eBool (lnR l)):=by
 have a2:=clintss_ok l.stack (by have:=hs.stack;omega)
 have hin:=fun n=>lnIn_ok l n
 have hlen:=hs.stack
 obtain⟨L,hL⟩:∃L,l.stack++ [l.back]=L:=⟨_,rfl⟩
 have hno:∀ {k j:Nat} {s:List Int} {n:Int},L[k]? =some s→s[j]? =some n→inLn l n=false→lnR l=false:=fun h=>by rw[←hL] at h;exact lnR_false h
 have hyes:(∀ (k:Nat) s,L[k]? =some s→∀ (j:Nat) n,s[j]? =some n→inLn l n=true)→lnR l=true:=fun h=>by rw[←hL] at h;exact lnR_true h
 have hsm:∀s∈L,s.length≤99000:=fun s h=>by
  rw[←hL] at h
  rcases List.mem_append.1 h with e|e
  ·exact hs.list s e
  ·rw[List.mem_singleton.1 e];exact hs.back
 have hLn:L.length=l.stack.length+1:=by rw[←hL];simp
 generalize lnR l=res at hno hyes
 obtain⟨a,b,c,d⟩:=l
 simp only at a2 hlen hL hLn
 have hbm:(b.map oInts).length=b.length:=List.length_map ..
 have hLm:(L.map oInts).length=L.length:=List.length_map ..
 have hmap:b.map oInts++ [eInts c]=L.map oInts:=by rw[←hL,List.map_append];rfl
 refine FnOK.startC (rvs:=[.tmp 2]) G G_good Tryz.func145 rfl Tryz.ntmps145 rfl rfl ?_;with_reducible refine wD ?_
 repeat' (first
  |refine gK ?_|refine aE ?_ ?_
  | ((first
   |((with_reducible refine kQ 209 ?_);refine CallK.new 91 [] a2 c209 ⟨rfl,trivial⟩ rfl rfl rfl (outs_intss _) rfl ?_)
   |((with_reducible show AppK _ _ _ _ _ _ _ _ _ _);refine AppK.mk (b.map oInts) [eInts c] ⟨rfl,hbm.symm,rfl⟩ ⟨rfl,rfl,rfl⟩ rfl (by simp;omega) (by simp;omega) ?_))<;>with_reducible refine wK ?_)
  |apply trivial)
 rw[hmap]
 refine LoopK.use G G_good (fun(k:Nat)=>[(1,.ptr 10 0 0),(13,eIntss L),(14,eInt L.length),(15,eInt k)]) (fun _=>[(10,mLn ⟨a,b,c,d⟩)])
  (fun k=>k≤L.length∧∀ (i:Nat) s,i<k→L[i]? =some s→∀ (j:Nat) n,s[j]? =some n→inLn ⟨a,b,c,d⟩ n=true) (fun k=>L.length-k) 0 ⟨Nat.zero_le _,fun i s h=>by omega⟩ ?_ ?_
 ·(refine fK ?_;(with_reducible repeat' (first|exact trivial|(show _∧_;refine aK ?_ ?_)));(all_goals try rfl))
  all_goals first
   |(show(L.length:Int)=_;rw[hLn];rfl)
   |exact frz_intss rfl rfl rfl hLm
   |rw[hLm,hLn]
   |rw[hLm]
 rintro k ⟨hk,hok⟩
 with_reducible refine wK ?_
 refine IfK.mk (fun h1=>?_) (fun h1=>?_)<;>(try simp only[castN] at h1)<;>with_reducible refine wK ?_
 ·have hk':k<L.length:=by simp only[decide_eq_true_eq] at h1;omega
  obtain⟨s,hx⟩:∃x,L[k]? =some x:=⟨_,List.getElem?_eq_getElem hk'⟩
  have hsl:=hsm s (List.mem_of_getElem? hx)
  have hsml:(s.map oInt).length=s.length:=List.length_map ..
  refine IdxK.mk k (eInts s) rfl (ints_get hx) ?_;with_reducible refine wK ?_
  refine LoopK.use G G_good (fun(j:Nat)=>[(1,.ptr 10 0 0),(13,eIntss L),(14,eInt L.length),(15,eInt k),(19,eInts s),(20,eInt s.length),(21,eInt j)]) (fun _=>[(10,mLn ⟨a,b,c,d⟩)])
   (fun j=>j≤s.length∧∀ (i:Nat) n,i<j→s[i]? =some n→inLn ⟨a,b,c,d⟩ n=true) (fun j=>s.length-j) 0 ⟨Nat.zero_le _,fun i n h=>by omega⟩ ?_ ?_
  ·(refine fK ?_;(with_reducible repeat' (first|exact trivial|(show _∧_;refine aK ?_ ?_)));(all_goals try rfl))
   all_goals first|(show(s.length:Int)=_;rw[hsml])
  rintro j ⟨hj,hoj⟩
  with_reducible refine wK ?_
  refine IfK.mk (fun h2=>?_) (fun h2=>?_)<;>(try simp only[castN] at h2)<;>with_reducible refine wK ?_
  ·have hj':j<s.length:=by simp only[decide_eq_true_eq] at h2;omega
   obtain⟨n,hn⟩:∃x,s[j]? =some x:=⟨_,List.getElem?_eq_getElem hj'⟩
   have hin:=hin n
   refine IdxK.mk j (eInt n) rfl (int_get hn) ?_;with_reducible refine wK ?_
   cases e:inLn ⟨a,b,c,d⟩ n with
   | false=>
     rw[e] at hin
     have hr:=hno hx hn e
     repeat' (first
  |refine gK ?_|refine aE ?_ ?_
  |(((with_reducible refine kQ 210 ?_);refine cL hin c210 ?_)<;>with_reducible refine wK ?_)
  | apply trivial)
     all_goals first|exact hr.symm|exact hr
   | true=>
     rw[e] at hin
     have hnx:∀ (i:Nat) m,i<j+1→s[i]? =some m→inLn ⟨a,b,c,d⟩ m=true:=fun i m hi hm=>by
      rcases Nat.lt_or_ge i j with h6|h6
      ·exact hoj i m h6 hm
      ·have:i=j:=by omega
       subst this
       rw[hn] at hm;cases hm;exact e
     repeat' (first
  |refine gK ?_|refine aE ?_ ?_
  |(((with_reducible refine kQ 210 ?_);refine cL hin c210 ?_)<;>with_reducible refine wK ?_)
  |apply trivial)
     refine NextK.mk (j+1) ⟨by omega,hnx⟩ (by omega) ?_
     (refine fK ?_;(with_reducible repeat' (first|exact trivial|(show _∧_;refine aK ?_ ?_)));(all_goals try rfl))
     all_goals first|(simp;done)
  ·have hjl:j=s.length:=by simp only[decide_eq_false_iff_not] at h2;omega
   have hnx:∀ (i:Nat) t,i<k+1→L[i]? =some t→∀ (j:Nat) n,t[j]? =some n→inLn ⟨a,b,c,d⟩ n=true:=fun i t hi ht q n hq=>by
    rcases Nat.lt_or_ge i k with h6|h6
    ·exact hok i t h6 ht q n hq
    ·have:i=k:=by omega
     subst this
     rw[hx] at ht;cases ht
     exact hoj q n (by have:=(List.getElem?_eq_some_iff.1 hq).1;omega) hq
   repeat' (first
  |refine gK ?_|refine aE ?_ ?_
  | apply trivial)
   refine NextK.mk (k+1) ⟨by omega,hnx⟩ (by omega) ?_
   (refine fK ?_;(with_reducible repeat' (first|exact trivial|(show _∧_;refine aK ?_ ?_)));(all_goals try rfl))
   all_goals first|(simp;done)
 ·have hkl:k=L.length:=by simp only[decide_eq_false_iff_not] at h1;omega
  have hr:=hyes fun i s hs j n hn=>hok i s (by have:=(List.getElem?_eq_some_iff.1 hs).1;omega) hs j n hn
  repeat' (first
  |refine gK ?_|refine aE ?_ ?_
  |apply trivial)
  all_goals first|exact hr.symm|exact hr
theorem frz_snoc {α:Type}(o:α→AV){wd:Nat}{m:ML}{fz:Nat→Bool}{tab:List (Nat×Nat)}{n t L:Nat}{ro:Bool}{rows:List AV}{l:List α}{y:α}{z:AV}(h1:lkM m t=.live wd rows ro)(h2:fz t=true)(h3:rows=l.map o++ [z])(h4:L=l.length+1)(hn:∀l:List α,noRefL (l.map o)=true)(h6:MF tab fz m n (o y) z):FrzK m fz (MF tab fz m n) (.sl wd ((l++ [y]).map o)) t 0 L:=by
 subst h3;subst h4
 have e:(l.map o++ [z]).length=l.length+1:=by simp
 refine⟨wd,_,ro,_,h1,h2,rfl,by omega,hn _,?_,?_⟩
 ·rw[List.drop_zero,List.take_of_length_le (by omega)];simp
 ·intro i x w hx hw
  rw[List.drop_zero,List.take_of_length_le (by omega)] at hw
  rw[List.map_append] at hx
  by_cases hi:i<l.length
  ·rw[List.getElem?_append_left (by simpa using hi)] at hx hw
   rw[hx] at hw;cases hw
   exact MF_refl n x (noRefL_iff.1 (hn l) _ (List.mem_of_getElem? hx))
  ·have hi2:=(List.getElem?_eq_some_iff.1 hw).1
   obtain rfl:i=l.length:=by omega
   rw[List.getElem?_append_right (by simp),List.length_map,Nat.sub_self] at hx hw
   cases hx;cases hw
   exact h6
theorem lnGrow_ok (l:LineM)(hs:SmL 99000 l):FnOK Tryz.prog 90 [] [eLine l] [] (eLine (lnGrow l)):=by
 have a1:=lnOwn_ok l (by have:=hs.todos;omega) (by have:=hs.stack;omega) (by have:=hs.back;omega)
 have hl:=hs.todos
 unfold lnGrow
 obtain⟨a,b,c,d⟩:=l
 simp only at a1 hl
 have ham:(a.map oTodos).length=a.length:=List.length_map ..
 refine FnOK.startC (rvs:=[.cell 2 34]) G G_good Tryz.func90 rfl Tryz.ntmps90 rfl rfl ?_;with_reducible refine wD ?_
 refine CallK.lend (news:=[mTodoss a,mIntss b,rInts c]) [41,42,43] [] a1 c159 ⟨⟨rfl,rfl,rfl,rfl,trivial⟩,trivial⟩ trivial rfl ⟨⟨rfl,rfl⟩,rfl⟩ rfl ⟨⟨rfl,.inl ⟨rfl,noRef_todos2 _⟩⟩,⟨rfl,.inl ⟨rfl,noRef_stack _⟩⟩,⟨rfl,.inl ⟨rfl,noRef_ints _⟩⟩,trivial⟩ rfl rfl ?_
 with_reducible refine wK ?_
 repeat' (first
  |refine gK ?_|refine aE ?_ ?_
  |(((with_reducible show AppK _ _ _ _ _ _ _ _ _ _);refine AppK.mk (a.map oTodos) [.lit (.slice none 0 0)] ⟨rfl,ham.symm,rfl⟩ ⟨rfl,rfl,rfl⟩ rfl (by simp;omega) (by simp;omega) ?_)<;>with_reducible refine wK ?_)
  |apply trivial)
 all_goals first
  |exact frz_snoc oTodos (y:=[]) rfl rfl rfl (by simp) noRef_todos2 (show NilK _ from .inr (.inr ⟨10,rfl⟩))
  |exact frz_intss rfl rfl rfl rfl
  |exact frz_ints rfl rfl rfl rfl





def stateEq (t u:StateM):Bool:=(t.phase==u.phase)&&((t.df==u.df)&&((t.owner==u.owner)&&(t.barred==u.barred)))
theorem stateEq_iff (t u:StateM):stateEq t u=decide (t=u):=by
 rw[Bool.eq_iff_iff,decide_eq_true_eq]
 unfold stateEq
 simp only[Bool.and_eq_true,beq_iff_eq]
 constructor
 ·rintro⟨a,b,c,d⟩
  cases t;cases u
  simp only at*
  subst a;subst b;subst c;subst d;rfl
 ·rintro rfl;simp
@[reducible] def vState (t : StateM) : Value := .agg #[.int .i64 t.phase, .int .i64 t.df, .int .i64 t.owner, .bool t.barred]
theorem state_eq (t u:StateM)(w:World):(Op.equalIn 10000 75 (vState t) (vState u)).run Tryz.prog w=.ok (decide (t=u)) w:=by
 have hS:Tryz.prog.underlying 75=some (.struct (Tryz.prog.fieldsOf 75)):=by kernel_rfl
 have hp:Tryz.prog.stoodInHeld 75=false:=by kernel_rfl
 have u3:=Tryz.underlying3
 have a3:=Tryz.isAgg3
 have z3:=Tryz.sizeOf3
 have u4:=Tryz.underlying4
 have a4:=Tryz.isAgg4
 have z4:=Tryz.sizeOf4
 rw[←stateEq_iff,show(10000:Nat)=9999+1 from rfl,run_equalIn_agg w 9999 75 _ _ hS hp]
 simp only[Program.fieldsOf,Tryz.underlying75]
 go_simp
 clear hS hp u3 a3 z3 u4 a4 z4
 unfold stateEq
 by_cases h1:t.phase=u.phase<;>by_cases h2:t.df=u.df<;>by_cases h3:t.owner=u.owner<;>simp[h1,h2,h3]
 by_cases h4:t.barred=u.barred<;>simp[h4]
theorem state_neq (a b:StateM)(y z:Operand)(w:World):((do eqGuard .neq 75 y z (vState a) (vState b);binOp .neq 75 (vState a) (vState b):Sem Value)).run Tryz.prog w=.ok (.bool (!decide (a=b))) w:=by
 rw[Sem.run_bind,run_eqGuard_agg w .neq 75 y z _ _ (by kernel_rfl),Result.andThen_ok,run_neq_struct,state_eq];rfl
theorem f42_ok (a b:List StateM)(ha:a.length≤100000):FnOK Tryz.prog 42 [] [eStates a,eStates b] [] (eBool (decide (a=b))):=by
 have hlm:(a.map oState).length=a.length:=List.length_map ..
 have hlm':(b.map oState).length=b.length:=List.length_map ..
 refine FnOK.startC (rvs:=[.tmp 4]) G G_good Tryz.func42 rfl Tryz.ntmps42 rfl rfl ?_;with_reducible refine wD ?_
 by_cases g1:a.length=b.length
 ·(have fct:=And.intro hlm (And.intro hlm' (g1));(repeat' (first
  |refine gF ?_|refine aE ?_ ?_
  |apply trivial));all_goals clear fct)
  refine LoopK.use G G_good (fun(k:Nat)=>[(0,eStates a),(1,eStates b),(5,eInt k)]) (fun _=>[]) (fun k=>k≤a.length∧∀j,j<k→a[j]? =b[j]?) (fun k=>a.length-k) 0 ⟨Nat.zero_le _,fun j hj=>by omega⟩
   ⟨⟨rfl,rfl⟩,⟨rfl,rfl,rfl,trivial⟩,trivial⟩ ?_
  intro k ⟨hk,hno⟩
  with_reducible refine wK ?_
  refine IfK.mk (fun h1=>?_) (fun h1=>?_)<;>(try simp only[castN] at h1)<;>with_reducible refine wK ?_
  ·simp only[hlm,decide_eq_true_eq] at h1
   have hk':k<a.length:=by omega
   obtain⟨⟨x1,x2,x3,x4⟩,hx⟩:∃x,a[k]? =some x:=⟨_,List.getElem?_eq_getElem hk'⟩
   obtain⟨⟨y1,y2,y3,y4⟩,hy⟩:∃y,b[k]? =some y:=⟨_,List.getElem?_eq_getElem (by omega)⟩
   refine IdxK.mk k (eState ⟨x1,x2,x3,x4⟩) rfl (state_get hx) ?_;with_reducible refine wK ?_
   refine IdxK.mk k (eState ⟨y1,y2,y3,y4⟩) rfl (state_get hy) ?_;with_reducible refine wK ?_
   refine EqK.mk _ (fun y z w=>state_neq ⟨x1,x2,x3,x4⟩ ⟨y1,y2,y3,y4⟩ y z w) ?_;with_reducible refine wK ?_
   by_cases e:(⟨x1,x2,x3,x4⟩:StateM)=⟨y1,y2,y3,y4⟩
   ·have e':=hx.trans ((congrArg some e).trans hy.symm)
    rw[decide_eq_true e]
    repeat' (first
  |refine gK ?_|refine aE ?_ ?_
  | ((first
   |((with_reducible show NextK _ _);refine NextK.mk (k+1) ⟨by omega,same_succ hno e'⟩ (by omega) ⟨⟨rfl,rfl⟩,⟨rfl,rfl,by show((k+1:Nat):Int)=(k:Int)+1;omega,trivial⟩,trivial⟩)
   |((with_reducible show DrawK _ _ _ _);refine dK ?_))<;>with_reducible refine wK ?_)
  | apply trivial)
   ·rw[show decide (a=b)=false from decide_eq_false fun h=>e (by rw[h] at hx;rw[hx] at hy;exact Option.some.inj hy),decide_eq_false e]
    repeat' (first
  |refine gK ?_|refine aE ?_ ?_
  |(((with_reducible show DrawK _ _ _ _);refine dK ?_)<;>with_reducible refine wK ?_)
  |apply trivial)
  ·have hkl:k=a.length:=by simp only[hlm,decide_eq_false_iff_not] at h1;omega
   subst hkl
   rw[show decide (a=b)=true from decide_eq_true (list_same g1 hno)]
   (have fct:=hlm;(repeat' (first
  |refine gF ?_|refine aE ?_ ?_
  |apply trivial));all_goals clear fct)
 ·rw[show decide (a=b)=false from decide_eq_false fun h=>g1 (by rw[h])]
  (have fct:=And.intro hlm (And.intro hlm' (g1));(repeat' (first
  |refine gF ?_|refine aE ?_ ?_
  |apply trivial));all_goals clear fct)
theorem state_eql (a b:StateM)(y z:Operand)(w:World):((do eqGuard .eql 75 y z (vState a) (vState b);binOp .eql 75 (vState a) (vState b):Sem Value)).run Tryz.prog w=.ok (.bool (decide (a=b))) w:=by
 rw[Sem.run_bind,run_eqGuard_agg w .eql 75 y z _ _ (by kernel_rfl),Result.andThen_ok,run_eql_struct,state_eq];rfl
theorem wLong_ok (l:List OpM):FnOK Tryz.prog 83 [] [eOps l] [] (eBool (decide (60<l.length))):=by
 have hlm:(l.map oOp).length=l.length:=List.length_map ..
 refine FnOK.startC (rvs:=[.tmp 2]) G G_good Tryz.func83 rfl Tryz.ntmps83 rfl rfl ?_;with_reducible refine wD ?_
 (have fct:=hlm;(repeat' (first
  |refine gF ?_|refine aE ?_ ?_
  |apply trivial));all_goals clear fct)
 all_goals first|(simp;omega)
theorem wUnnamed_ok (s:ByteArray)(hs:s.size≤300):FnOK Tryz.prog 80 [] [eStr s] [] (eBool (!(rightS s&&decide (lowS s=s)))):=by
 have h81:=f81_ok s
 cases hr:rightS s
 all_goals
  rw[hr] at h81
  simp only[Bool.false_eq_true,if_false,if_true] at h81
  refine FnOK.startC (rvs:=[.tmp 2]) G G_good Tryz.func80 rfl Tryz.ntmps80 rfl rfl ?_;with_reducible refine wD ?_
  repeat' (first
  |refine pK ?_|refine aE ?_ ?_
  | ((first
   |((with_reducible show IfK _ _ _ _);(refine IfK.mk (fun hp=>?_) (fun hp=>?_)<;>(try simp only[castN,decide_eq_true_eq,decide_eq_false_iff_not,Bool.not_eq_true',Bool.not_eq_false',Decidable.not_not,Int.not_lt,Int.not_le] at hp)))
   |((with_reducible refine kQ 81 ?_);refine cL h81 c81 ?_))<;>with_reducible refine wK ?_)
  |apply trivial)
  all_goals first|rfl|(simp_all;done)|(simp_all;omega)
def oddH (h:HookM):Bool:=decide (h.kind<1)||decide (8<h.kind)||decide (60<h.prog.length)
theorem wOdd_ok (h:HookM):FnOK Tryz.prog 82 [] [eHook h] [] (eBool (oddH h)):=by
 have hl:=wLong_ok h.prog
 unfold oddH
 obtain⟨k,p⟩:=h
 simp only at hl ⊢
 refine FnOK.startC (rvs:=[.tmp 2]) G G_good Tryz.func82 rfl Tryz.ntmps82 rfl rfl ?_;with_reducible refine wD ?_
 repeat' (first
  |refine pK ?_|refine aE ?_ ?_
  | ((first
   |((with_reducible show IfK _ _ _ _);(refine IfK.mk (fun hp=>?_) (fun hp=>?_)<;>(try simp only[castN,decide_eq_true_eq,decide_eq_false_iff_not,Bool.not_eq_true',Bool.not_eq_false',Decidable.not_not,Int.not_lt,Int.not_le] at hp)))
   |((with_reducible refine kQ 83 ?_);refine cL hl c83 ?_))<;>with_reducible refine wK ?_)
  |apply trivial)
 all_goals first|rfl|(simp_all;done)|(simp_all;omega)
theorem wAllowed_ok (c:ClassM)(h1:c.watch.length≤100000)(h2:c.hooks.length≤100000)(h3:∀s∈c.watch,s.size≤300):FnOK Tryz.prog 26 [] [eClass c] [] (eBool (allowedC c)):=by
 have a1:=FnOK.fn1 (cfS_ok 80 c80 [] rfl (fun s=> !(rightS s&&decide (lowS s=s))) c.watch h1 (fun s hs=>wUnnamed_ok s (h3 s hs)))
 have a2:=FnOK.fn1 (cfHk_ok 82 c82 [] rfl oddH c.hooks h2 (fun h _=>wOdd_ok h))
 have a3:=wLong_ok c.peek
 have a4:=wLong_ok c.make
 have e0:allowedC c=(((((decide (c.watch.length≤12)&& !(c.watch.any fun s=> !(rightS s&&decide (lowS s=s))))&&decide (c.hooks.length≤12))&& !(c.hooks.any oddH))&& !decide (60<c.peek.length))&& !decide (60<c.make.length)):=by
  unfold allowedC
  rw[←decide_not,←decide_not,decide_eq_decide.2 (show c.peek.length≤60↔ ¬60<c.peek.length by omega),decide_eq_decide.2 (show c.make.length≤60↔ ¬60<c.make.length by omega)];rfl
 rw[e0]
 obtain⟨c1,c2,c3,c4,c5⟩:=c
 simp only at a1 a2 a3 a4 ⊢
 have n2:(c2.map oStr).length=c2.length:=List.length_map ..
 have n5:(c5.map oHook).length=c5.length:=List.length_map ..
 generalize(c2.any fun s=> !(rightS s&&decide (lowS s=s)))=p1 at*
 generalize c5.any oddH=p2 at*
 generalize decide (60<c3.length)=p3 at*
 generalize decide (60<c4.length)=p4 at*
 by_cases e1:(c2.length:Int)≤12
 ·rw [decide_eq_true (show c2.length≤12 by omega)]
  cases p1
  ·by_cases e2:(c5.length:Int)≤12
   ·rw[decide_eq_true (show c5.length≤12 by omega)]
    cases p2<;>cases p3<;>cases p4<;>
    ·refine FnOK.startC (rvs:=[.tmp 2]) G G_good Tryz.func26 rfl Tryz.ntmps26 rfl rfl ?_;with_reducible refine wD ?_
     (have fct:=And.intro n2 (And.intro n5 (And.intro (eq_true e1) ((eq_true e2))));(repeat' (first
  |refine gF ?_|refine aE ?_ ?_
  | ((first
   |((with_reducible refine kQ 84 ?_);refine cL a1 c84 ?_)
   |((with_reducible refine kQ 85 ?_);refine cL a2 c85 ?_)
   |((with_reducible refine kQ 83 ?_);first|refine cL a3 c83 ?_|refine cL a4 c83 ?_))<;>with_reducible refine wK ?_)
  | apply trivial));all_goals clear fct)
     all_goals first|rfl|(simp_all;done)|(simp_all;omega)
   ·rw[decide_eq_false (show ¬c5.length≤12 by omega)]
    refine FnOK.startC (rvs:=[.tmp 2]) G G_good Tryz.func26 rfl Tryz.ntmps26 rfl rfl ?_;with_reducible refine wD ?_
    (have fct:=And.intro n2 (And.intro n5 (And.intro (eq_true e1) ((eq_false e2))));(repeat' (first
  |refine gF ?_|refine aE ?_ ?_
  |(((with_reducible refine kQ 84 ?_);refine cL a1 c84 ?_)<;>with_reducible refine wK ?_)
  | apply trivial));all_goals clear fct)
    all_goals first|rfl|(simp_all;done)|(simp_all;omega)
  ·refine FnOK.startC (rvs:=[.tmp 2]) G G_good Tryz.func26 rfl Tryz.ntmps26 rfl rfl ?_;with_reducible refine wD ?_
   (have fct:=And.intro n2 ((eq_true e1));(repeat' (first
  |refine gF ?_|refine aE ?_ ?_
  |(((with_reducible refine kQ 84 ?_);refine cL a1 c84 ?_)<;>with_reducible refine wK ?_)
  | apply trivial));all_goals clear fct)
   all_goals first|rfl|(simp_all;done)|(simp_all;omega)
 ·rw[decide_eq_false (show ¬c2.length≤12 by omega)]
  refine FnOK.startC (rvs:=[.tmp 2]) G G_good Tryz.func26 rfl Tryz.ntmps26 rfl rfl ?_;with_reducible refine wD ?_
  (have fct:=And.intro n2 ((eq_false e1));(repeat' (first
  |refine gF ?_|refine aE ?_ ?_
  |apply trivial));all_goals clear fct)
  all_goals first|rfl|(simp_all;done)|(simp_all;omega)
theorem whDef_ok (w:WorldM)(n:Int):FnOK Tryz.prog 162 [] [eWorld w,eInt n] [] (eBool (defG w n)):=by
 unfold defG
 obtain⟨⟨l,m⟩,st,⟨d1,d2,d3,d4⟩,⟨a,b,c,d⟩,ta,bu,cs⟩:=w
 have hlm:(d1.map oDef).length=d1.length:=List.length_map ..
 by_cases h1:0≤n
 ·refine FnOK.startC (rvs:=[.tmp 4]) G G_good Tryz.func162 rfl Tryz.ntmps162 rfl rfl ?_;with_reducible refine wD ?_
  (have fct:=And.intro (eq_true h1) (hlm);(repeat' (first
  |refine gF ?_|refine aE ?_ ?_
  |apply trivial));all_goals clear fct)
  all_goals first|(simp[h1];done)
 ·refine FnOK.startC (rvs:=[.tmp 4]) G G_good Tryz.func162 rfl Tryz.ntmps162 rfl rfl ?_;with_reducible refine wD ?_
  (have fct:=And.intro (eq_false h1) (hlm);(repeat' (first
  |refine gF ?_|refine aE ?_ ?_
  |apply trivial));all_goals clear fct)
  all_goals first|(simp[h1];done)
theorem whNode_ok (w:WorldM)(n:Int):FnOK Tryz.prog 95 [] [eWorld w,eInt n] [] (eBool (thereN w.f.nodes n)):=by
 unfold thereN
 obtain⟨⟨l,m⟩,st,⟨d1,d2,d3,d4⟩,⟨a,b,c,d⟩,ta,bu,cs⟩:=w
 have hlm:(l.map oNode).length=l.length:=List.length_map ..
 by_cases h1:0≤n
 ·refine FnOK.startC (rvs:=[.tmp 4]) G G_good Tryz.func95 rfl Tryz.ntmps95 rfl rfl ?_;with_reducible refine wD ?_
  (have fct:=And.intro (eq_true h1) (hlm);(repeat' (first
  |refine gF ?_|refine aE ?_ ?_
  |apply trivial));all_goals clear fct)
  all_goals first|(simp[h1];done)
 ·refine FnOK.startC (rvs:=[.tmp 4]) G G_good Tryz.func95 rfl Tryz.ntmps95 rfl rfl ?_;with_reducible refine wD ?_
  (have fct:=And.intro (eq_false h1) (hlm);(repeat' (first
  |refine gF ?_|refine aE ?_ ?_
  |apply trivial));all_goals clear fct)
  all_goals first|(simp[h1];done)
theorem whTodo_ok (w:WorldM)(t:TodoM):FnOK Tryz.prog 96 [] [eWorld w,eTodo t] [] (eBool (todoG w t)):=by
 have hd:=whDef_ok w t.df
 unfold todoG
 generalize defG w t.df=g at*
 obtain⟨⟨l,m⟩,st,⟨d1,d2,d3,d4⟩,⟨a,b,c,d⟩,ta,bu,cs⟩:=w
 obtain⟨x0,x1,x2,x3,x4,x5,x6,x7,x8,x9⟩:=t
 simp only at hd ⊢
 refine FnOK.startC (rvs:=[.tmp 4]) G G_good Tryz.func96 rfl Tryz.ntmps96 rfl rfl ?_;with_reducible refine wD ?_
 repeat' (first
  |refine pK ?_|refine aE ?_ ?_
  | ((first
   |((with_reducible show IfK _ _ _ _);(refine IfK.mk (fun hp=>?_) (fun hp=>?_)<;>(try simp only[castN,decide_eq_true_eq,decide_eq_false_iff_not,Bool.not_eq_true',Bool.not_eq_false',Decidable.not_not,Int.not_lt,Int.not_le] at hp)))
   |((with_reducible refine kQ 162 ?_);refine cL hd c162 ?_))<;>with_reducible refine wK ?_)
  |apply trivial)
 all_goals first|rfl|(simp_all;done)|(simp_all;omega)
theorem whTask_ok (w:WorldM)(t:TaskM):FnOK Tryz.prog 151 [] [eWorld w,eTask t] [] (eBool (taskG w t)):=by
 have hd:=whDef_ok w t.df
 unfold taskG
 generalize defG w t.df=g at*
 obtain⟨⟨l,m⟩,st,⟨d1,d2,d3,d4⟩,⟨a,b,c,d⟩,ta,bu,cs⟩:=w
 obtain⟨x0,x1,x2⟩:=t
 simp only at hd ⊢
 refine FnOK.startC (rvs:=[.tmp 4]) G G_good Tryz.func151 rfl Tryz.ntmps151 rfl rfl ?_;with_reducible refine wD ?_
 repeat' (first
  |refine pK ?_|refine aE ?_ ?_
  | ((first
   |((with_reducible show IfK _ _ _ _);(refine IfK.mk (fun hp=>?_) (fun hp=>?_)<;>(try simp only[castN,decide_eq_true_eq,decide_eq_false_iff_not,Bool.not_eq_true',Bool.not_eq_false',Decidable.not_not,Int.not_lt,Int.not_le] at hp)))
   |((with_reducible refine kQ 162 ?_);refine cL hd c162 ?_))<;>with_reducible refine wK ?_)
  |apply trivial)
 all_goals first|rfl|(simp_all;done)|(simp_all;omega)
theorem whBuild_ok (w:WorldM)(t:BuildM):FnOK Tryz.prog 154 [] [eWorld w,eBuild t] [] (eBool (buildG w t)):=by
 have hd:=whDef_ok w t.df
 have hn:=whNode_ok w t.node
 unfold buildG elemV
 obtain⟨x0,x1⟩:=t
 cases ht:thereN w.f.nodes x1 with
 | false=>
   generalize defG w x0=g at*
   obtain⟨⟨l,m⟩,st,⟨d1,d2,d3,d4⟩,⟨a,b,c,d⟩,ta,bu,cs⟩:=w
   simp only at hd hn ht ⊢
   rw[ht] at hn
   refine FnOK.startC (rvs:=[.tmp 4]) G G_good Tryz.func154 rfl Tryz.ntmps154 rfl rfl ?_;with_reducible refine wD ?_
   cases g
   all_goals
    repeat' (first
  |refine pK ?_|refine aE ?_ ?_
  | ((first
   |((with_reducible show IfK _ _ _ _);(refine IfK.mk (fun hp=>?_) (fun hp=>?_)<;>(try simp only[castN,decide_eq_true_eq,decide_eq_false_iff_not,Bool.not_eq_true',Bool.not_eq_false',Decidable.not_not,Int.not_lt,Int.not_le] at hp)))
   |((with_reducible refine kQ 162 ?_);refine cL hd c162 ?_)
   |((with_reducible refine kQ 95 ?_);refine cL hn c95 ?_))<;>with_reducible refine wK ?_)
  | apply trivial)
   all_goals first|rfl|(simp_all;done)|(simp_all;omega)
 | true=>
   obtain⟨k,y,rfl,hy,hnd⟩:=there_iff.1 ht
   rw[hnd]
   generalize defG w x0=g at*
   obtain⟨⟨l,m⟩,st,⟨d1,d2,d3,d4⟩,⟨a,b,c,d⟩,ta,bu,cs⟩:=w
   simp only at hd hn ht hy ⊢
   rw[ht] at hn
   have hkl:=(List.getElem?_eq_some_iff.1 hy).1
   obtain⟨y0,y1,y2,y3,y4,y5,y6,y7,y8,y9⟩:=y
   refine FnOK.startC (rvs:=[.tmp 4]) G G_good Tryz.func154 rfl Tryz.ntmps154 rfl rfl ?_;with_reducible refine wD ?_
   cases g
   all_goals
    repeat' (first
  |refine pK ?_|refine aE ?_ ?_
  | ((first
   |((with_reducible show IfK _ _ _ _);(refine IfK.mk (fun hp=>?_) (fun hp=>?_)<;>(try simp only[castN,decide_eq_true_eq,decide_eq_false_iff_not,Bool.not_eq_true',Bool.not_eq_false',Decidable.not_not,Int.not_lt,Int.not_le] at hp)))
   |((with_reducible refine kQ 162 ?_);refine cL hd c162 ?_)
   |((with_reducible refine kQ 95 ?_);refine cL hn c95 ?_)
   |((with_reducible show IdxK _ _ _ _ _);refine IdxK.mk k (eNode ⟨y0,y1,y2,y3,y4,y5,y6,y7,y8,y9⟩) rfl (node_get hy) ?_))<;>with_reducible refine wK ?_)
  | apply trivial)
   all_goals first|rfl|(simp_all;done)|(simp_all;omega)
theorem whState_ok (w:WorldM)(k:Nat)(x:NodeM)(s:StateM)(hx:w.f.nodes[k]? =some x)(hs:w.states[k]? =some s):FnOK Tryz.prog 146 [] [eWorld w,eInt k] [] (eBool (stateOK w x s)):=by
 have hd:=whDef_ok w s.df
 have hn:=whNode_ok w s.owner
 unfold stateOK
 generalize defG w s.df=g at*
 generalize thereN w.f.nodes s.owner=t at*
 obtain⟨⟨l,m⟩,st,⟨d1,d2,d3,d4⟩,⟨a,b,c,d⟩,ta,bu,cs⟩:=w
 obtain⟨y0,y1,y2,y3,y4,y5,y6,y7,y8,y9⟩:=x
 obtain⟨s1,s2,s3,s4⟩:=s
 simp only at hd hn hx hs ⊢
 by_cases e0:y0=1
 ·rw[if_pos e0]
  by_cases e1:s3=-1
  all_goals
   refine FnOK.startC (rvs:=[.tmp 4]) G G_good Tryz.func146 rfl Tryz.ntmps146 rfl rfl ?_;with_reducible refine wD ?_
   (have fct:=And.intro e0 (e1);(repeat' (first
  |refine pF ?_|refine aE ?_ ?_
  | ((first
   |((with_reducible show IfK _ _ _ _);(refine IfK.mk (fun hp=>?_) (fun hp=>?_)<;>(try simp only[castN,decide_eq_true_eq,decide_eq_false_iff_not,Bool.not_eq_true',Bool.not_eq_false',Decidable.not_not,Int.not_lt,Int.not_le] at hp)))
   |((with_reducible refine kQ 162 ?_);refine cL hd c162 ?_)
   |((with_reducible refine kQ 95 ?_);refine cL hn c95 ?_)
   |((with_reducible show IdxK _ _ _ _ _);first|refine IdxK.mk k (eNode ⟨y0,y1,y2,y3,y4,y5,y6,y7,y8,y9⟩) rfl (node_get hx) ?_|refine IdxK.mk k (eState ⟨s1,s2,s3,s4⟩) rfl (state_get hs) ?_))<;>with_reducible refine wK ?_)
  | apply trivial));all_goals clear fct)
   all_goals first|rfl|(simp_all;done)|(simp_all;omega)
 ·rw[if_neg e0]
  refine FnOK.startC (rvs:=[.tmp 4]) G G_good Tryz.func146 rfl Tryz.ntmps146 rfl rfl ?_;with_reducible refine wD ?_
  (have fct:=(eq_false e0);(repeat' (first
  |refine gF ?_|refine aE ?_ ?_
  | ((first
   |((with_reducible show IdxK _ _ _ _ _);first|refine IdxK.mk k (eNode ⟨y0,y1,y2,y3,y4,y5,y6,y7,y8,y9⟩) rfl (node_get hx) ?_|refine IdxK.mk k (eState ⟨s1,s2,s3,s4⟩) rfl (state_get hs) ?_)
   |((with_reducible show EqK _ _ _ _ _ _ _ _);refine EqK.mk _ (fun y z w=>state_eql ⟨s1,s2,s3,s4⟩ ⟨0,-1,-1,false⟩ y z w) ?_))<;>with_reducible refine wK ?_)
  |apply trivial));all_goals clear fct)
  all_goals first|rfl|(simp_all;done)|(simp_all;omega)
theorem frz_set {α:Type}(o:α→AV){wd k:Nat}{m:ML}{fz:Nat→Bool}{tab:List (Nat×Nat)}{n t u off len L:Nat}{ro:Bool}{rows:List AV}{l:List α}{y:α}(h1:lkM m t=.live wd rows ro)(h2:fz t=true)(h3:rows=(l.map o).set k (.own u off len))(hk:k<l.length)(h4:L=l.length)(hn:∀l:List α,noRefL (l.map o)=true)(h6:MF tab fz m n (o y) (.own u off len)):FrzK m fz (MF tab fz m n) (.sl wd ((l.set k y).map o)) t 0 L:=by
 subst h3;subst h4
 have e:((l.map o).set k (.own u off len)).length=l.length:=by simp
 refine⟨wd,_,ro,_,h1,h2,rfl,by omega,hn _,?_,?_⟩
 ·rw[List.drop_zero,List.take_of_length_le (by omega)];simp
 ·intro i x z hx hz
  rw[List.drop_zero,List.take_of_length_le (by omega),List.getElem?_set] at hz
  rw[List.getElem?_map,List.getElem?_set] at hx
  by_cases e2:k=i
  ·subst e2
   rw[if_pos rfl,if_pos hk] at hx
   rw[if_pos rfl,if_pos (by simpa using hk)] at hz
   cases hx;cases hz
   exact h6
  ·rw[if_neg e2] at hx hz
   rw[List.getElem?_map] at hz
   rw[hx] at hz;cases hz
   refine MF_refl n x ?_
   obtain⟨a,ha,rfl⟩:∃a,l[i]? =some a∧o a=x:=by
    cases q:l[i]? with
    |none=>rw[q] at hx;cases hx
    |some a=>rw[q] at hx;exact⟨a,rfl,Option.some.inj hx⟩
   exact noRefL_iff.1 (hn l) _ (List.mem_map_of_mem (List.mem_of_getElem? ha))
theorem frz_setZ {α:Type}(o:α→AV){wd k:Nat}{m:ML}{fz:Nat→Bool}{tab:List (Nat×Nat)}{n t L:Nat}{ro:Bool}{rows:List AV}{l:List α}{y:α}{z:AV}(h1:lkM m t=.live wd rows ro)(h2:fz t=true)(h3:rows=(l.map o).set k z)(hk:k<l.length)(h4:L=l.length)(hn:∀l:List α,noRefL (l.map o)=true)(h6:MF tab fz m n (o y) z):FrzK m fz (MF tab fz m n) (.sl wd ((l.set k y).map o)) t 0 L:=by
 subst h3;subst h4
 have e:((l.map o).set k z).length=l.length:=by simp
 refine⟨wd,_,ro,_,h1,h2,rfl,by omega,hn _,?_,?_⟩
 ·rw[List.drop_zero,List.take_of_length_le (by omega)];simp
 ·intro i x v hx hz
  rw[List.drop_zero,List.take_of_length_le (by omega),List.getElem?_set] at hz
  rw[List.getElem?_map,List.getElem?_set] at hx
  by_cases e2:k=i
  ·subst e2
   rw[if_pos rfl,if_pos hk] at hx
   rw[if_pos rfl,if_pos (by simpa using hk)] at hz
   cases hx;cases hz
   exact h6
  ·rw[if_neg e2] at hx hz
   rw[List.getElem?_map] at hz
   rw[hx] at hz;cases hz
   refine MF_refl n x ?_
   obtain⟨a,ha,rfl⟩:∃a,l[i]? =some a∧o a=x:=by
    cases q:l[i]? with
    |none=>rw[q] at hx;cases hx
    |some a=>rw[q] at hx;exact⟨a,rfl,Option.some.inj hx⟩
   exact noRefL_iff.1 (hn l) _ (List.mem_map_of_mem (List.mem_of_getElem? ha))
theorem news_ln {a:List (List TodoM)}{b:List (List Int)}{c:List Int}{i j k:Nat}:NewsM [i,j,k] [mTodoss a,mIntss b,rInts c] [mTodoss a,mIntss b,rInts c]:=⟨⟨rfl,.inl ⟨rfl,noRef_todos2 _⟩⟩,⟨rfl,.inl ⟨rfl,noRef_stack _⟩⟩,⟨rfl,.inl ⟨rfl,noRef_ints _⟩⟩,trivial⟩
def addW (l:LineM)(n:Int)(t:TodoM):LineM×Bool×Int:=if(lnR l&&inLn l n)=true then(lnAdd l n t,lnTell l,0) else(l,false,1)
theorem addW_no {l:LineM}{n:Int}{t:TodoM}(h:(lnR l&&inLn l n)=false):addW l n t=(l,false,1):=by unfold addW;rw[h];rfl
theorem addW_yes {l:LineM}{n:Int}{t:TodoM}(h:(lnR l&&inLn l n)=true):addW l n t=(lnAdd l n t,lnTell l,0):=by unfold addW;rw[h];rfl
theorem stack_top {b:List (List Int)}{k:Nat}{s:List Int}(e:b.length=k+1)(h:b[k]? =some s){a:List (List TodoM)}{c:List Int}{d:Bool}:stTop ⟨a,b,c,d⟩=s:=by
 unfold stTop
 show(b[b.length-1]?).getD []=s
 rw[e,Nat.add_sub_cancel,h];rfl
theorem lnAdd_ok (l:LineM)(hs:SmL 98000 l)(n:Int)(t:TodoM):FnOK Tryz.prog 165 [] [eLine l,eInt n,eTodo t] [] (.tup [eLine (addW l n t).1,eBool (addW l n t).2.1,eInt (addW l n t).2.2]):=by
 have hR:=lnRight_ok l (hs.mono (by omega))
 have hI:=lnIn_ok l n
 have hO:=lnOwn_ok l (by have:=hs.todos;omega) (by have:=hs.stack;omega) (by have:=hs.back;omega)
 cases e1:lnR l with
 | false=>
   rw[e1] at hR
   rw[addW_no (by rw[e1];rfl)]
   obtain⟨a,b,c,d⟩:=l
   obtain⟨x0,x1,x2,x3,x4,x5,x6,x7,x8,x9⟩:=t
   refine FnOK.startC (rvs:=[.cell 6 34,.tmp 7,.tmp 8]) G G_good Tryz.func165 rfl Tryz.ntmps165 rfl rfl ?_;with_reducible refine wD ?_
   repeat' (first
  |refine gK ?_|refine aE ?_ ?_
  |(((with_reducible refine kQ 145 ?_);refine cL hR c145 ?_)<;>with_reducible refine wK ?_)
  |apply trivial)
 | true =>
   rw[e1] at hR
   cases e2:inLn l n with
   | false=>
     rw[e2] at hI
     rw[addW_no (by rw[e1,e2];rfl)]
     obtain⟨a,b,c,d⟩:=l
     obtain⟨x0,x1,x2,x3,x4,x5,x6,x7,x8,x9⟩:=t
     refine FnOK.startC (rvs:=[.cell 6 34,.tmp 7,.tmp 8]) G G_good Tryz.func165 rfl Tryz.ntmps165 rfl rfl ?_;with_reducible refine wD ?_
     repeat' (first
  |refine gK ?_|refine aE ?_ ?_
  | ((first
   |((with_reducible refine kQ 145 ?_);refine cL hR c145 ?_)
   |((with_reducible refine kQ 210 ?_);refine cL hI c210 ?_))<;>with_reducible refine wK ?_)
  | apply trivial)
   | true=>
     rw[e2] at hI
     obtain⟨k,y,rfl,hk,hy,htd⟩:=in_get e2
     have hyl:=hs.todo y (List.mem_of_getElem? hy)
     have hC:=cltodos_ok y (by omega)
     have hbl:=hs.stack
     have hcl:=hs.back
     have hst:=hs.list
     rw[addW_yes (by rw[e1,e2];rfl)]
     unfold lnAdd lnTell
     rw[htd,Int.toNat_natCast]
     obtain⟨a,b,c,d⟩:=l
     obtain⟨x0,x1,x2,x3,x4,x5,x6,x7,x8,x9⟩:=t
     simp only at hk hy hbl hcl hst hO ⊢
     have hcm:(c.map oInt).length=c.length:=List.length_map ..
     have ham:(a.map oTodos).length=a.length:=List.length_map ..
     have hym:(y.map oTodo).length=y.length:=List.length_map ..
     have e3:y.map oTodo++ [eTodo ⟨x0,x1,x2,x3,x4,x5,x6,x7,x8,x9⟩]=(y++ [(⟨x0,x1,x2,x3,x4,x5,x6,x7,x8,x9⟩:TodoM)]).map oTodo:=by rw[List.map_append];rfl
     by_cases hb:b=[]
     ·subst hb
      rw[if_pos rfl]
      have e4:c.map oInt++ [eInt k]=(c++ [(k:Int)]).map oInt:=by rw[List.map_append];rfl
      refine FnOK.startC (rvs:=[.cell 6 34,.tmp 7,.tmp 8]) G G_good Tryz.func165 rfl Tryz.ntmps165 rfl rfl ?_;with_reducible refine wD ?_
      repeat' (first
  |refine gK ?_|refine aE ?_ ?_
  | ((first
   |((with_reducible refine kQ 145 ?_);refine cL hR c145 ?_)
   |((with_reducible refine kQ 210 ?_);refine cL hI c210 ?_)
   |((with_reducible refine kQ 159 ?_);refine CallK.lend (news:=[mTodoss a,mIntss _,rInts c]) [221,222,223] [] hO c159 ⟨⟨rfl,rfl,rfl,rfl,trivial⟩,trivial⟩ trivial rfl ⟨⟨rfl,rfl⟩,rfl⟩ rfl news_ln rfl rfl ?_)
   |((with_reducible show LtK _ _ _ _ _);refine LtK.mk k rfl hk ?_)
   |((with_reducible show ElemK _ _ _ _ _);refine ElemK.mk (eTodos y) (by first|exact todos_get hy|(rw[Nat.zero_add];exact todos_get hy)) ?_)
   |((with_reducible refine kQ 218 ?_);refine CallK.new 311 [] hC c218 ⟨rfl,trivial⟩ rfl rfl rfl (outs_todos _) rfl ?_)
   |((with_reducible show AppK _ _ _ _ _ _ _ _ _ _);first|refine AppK.mk (y.map oTodo) [eTodo ⟨x0,x1,x2,x3,x4,x5,x6,x7,x8,x9⟩] ⟨rfl,hym.symm,rfl⟩ ⟨rfl,rfl,rfl⟩ rfl (by simp;omega) (by simp;omega) ?_|refine AppK.mk (c.map oInt) [eInt k] ⟨rfl,hcm.symm,rfl⟩ ⟨rfl,rfl,rfl⟩ rfl (by simp;omega) (by simp;omega) ?_))<;>with_reducible refine wK ?_)
  |apply trivial)
      all_goals first
       |exact frz_set oTodos (y:=y++ [_]) rfl rfl (by rw[Nat.zero_add]) hk rfl noRef_todos2 (frz_todos rfl rfl e3 (by simp))
       |exact frz_intss rfl rfl rfl rfl
       |exact frz_ints rfl rfl e4 (by simp)
       |(simp;done)
     ·rw[if_neg hb]
      obtain⟨q,hq⟩:∃q,b.length=q+1:=⟨b.length-1,by have:=List.length_pos_iff.2 hb;omega⟩
      obtain⟨s,hs2⟩:∃s,b[q]? =some s:=⟨_,List.getElem?_eq_getElem (by omega)⟩
      have hsl:=hst s (List.mem_of_getElem? hs2)
      have hCs:=clints_ok s (by omega)
      have hbm:(b.map oInts).length=b.length:=List.length_map ..
      have hsm:(s.map oInt).length=s.length:=List.length_map ..
      rw[stack_top hq hs2,hq,Nat.add_sub_cancel,decide_eq_false hb,Bool.false_and]
      have e4:s.map oInt++ [eInt k]=(s++ [(k:Int)]).map oInt:=by rw[List.map_append];rfl
      have e5:(b.length:Int)-1=(q:Int):=by omega
      refine FnOK.startC (rvs:=[.cell 6 34,.tmp 7,.tmp 8]) G G_good Tryz.func165 rfl Tryz.ntmps165 rfl rfl ?_;with_reducible refine wD ?_
      repeat' (first
  |refine gK ?_|refine aE ?_ ?_
  | ((first
   |((with_reducible refine kQ 145 ?_);refine cL hR c145 ?_)
   |((with_reducible refine kQ 210 ?_);refine cL hI c210 ?_)
   |((with_reducible refine kQ 159 ?_);refine CallK.lend (news:=[mTodoss a,mIntss _,rInts c]) [221,222,223] [] hO c159 ⟨⟨rfl,rfl,rfl,rfl,trivial⟩,trivial⟩ trivial rfl ⟨⟨rfl,rfl⟩,rfl⟩ rfl news_ln rfl rfl ?_)
   |((with_reducible show LtK _ _ _ _ _);refine LtK.mk k rfl hk ?_)
   |((with_reducible show ElemK _ _ _ _ _);refine ElemK.mk (eTodos y) (by first|exact todos_get hy|(rw[Nat.zero_add];exact todos_get hy)) ?_)
   |((with_reducible refine kQ 218 ?_);refine CallK.new 311 [] hC c218 ⟨rfl,trivial⟩ rfl rfl rfl (outs_todos _) rfl ?_)
   |((with_reducible show AppK _ _ _ _ _ _ _ _ _ _);refine AppK.mk (y.map oTodo) [eTodo ⟨x0,x1,x2,x3,x4,x5,x6,x7,x8,x9⟩] ⟨rfl,hym.symm,rfl⟩ ⟨rfl,rfl,rfl⟩ rfl (by simp;omega) (by simp;omega) ?_))<;>with_reducible refine wK ?_)
  |apply trivial)
      rw[e5]
      repeat' (first
  |refine gK ?_|refine aE ?_ ?_
  | ((first
   |((with_reducible show LtK _ _ _ _ _);refine LtK.mk q rfl (by omega) ?_)
   |((with_reducible show ElemK _ _ _ _ _);refine ElemK.mk (eInts s) (by first|exact ints_get hs2|(rw[Nat.zero_add];exact ints_get hs2)) ?_)
   |((with_reducible refine kQ 217 ?_);refine CallK.new 501 [] hCs c217 ⟨rfl,trivial⟩ rfl rfl rfl (outs_ints _) rfl ?_)
   |((with_reducible show AppK _ _ _ _ _ _ _ _ _ _);refine AppK.mk (s.map oInt) [eInt k] ⟨rfl,hsm.symm,rfl⟩ ⟨rfl,rfl,rfl⟩ rfl (by simp;omega) (by simp;omega) ?_))<;>with_reducible refine wK ?_)
  |apply trivial)
      all_goals first
       |exact frz_set oTodos (y:=y++ [_]) rfl rfl (by rw[Nat.zero_add]) hk rfl noRef_todos2 (frz_todos rfl rfl e3 (by simp))
       |exact frz_set oInts (y:=s++ [_]) rfl rfl (by rw[Nat.zero_add]) (by omega) rfl noRef_stack (frz_ints rfl rfl e4 (by simp))
       |exact frz_ints rfl rfl rfl rfl
       |(simp[hb];done)
theorem attr_self (a:AttrM)(y z:Operand)(w:World):((do eqGuard .neq 179 y z (.agg #[.string a.name,.string a.value]) (.agg #[.string a.name,.string a.value]);binOp .neq 179 (.agg #[.string a.name,.string a.value]) (.agg #[.string a.name,.string a.value]):Sem Value)).run Tryz.prog w=.ok (.bool false) w:=by
 have hS:Tryz.prog.underlying 179=some (.struct (Tryz.prog.fieldsOf 179)):=by kernel_rfl
 have hp:Tryz.prog.stoodInHeld 179=false:=by kernel_rfl
 have u9:=Tryz.underlying9
 have a9:=Tryz.isAgg9
 have z9:=Tryz.sizeOf9
 rw[Sem.run_bind,run_eqGuard_agg w .neq 179 y z _ _ (by kernel_rfl),Result.andThen_ok,run_neq_struct,show(10000:Nat)=9999+1 from rfl,run_equalIn_agg w 9999 179 _ _ hS hp]
 simp only[Program.fieldsOf,Tryz.underlying179]
 go_simp
theorem def_self (a:DefM)(y z:Operand)(w:World):((do eqGuard .neq 95 y z (.agg #[.string a.name,.string a.locl,.int .i64 a.cls]) (.agg #[.string a.name,.string a.locl,.int .i64 a.cls]);binOp .neq 95 (.agg #[.string a.name,.string a.locl,.int .i64 a.cls]) (.agg #[.string a.name,.string a.locl,.int .i64 a.cls]):Sem Value)).run Tryz.prog w=.ok (.bool false) w:=by
 have hS:Tryz.prog.underlying 95=some (.struct (Tryz.prog.fieldsOf 95)):=by kernel_rfl
 have hp:Tryz.prog.stoodInHeld 95=false:=by kernel_rfl
 have u3:=Tryz.underlying3
 have a3:=Tryz.isAgg3
 have z3:=Tryz.sizeOf3
 have u9:=Tryz.underlying9
 have a9:=Tryz.isAgg9
 have z9:=Tryz.sizeOf9
 rw[Sem.run_bind,run_eqGuard_agg w .neq 95 y z _ _ (by kernel_rfl),Result.andThen_ok,run_neq_struct,show(10000:Nat)=9999+1 from rfl,run_equalIn_agg w 9999 95 _ _ hS hp]
 simp only[Program.fieldsOf,Tryz.underlying95]
 go_simp
theorem wait_self (a:WaitM)(y z:Operand)(w:World):((do eqGuard .neq 162 y z (.agg #[.string a.name,.int .i64 a.ticket]) (.agg #[.string a.name,.int .i64 a.ticket]);binOp .neq 162 (.agg #[.string a.name,.int .i64 a.ticket]) (.agg #[.string a.name,.int .i64 a.ticket]):Sem Value)).run Tryz.prog w=.ok (.bool false) w:=by
 have hS:Tryz.prog.underlying 162=some (.struct (Tryz.prog.fieldsOf 162)):=by kernel_rfl
 have hp:Tryz.prog.stoodInHeld 162=false:=by kernel_rfl
 have u3:=Tryz.underlying3
 have a3:=Tryz.isAgg3
 have z3:=Tryz.sizeOf3
 have u9:=Tryz.underlying9
 have a9:=Tryz.isAgg9
 have z9:=Tryz.sizeOf9
 rw[Sem.run_bind,run_eqGuard_agg w .neq 162 y z _ _ (by kernel_rfl),Result.andThen_ok,run_neq_struct,show(10000:Nat)=9999+1 from rfl,run_equalIn_agg w 9999 162 _ _ hS hp]
 simp only[Program.fieldsOf,Tryz.underlying162]
 go_simp
theorem task_self (a:TaskM)(y z:Operand)(w:World):((do eqGuard .neq 73 y z (.agg #[.int .i64 a.kind,.int .i64 a.ticket,.int .i64 a.df]) (.agg #[.int .i64 a.kind,.int .i64 a.ticket,.int .i64 a.df]);binOp .neq 73 (.agg #[.int .i64 a.kind,.int .i64 a.ticket,.int .i64 a.df]) (.agg #[.int .i64 a.kind,.int .i64 a.ticket,.int .i64 a.df]):Sem Value)).run Tryz.prog w=.ok (.bool false) w:=by
 have hS:Tryz.prog.underlying 73=some (.struct (Tryz.prog.fieldsOf 73)):=by kernel_rfl
 have hp:Tryz.prog.stoodInHeld 73=false:=by kernel_rfl
 have u3:=Tryz.underlying3
 have a3:=Tryz.isAgg3
 have z3:=Tryz.sizeOf3
 rw[Sem.run_bind,run_eqGuard_agg w .neq 73 y z _ _ (by kernel_rfl),Result.andThen_ok,run_neq_struct,show(10000:Nat)=9999+1 from rfl,run_equalIn_agg w 9999 73 _ _ hS hp]
 simp only[Program.fieldsOf,Tryz.underlying73]
 go_simp
theorem build_self (a:BuildM)(y z:Operand)(w:World):((do eqGuard .neq 92 y z (.agg #[.int .i64 a.df,.int .i64 a.node]) (.agg #[.int .i64 a.df,.int .i64 a.node]);binOp .neq 92 (.agg #[.int .i64 a.df,.int .i64 a.node]) (.agg #[.int .i64 a.df,.int .i64 a.node]):Sem Value)).run Tryz.prog w=.ok (.bool false) w:=by
 have hS:Tryz.prog.underlying 92=some (.struct (Tryz.prog.fieldsOf 92)):=by kernel_rfl
 have hp:Tryz.prog.stoodInHeld 92=false:=by kernel_rfl
 have u3:=Tryz.underlying3
 have a3:=Tryz.isAgg3
 have z3:=Tryz.sizeOf3
 rw[Sem.run_bind,run_eqGuard_agg w .neq 92 y z _ _ (by kernel_rfl),Result.andThen_ok,run_neq_struct,show(10000:Nat)=9999+1 from rfl,run_equalIn_agg w 9999 92 _ _ hS hp]
 simp only[Program.fieldsOf,Tryz.underlying92]
 go_simp
theorem todo_self (a:TodoM)(y z:Operand)(w:World):((do eqGuard .neq 59 y z (.agg #[.int .i64 a.kind,.int .i64 a.df,.string a.name,.bool a.had,.bool a.has,.string a.old,.string a.new,.int .i64 a.src,.int .i64 a.dst,.bool a.on]) (.agg #[.int .i64 a.kind,.int .i64 a.df,.string a.name,.bool a.had,.bool a.has,.string a.old,.string a.new,.int .i64 a.src,.int .i64 a.dst,.bool a.on]);binOp .neq 59 (.agg #[.int .i64 a.kind,.int .i64 a.df,.string a.name,.bool a.had,.bool a.has,.string a.old,.string a.new,.int .i64 a.src,.int .i64 a.dst,.bool a.on]) (.agg #[.int .i64 a.kind,.int .i64 a.df,.string a.name,.bool a.had,.bool a.has,.string a.old,.string a.new,.int .i64 a.src,.int .i64 a.dst,.bool a.on]):Sem Value)).run Tryz.prog w=.ok (.bool false) w:=by
 have hS:Tryz.prog.underlying 59=some (.struct (Tryz.prog.fieldsOf 59)):=by kernel_rfl
 have hp:Tryz.prog.stoodInHeld 59=false:=by kernel_rfl
 have u3:=Tryz.underlying3
 have a3:=Tryz.isAgg3
 have z3:=Tryz.sizeOf3
 have u4:=Tryz.underlying4
 have a4:=Tryz.isAgg4
 have z4:=Tryz.sizeOf4
 have u9:=Tryz.underlying9
 have a9:=Tryz.isAgg9
 have z9:=Tryz.sizeOf9
 rw[Sem.run_bind,run_eqGuard_agg w .neq 59 y z _ _ (by kernel_rfl),Result.andThen_ok,run_neq_struct,show(10000:Nat)=9999+1 from rfl,run_equalIn_agg w 9999 59 _ _ hS hp]
 simp only[Program.fieldsOf,Tryz.underlying59]
 go_simp
theorem attrs_same (l:List AttrM)(hl:l.length≤100000):FnOK Tryz.prog 126 [] [eAttrs l,eAttrs l] [] (eBool true):=by
 have hlm:(l.map oAttr).length=l.length:=List.length_map ..
 refine FnOK.startC (rvs:=[.tmp 4]) G G_good Tryz.func126 rfl Tryz.ntmps126 rfl rfl ?_;with_reducible refine wD ?_
 (have fct:=hlm;(repeat' (first
  |refine gF ?_|refine aE ?_ ?_
  |apply trivial));all_goals clear fct)
 refine LoopK.use G G_good (fun(k:Nat)=>[(0,eAttrs l),(1,eAttrs l),(5,eInt k)]) (fun _=>[]) (fun k=>k≤l.length) (fun k=>l.length-k) 0 (Nat.zero_le _)
  ⟨⟨rfl,rfl⟩,⟨rfl,rfl,rfl,trivial⟩,trivial⟩ ?_
 intro k hk
 with_reducible refine wK ?_
 refine IfK.mk (fun h1=>?_) (fun h1=>?_)<;>(try simp only[castN] at h1)<;>with_reducible refine wK ?_
 ·have hk':k<l.length:=by simp only[decide_eq_true_eq] at h1;omega
  obtain⟨x,hx⟩:∃x,l[k]? =some x:=⟨_,List.getElem?_eq_getElem hk'⟩
  obtain⟨x1,x2⟩:=x
  repeat' (first
  |refine gK ?_|refine aE ?_ ?_
  | ((first
   |((with_reducible show IdxK _ _ _ _ _);refine IdxK.mk k (eAttr ⟨x1,x2⟩) rfl (attr_get hx) ?_)
   |((with_reducible show EqK _ _ _ _ _ _ _ _);refine EqK.mk _ (fun y z w=>attr_self ⟨x1,x2⟩ y z w) ?_)
   |((with_reducible show DrawK _ _ _ _);refine dK ?_)
   |((with_reducible show NextK _ _);refine NextK.mk (k+1) (by omega) (by omega) ⟨⟨rfl,rfl⟩,⟨rfl,rfl,by show((k+1:Nat):Int)=(k:Int)+1;omega,trivial⟩,trivial⟩))<;>with_reducible refine wK ?_)
  |apply trivial)
 ·repeat' (first
  |refine gK ?_|refine aE ?_ ?_
  |apply trivial)
theorem todos_same (l:List TodoM)(hl:l.length≤100000):FnOK Tryz.prog 43 [] [eTodos l,eTodos l] [] (eBool true):=by
 have hlm:(l.map oTodo).length=l.length:=List.length_map ..
 refine FnOK.startC (rvs:=[.tmp 4]) G G_good Tryz.func43 rfl Tryz.ntmps43 rfl rfl ?_;with_reducible refine wD ?_
 (have fct:=hlm;(repeat' (first
  |refine gF ?_|refine aE ?_ ?_
  |apply trivial));all_goals clear fct)
 refine LoopK.use G G_good (fun(k:Nat)=>[(0,eTodos l),(1,eTodos l),(5,eInt k)]) (fun _=>[]) (fun k=>k≤l.length) (fun k=>l.length-k) 0 (Nat.zero_le _)
  ⟨⟨rfl,rfl⟩,⟨rfl,rfl,rfl,trivial⟩,trivial⟩ ?_
 intro k hk
 with_reducible refine wK ?_
 refine IfK.mk (fun h1=>?_) (fun h1=>?_)<;>(try simp only[castN] at h1)<;>with_reducible refine wK ?_
 ·have hk':k<l.length:=by simp only[decide_eq_true_eq] at h1;omega
  obtain⟨x,hx⟩:∃x,l[k]? =some x:=⟨_,List.getElem?_eq_getElem hk'⟩
  obtain⟨x0,x1,x2,x3,x4,x5,x6,x7,x8,x9⟩:=x
  repeat' (first
  |refine gK ?_|refine aE ?_ ?_
  | ((first
   |((with_reducible show IdxK _ _ _ _ _);refine IdxK.mk k (eTodo ⟨x0,x1,x2,x3,x4,x5,x6,x7,x8,x9⟩) rfl (todo_get hx) ?_)
   |((with_reducible show EqK _ _ _ _ _ _ _ _);refine EqK.mk _ (fun y z w=>todo_self ⟨x0,x1,x2,x3,x4,x5,x6,x7,x8,x9⟩ y z w) ?_)
   |((with_reducible show DrawK _ _ _ _);refine dK ?_)
   |((with_reducible show NextK _ _);refine NextK.mk (k+1) (by omega) (by omega) ⟨⟨rfl,rfl⟩,⟨rfl,rfl,by show((k+1:Nat):Int)=(k:Int)+1;omega,trivial⟩,trivial⟩))<;>with_reducible refine wK ?_)
  |apply trivial)
 ·repeat' (first
  |refine gK ?_|refine aE ?_ ?_
  |apply trivial)
theorem classes_same (l:List ClassM)(hl:l.length≤100000)(hc:SmallC l):FnOK Tryz.prog 39 [] [eClasses l,eClasses l] [] (eBool true):=by
 have hlm:(l.map oClass).length=l.length:=List.length_map ..
 refine FnOK.startC (rvs:=[.tmp 4]) G G_good Tryz.func39 rfl Tryz.ntmps39 rfl rfl ?_;with_reducible refine wD ?_
 (have fct:=hlm;(repeat' (first
  |refine gF ?_|refine aE ?_ ?_
  |apply trivial));all_goals clear fct)
 refine LoopK.use G G_good (fun(k:Nat)=>[(0,eClasses l),(1,eClasses l),(5,eInt k)]) (fun _=>[]) (fun k=>k≤l.length) (fun k=>l.length-k) 0 (Nat.zero_le _)
  ⟨⟨rfl,rfl⟩,⟨rfl,rfl,rfl,trivial⟩,trivial⟩ ?_
 intro k hk
 with_reducible refine wK ?_
 refine IfK.mk (fun h1=>?_) (fun h1=>?_)<;>(try simp only[castN] at h1)<;>with_reducible refine wK ?_
 ·have hk':k<l.length:=by simp only[decide_eq_true_eq] at h1;omega
  obtain⟨x,hx⟩:∃x,l[k]? =some x:=⟨_,List.getElem?_eq_getElem hk'⟩
  have hal:=f108_ok x x (hc x (List.mem_of_getElem? hx))
  rw[decide_eq_true rfl] at hal
  obtain⟨x1,x2,x3,x4,x5⟩:=x
  repeat' (first
  |refine gK ?_|refine aE ?_ ?_
  | ((first
   |((with_reducible show IdxK _ _ _ _ _);refine IdxK.mk k (eClass ⟨x1,x2,x3,x4,x5⟩) rfl (class_get hx) ?_)
   |((with_reducible refine kQ 108 ?_);refine cL hal c108 ?_)
   |((with_reducible show DrawK _ _ _ _);refine dK ?_)
   |((with_reducible show NextK _ _);refine NextK.mk (k+1) (by omega) (by omega) ⟨⟨rfl,rfl⟩,⟨rfl,rfl,by show((k+1:Nat):Int)=(k:Int)+1;omega,trivial⟩,trivial⟩))<;>with_reducible refine wK ?_)
  |apply trivial)
 ·repeat' (first
  |refine gK ?_|refine aE ?_ ?_
  |apply trivial)
theorem one_same (x:NodeM)(h1:x.attrs.length≤100000)(h2:x.kids.length≤100000):FnOK Tryz.prog 59 [] [eNode x,eNode x] [] (eBool true):=by
 have ha:=attrs_same x.attrs h1
 have hk:=f44_ok x.kids x.kids h2
 rw[decide_eq_true rfl] at hk
 obtain⟨x0,x1,x2,x3,x4,x5,x6,x7,x8,x9⟩:=x
 simp only at ha hk
 refine FnOK.startC (rvs:=[.tmp 4]) G G_good Tryz.func59 rfl Tryz.ntmps59 rfl rfl ?_;with_reducible refine wD ?_
 dsimp only[List.append];with_reducible refine wK ?_
 repeat' (first
  |refine gK ?_|refine aE ?_ ?_
  | ((first
   |((with_reducible refine kQ 126 ?_);refine cL ha c126 ?_)
   |((with_reducible refine kQ 44 ?_);refine cL hk c44 ?_))<;>with_reducible refine wK ?_)
  |apply trivial)
 all_goals first|rfl|(simp;done)
theorem for_same (f:ForM)(hs:SmallN f.nodes):FnOK Tryz.prog 37 [] [eFor f,eFor f] [] (eBool true):=by
 have hl1:=hs.len
 have hone:∀x∈f.nodes,FnOK Tryz.prog 59 [] [eNode x,eNode x] [] (eBool true):=fun x hx=>one_same x (by have:=hs.attrs x hx;omega) (by have:=hs.kids x hx;omega)
 obtain⟨l,m⟩:=f
 have hlm:(l.map oNode).length=l.length:=List.length_map ..
 simp only at hone hl1
 refine FnOK.startC (rvs:=[.tmp 4]) G G_good Tryz.func37 rfl Tryz.ntmps37 rfl rfl ?_;with_reducible refine wD ?_
 (have fct:=hlm;(repeat' (first
  |refine gF ?_|refine aE ?_ ?_
  |apply trivial));all_goals clear fct)
 refine LoopK.use G G_good (fun(k:Nat)=>[(2,.ptr 20 0 0),(3,.ptr 30 0 0),(5,eInt k)]) (fun _=>[(20,.live 2 [eFor ⟨l,m⟩] false),(30,.live 2 [eFor ⟨l,m⟩] false)]) (fun k=>k≤l.length) (fun k=>l.length-k) 0 (Nat.zero_le _)
  ⟨⟨rfl,rfl⟩,⟨⟨rfl,rfl⟩,⟨rfl,rfl⟩,rfl,trivial⟩,⟨⟨rfl,rfl,trivial⟩,trivial⟩,⟨⟨rfl,rfl,trivial⟩,trivial⟩,trivial⟩ ?_
 intro k0 hk0
 with_reducible refine wK ?_
 refine IfK.mk (fun h0=>?_) (fun h0=>?_)<;>(try simp only[castN] at h0)<;>with_reducible refine wK ?_
 ·have hk':k0<l.length:=by simp only[decide_eq_true_eq] at h0;omega
  obtain⟨x,hx⟩:∃x,l[k0]? =some x:=⟨_,List.getElem?_eq_getElem hk'⟩
  have hx1:=hone x (List.mem_of_getElem? hx)
  obtain⟨y0,y1,y2,y3,y4,y5,y6,y7,y8,y9⟩:=x
  repeat' (first
  |refine gK ?_|refine aE ?_ ?_
  | ((first
   |((with_reducible show IdxK _ _ _ _ _);refine IdxK.mk k0 (eNode ⟨y0,y1,y2,y3,y4,y5,y6,y7,y8,y9⟩) rfl (node_get hx) ?_)
   |((with_reducible refine kQ 59 ?_);refine cL hx1 c59 ?_)
   |((with_reducible show DrawK _ _ _ _);refine dK ?_)
   |((with_reducible show NextK _ _);refine NextK.mk (k0+1) (by omega) (by omega) ⟨⟨rfl,rfl⟩,⟨⟨rfl,rfl⟩,⟨rfl,rfl⟩,by show((k0+1:Nat):Int)=(k0:Int)+1;omega,trivial⟩,⟨⟨rfl,rfl,trivial⟩,trivial⟩,⟨⟨rfl,rfl,trivial⟩,trivial⟩,trivial⟩))<;>with_reducible refine wK ?_)
  |apply trivial)
 ·repeat' (first
  |refine gK ?_|refine aE ?_ ?_
  |apply trivial)
theorem desk_same (d:DeskM)(hd:SmallD d):FnOK Tryz.prog 38 [] [eDesk d,eDesk d] [] (eBool true):=by
 have hl1:=hd.defs
 have hl2:=hd.waits
 obtain⟨l,ws,nx,bz⟩:=d
 simp only at hl1 hl2
 have hlm:(l.map oDef).length=l.length:=List.length_map ..
 have hwm:(ws.map oWait).length=ws.length:=List.length_map ..
 refine FnOK.startC (rvs:=[.tmp 4]) G G_good Tryz.func38 rfl Tryz.ntmps38 rfl rfl ?_;with_reducible refine wD ?_
 (have fct:=And.intro hlm (hwm);(repeat' (first
  |refine gF ?_|refine aE ?_ ?_
  |apply trivial));all_goals clear fct)
 refine LoopK.use G G_good (fun(k:Nat)=>[(2,.ptr 20 0 0),(3,.ptr 30 0 0),(5,eInt k)]) (fun _=>[(20,.live 4 [eDesk ⟨l,ws,nx,bz⟩] false),(30,.live 4 [eDesk ⟨l,ws,nx,bz⟩] false)]) (fun k=>k≤l.length) (fun k=>l.length-k) 0 (Nat.zero_le _)
  ⟨⟨rfl,rfl⟩,⟨⟨rfl,rfl⟩,⟨rfl,rfl⟩,rfl,trivial⟩,⟨⟨rfl,rfl,rfl,rfl,trivial⟩,trivial⟩,⟨⟨rfl,rfl,rfl,rfl,trivial⟩,trivial⟩,trivial⟩ ?_
 intro k0 hk0
 with_reducible refine wK ?_
 refine IfK.mk (fun h0=>?_) (fun h0=>?_)<;>(try simp only[castN] at h0)<;>with_reducible refine wK ?_
 ·have hk':k0<l.length:=by simp only[decide_eq_true_eq] at h0;omega
  obtain⟨x,hx⟩:∃x,l[k0]? =some x:=⟨_,List.getElem?_eq_getElem hk'⟩
  obtain⟨y1,y2,y3⟩:=x
  repeat' (first
  |refine gK ?_|refine aE ?_ ?_
  | ((first
   |((with_reducible show IdxK _ _ _ _ _);refine IdxK.mk k0 (eDef ⟨y1,y2,y3⟩) rfl (def_get hx) ?_)
   |((with_reducible show EqK _ _ _ _ _ _ _ _);refine EqK.mk _ (fun y z w=>def_self ⟨y1,y2,y3⟩ y z w) ?_)
   |((with_reducible show DrawK _ _ _ _);refine dK ?_)
   |((with_reducible show NextK _ _);refine NextK.mk (k0+1) (by omega) (by omega) ⟨⟨rfl,rfl⟩,⟨⟨rfl,rfl⟩,⟨rfl,rfl⟩,by show((k0+1:Nat):Int)=(k0:Int)+1;omega,trivial⟩,⟨⟨rfl,rfl,rfl,rfl,trivial⟩,trivial⟩,⟨⟨rfl,rfl,rfl,rfl,trivial⟩,trivial⟩,trivial⟩))<;>with_reducible refine wK ?_)
  |apply trivial)
 ·repeat' (first
  |refine gK ?_|refine aE ?_ ?_
  |apply trivial)
  refine LoopK.use G G_good (fun(k:Nat)=>[(2,.ptr 20 0 0),(3,.ptr 30 0 0),(6,eInt k)]) (fun _=>[(20,.live 4 [eDesk ⟨l,ws,nx,bz⟩] false),(30,.live 4 [eDesk ⟨l,ws,nx,bz⟩] false)]) (fun k=>k≤ws.length) (fun k=>ws.length-k) 0 (Nat.zero_le _)
   ⟨⟨rfl,rfl⟩,⟨⟨rfl,rfl⟩,⟨rfl,rfl⟩,rfl,trivial⟩,⟨⟨rfl,rfl,rfl,rfl,trivial⟩,trivial⟩,⟨⟨rfl,rfl,rfl,rfl,trivial⟩,trivial⟩,trivial⟩ ?_
  intro k1 hk1
  with_reducible refine wK ?_
  refine IfK.mk (fun h1=>?_) (fun h1=>?_)<;>(try simp only[castN] at h1)<;>with_reducible refine wK ?_
  ·have hk':k1<ws.length:=by simp only[decide_eq_true_eq] at h1;omega
   obtain⟨x,hx⟩:∃x,ws[k1]? =some x:=⟨_,List.getElem?_eq_getElem hk'⟩
   obtain⟨y1,y2⟩:=x
   repeat' (first
  |refine gK ?_|refine aE ?_ ?_
  | ((first
   |((with_reducible show IdxK _ _ _ _ _);refine IdxK.mk k1 (eWait ⟨y1,y2⟩) rfl (wait_get hx) ?_)
   |((with_reducible show EqK _ _ _ _ _ _ _ _);refine EqK.mk _ (fun y z w=>wait_self ⟨y1,y2⟩ y z w) ?_)
   |((with_reducible show DrawK _ _ _ _);refine dK ?_)
   |((with_reducible show NextK _ _);refine NextK.mk (k1+1) (by omega) (by omega) ⟨⟨rfl,rfl⟩,⟨⟨rfl,rfl⟩,⟨rfl,rfl⟩,by show((k1+1:Nat):Int)=(k1:Int)+1;omega,trivial⟩,⟨⟨rfl,rfl,rfl,rfl,trivial⟩,trivial⟩,⟨⟨rfl,rfl,rfl,rfl,trivial⟩,trivial⟩,trivial⟩))<;>with_reducible refine wK ?_)
  |apply trivial)
  ·repeat' (first
  |refine gK ?_|refine aE ?_ ?_
  |apply trivial)
theorem line_same (l:LineM)(hs:SmL 99000 l):FnOK Tryz.prog 78 [] [eLine l,eLine l] [] (eBool true):=by
 have htd:∀x∈l.todos,FnOK Tryz.prog 43 [] [eTodos x,eTodos x] [] (eBool true):=fun x hx=>todos_same x (by have:=hs.todo x hx;omega)
 have hin:∀x∈l.stack,FnOK Tryz.prog 44 [] [eInts x,eInts x] [] (eBool true):=fun x hx=>by
  have:=f44_ok x x (by have:=hs.list x hx;omega)
  rwa [decide_eq_true rfl] at this
 have hbk:FnOK Tryz.prog 44 [] [eInts l.back,eInts l.back] [] (eBool true):=by
  have:=f44_ok l.back l.back (by have:=hs.back;omega)
  rwa [decide_eq_true rfl] at this
 have hl1:=hs.todos
 have hl2:=hs.stack
 obtain⟨a,b,c,d⟩:=l
 simp only at htd hin hbk hl1 hl2
 have ham:(a.map oTodos).length=a.length:=List.length_map ..
 have hbm:(b.map oInts).length=b.length:=List.length_map ..
 refine FnOK.startC (rvs:=[.tmp 4]) G G_good Tryz.func78 rfl Tryz.ntmps78 rfl rfl ?_;with_reducible refine wD ?_
 (have fct:=And.intro ham (hbm);(repeat' (first
  |refine gF ?_|refine aE ?_ ?_
  |(((with_reducible refine kQ 44 ?_);refine cL hbk c44 ?_)<;>with_reducible refine wK ?_)
  |apply trivial));all_goals clear fct)
 refine LoopK.use G G_good (fun(k:Nat)=>[(2,.ptr 20 0 0),(3,.ptr 30 0 0),(5,eInt k)]) (fun _=>[(20,.live 4 [eLine ⟨a,b,c,d⟩] false),(30,.live 4 [eLine ⟨a,b,c,d⟩] false)]) (fun k=>k≤a.length) (fun k=>a.length-k) 0 (Nat.zero_le _)
  ⟨⟨rfl,rfl⟩,⟨⟨rfl,rfl⟩,⟨rfl,rfl⟩,rfl,trivial⟩,⟨⟨rfl,rfl,rfl,rfl,trivial⟩,trivial⟩,⟨⟨rfl,rfl,rfl,rfl,trivial⟩,trivial⟩,trivial⟩ ?_
 intro k0 hk0
 with_reducible refine wK ?_
 refine IfK.mk (fun h0=>?_) (fun h0=>?_)<;>(try simp only[castN] at h0)<;>with_reducible refine wK ?_
 ·have hk':k0<a.length:=by simp only[decide_eq_true_eq] at h0;omega
  obtain⟨x,hx⟩:∃x,a[k0]? =some x:=⟨_,List.getElem?_eq_getElem hk'⟩
  have hx1:=htd x (List.mem_of_getElem? hx)
  skip
  repeat' (first
  |refine gK ?_|refine aE ?_ ?_
  | ((first
   |((with_reducible show IdxK _ _ _ _ _);refine IdxK.mk k0 (eTodos x) rfl (todos_get hx) ?_)
   |((with_reducible refine kQ 43 ?_);refine cL hx1 c43 ?_)
   |((with_reducible show DrawK _ _ _ _);refine dK ?_)
   |((with_reducible show NextK _ _);refine NextK.mk (k0+1) (by omega) (by omega) ⟨⟨rfl,rfl⟩,⟨⟨rfl,rfl⟩,⟨rfl,rfl⟩,by show((k0+1:Nat):Int)=(k0:Int)+1;omega,trivial⟩,⟨⟨rfl,rfl,rfl,rfl,trivial⟩,trivial⟩,⟨⟨rfl,rfl,rfl,rfl,trivial⟩,trivial⟩,trivial⟩))<;>with_reducible refine wK ?_)
  |apply trivial)
 ·repeat' (first
  |refine gK ?_|refine aE ?_ ?_
  |apply trivial)
  refine LoopK.use G G_good (fun(k:Nat)=>[(2,.ptr 20 0 0),(3,.ptr 30 0 0),(6,eInt k)]) (fun _=>[(20,.live 4 [eLine ⟨a,b,c,d⟩] false),(30,.live 4 [eLine ⟨a,b,c,d⟩] false)]) (fun k=>k≤b.length) (fun k=>b.length-k) 0 (Nat.zero_le _)
   ⟨⟨rfl,rfl⟩,⟨⟨rfl,rfl⟩,⟨rfl,rfl⟩,rfl,trivial⟩,⟨⟨rfl,rfl,rfl,rfl,trivial⟩,trivial⟩,⟨⟨rfl,rfl,rfl,rfl,trivial⟩,trivial⟩,trivial⟩ ?_
  intro k1 hk1
  with_reducible refine wK ?_
  refine IfK.mk (fun h1=>?_) (fun h1=>?_)<;>(try simp only[castN] at h1)<;>with_reducible refine wK ?_
  ·have hk':k1<b.length:=by simp only[decide_eq_true_eq] at h1;omega
   obtain⟨x,hx⟩:∃x,b[k1]? =some x:=⟨_,List.getElem?_eq_getElem hk'⟩
   have hx1:=hin x (List.mem_of_getElem? hx)
   skip
   repeat' (first
  |refine gK ?_|refine aE ?_ ?_
  | ((first
   |((with_reducible show IdxK _ _ _ _ _);refine IdxK.mk k1 (eInts x) rfl (ints_get hx) ?_)
   |((with_reducible refine kQ 44 ?_);refine cL hx1 c44 ?_)
   |((with_reducible show DrawK _ _ _ _);refine dK ?_)
   |((with_reducible show NextK _ _);refine NextK.mk (k1+1) (by omega) (by omega) ⟨⟨rfl,rfl⟩,⟨⟨rfl,rfl⟩,⟨rfl,rfl⟩,by show((k1+1:Nat):Int)=(k1:Int)+1;omega,trivial⟩,⟨⟨rfl,rfl,rfl,rfl,trivial⟩,trivial⟩,⟨⟨rfl,rfl,rfl,rfl,trivial⟩,trivial⟩,trivial⟩))<;>with_reducible refine wK ?_)
  |apply trivial)
  ·repeat' (first
  |refine gK ?_|refine aE ?_ ?_
  |apply trivial)
structure SmallW (w:WorldM):Prop where
 f:SmallN w.f.nodes
 st:w.states.length≤1000
 d:SmallD w.desk
 l:SmL 90000 w.line
 ta:w.tasks.length≤90000
 bu:w.builds.length≤90000
 cl:w.classes.length≤1000
 cs:SmallC w.classes
 nm:∀c∈w.classes,∀s∈c.watch,s.size≤300
theorem world_same (w:WorldM)(hs:SmallW w):FnOK Tryz.prog 23 [] [eWorld w,eWorld w] [] (eBool true):=by
 have h37:=for_same w.f hs.f
 have h42:=f42_ok w.states w.states (by have:=hs.st;omega)
 rw[decide_eq_true rfl] at h42
 have h38:=desk_same w.desk hs.d
 have h78:=line_same w.line (hs.l.mono (by omega))
 have h39:=classes_same w.classes (by have:=hs.cl;omega) hs.cs
 have hl1:=hs.ta
 have hl2:=hs.bu
 obtain⟨⟨l,m⟩,st,⟨d1,d2,d3,d4⟩,⟨a,b,c,d⟩,ta,bu,cs⟩:=w
 simp only at h37 h42 h38 h78 h39 hl1 hl2
 have ham:(ta.map oTask).length=ta.length:=List.length_map ..
 have hbm:(bu.map oBuild).length=bu.length:=List.length_map ..
 refine FnOK.startC (rvs:=[.tmp 4]) G G_good Tryz.func23 rfl Tryz.ntmps23 rfl rfl ?_;with_reducible refine wD ?_
 (have fct:=And.intro ham (hbm);(repeat' (first
  |refine gF ?_|refine aE ?_ ?_
  |apply trivial));all_goals clear fct)
 refine LoopK.use G G_good (fun(k:Nat)=>[(2,.ptr 20 0 0),(3,.ptr 30 0 0),(5,eInt k)]) (fun _=>[(20,.live 14 [eWorld ⟨⟨l,m⟩,st,⟨d1,d2,d3,d4⟩,⟨a,b,c,d⟩,ta,bu,cs⟩] false),(30,.live 14 [eWorld ⟨⟨l,m⟩,st,⟨d1,d2,d3,d4⟩,⟨a,b,c,d⟩,ta,bu,cs⟩] false)]) (fun k=>k≤ta.length) (fun k=>ta.length-k) 0 (Nat.zero_le _)
  ⟨⟨rfl,rfl⟩,⟨⟨rfl,rfl⟩,⟨rfl,rfl⟩,rfl,trivial⟩,⟨⟨rfl,rfl,rfl,rfl,rfl,rfl,rfl,rfl,rfl,rfl,rfl,rfl,rfl,rfl,trivial⟩,trivial⟩,⟨⟨rfl,rfl,rfl,rfl,rfl,rfl,rfl,rfl,rfl,rfl,rfl,rfl,rfl,rfl,trivial⟩,trivial⟩,trivial⟩ ?_
 intro k0 hk0
 with_reducible refine wK ?_
 refine IfK.mk (fun h0=>?_) (fun h0=>?_)<;>(try simp only[castN] at h0)<;>with_reducible refine wK ?_
 ·have hk':k0<ta.length:=by simp only[decide_eq_true_eq] at h0;omega
  obtain⟨x,hx⟩:∃x,ta[k0]? =some x:=⟨_,List.getElem?_eq_getElem hk'⟩
  obtain⟨y1,y2,y3⟩:=x
  repeat' (first
  |refine gK ?_|refine aE ?_ ?_
  | ((first
   |((with_reducible show IdxK _ _ _ _ _);refine IdxK.mk k0 (eTask ⟨y1,y2,y3⟩) rfl (task_get hx) ?_)
   |((with_reducible show EqK _ _ _ _ _ _ _ _);refine EqK.mk _ (fun y z w=>task_self ⟨y1,y2,y3⟩ y z w) ?_)
   |((with_reducible show DrawK _ _ _ _);refine dK ?_)
   |((with_reducible show NextK _ _);refine NextK.mk (k0+1) (by omega) (by omega) ⟨⟨rfl,rfl⟩,⟨⟨rfl,rfl⟩,⟨rfl,rfl⟩,by show((k0+1:Nat):Int)=(k0:Int)+1;omega,trivial⟩,⟨⟨rfl,rfl,rfl,rfl,rfl,rfl,rfl,rfl,rfl,rfl,rfl,rfl,rfl,rfl,trivial⟩,trivial⟩,⟨⟨rfl,rfl,rfl,rfl,rfl,rfl,rfl,rfl,rfl,rfl,rfl,rfl,rfl,rfl,trivial⟩,trivial⟩,trivial⟩))<;>with_reducible refine wK ?_)
  |apply trivial)
 ·repeat' (first
  |refine gK ?_|refine aE ?_ ?_
  |apply trivial)
  refine LoopK.use G G_good (fun(k:Nat)=>[(2,.ptr 20 0 0),(3,.ptr 30 0 0),(6,eInt k)]) (fun _=>[(20,.live 14 [eWorld ⟨⟨l,m⟩,st,⟨d1,d2,d3,d4⟩,⟨a,b,c,d⟩,ta,bu,cs⟩] false),(30,.live 14 [eWorld ⟨⟨l,m⟩,st,⟨d1,d2,d3,d4⟩,⟨a,b,c,d⟩,ta,bu,cs⟩] false)]) (fun k=>k≤bu.length) (fun k=>bu.length-k) 0 (Nat.zero_le _)
   ⟨⟨rfl,rfl⟩,⟨⟨rfl,rfl⟩,⟨rfl,rfl⟩,rfl,trivial⟩,⟨⟨rfl,rfl,rfl,rfl,rfl,rfl,rfl,rfl,rfl,rfl,rfl,rfl,rfl,rfl,trivial⟩,trivial⟩,⟨⟨rfl,rfl,rfl,rfl,rfl,rfl,rfl,rfl,rfl,rfl,rfl,rfl,rfl,rfl,trivial⟩,trivial⟩,trivial⟩ ?_
  intro k1 hk1
  with_reducible refine wK ?_
  refine IfK.mk (fun h1=>?_) (fun h1=>?_)<;>(try simp only[castN] at h1)<;>with_reducible refine wK ?_
  ·have hk':k1<bu.length:=by simp only[decide_eq_true_eq] at h1;omega
   obtain⟨x,hx⟩:∃x,bu[k1]? =some x:=⟨_,List.getElem?_eq_getElem hk'⟩
   obtain⟨y1,y2⟩:=x
   repeat' (first
  |refine gK ?_|refine aE ?_ ?_
  | ((first
   |((with_reducible show IdxK _ _ _ _ _);refine IdxK.mk k1 (eBuild ⟨y1,y2⟩) rfl (build_get hx) ?_)
   |((with_reducible show EqK _ _ _ _ _ _ _ _);refine EqK.mk _ (fun y z w=>build_self ⟨y1,y2⟩ y z w) ?_)
   |((with_reducible show DrawK _ _ _ _);refine dK ?_)
   |((with_reducible show NextK _ _);refine NextK.mk (k1+1) (by omega) (by omega) ⟨⟨rfl,rfl⟩,⟨⟨rfl,rfl⟩,⟨rfl,rfl⟩,by show((k1+1:Nat):Int)=(k1:Int)+1;omega,trivial⟩,⟨⟨rfl,rfl,rfl,rfl,rfl,rfl,rfl,rfl,rfl,rfl,rfl,rfl,rfl,rfl,trivial⟩,trivial⟩,⟨⟨rfl,rfl,rfl,rfl,rfl,rfl,rfl,rfl,rfl,rfl,rfl,rfl,rfl,rfl,trivial⟩,trivial⟩,trivial⟩))<;>with_reducible refine wK ?_)
  |apply trivial)
  ·repeat' (first
  |refine gK ?_|refine aE ?_ ?_
  | ((first
   |((with_reducible refine kQ 37 ?_);refine cL h37 c37 ?_)
   |((with_reducible refine kQ 42 ?_);refine cL h42 c42 ?_)
   |((with_reducible refine kQ 38 ?_);refine cL h38 c38 ?_)
   |((with_reducible refine kQ 78 ?_);refine cL h78 c78 ?_)
   |((with_reducible refine kQ 39 ?_);refine cL h39 c39 ?_))<;>with_reducible refine wK ?_)
  | apply trivial)
   all_goals first|rfl|(simp;done)
@[reducible] def mW (w : WorldM) : MS := .live 14 [eWorld w] false
theorem whBadC_ok (c:ClassM)(h1:c.watch.length≤100000)(h2:c.hooks.length≤100000)(h3:∀s∈c.watch,s.size≤300):FnOK Tryz.prog 205 [] [eClass c] [] (eBool (!allowedC c)):=by
 have ha:=wAllowed_ok c h1 h2 h3
 obtain⟨c1,c2,c3,c4,c5⟩:=c
 refine FnOK.startC (rvs:=[.tmp 2]) G G_good Tryz.func205 rfl Tryz.ntmps205 rfl rfl ?_;with_reducible refine wD ?_
 repeat' (first
  |refine gK ?_|refine aE ?_ ?_
  |(((with_reducible refine kQ 26 ?_);refine cL ha c26 ?_)<;>with_reducible refine wK ?_)
  |apply trivial)
 all_goals rfl
theorem whFar_ok (w:WorldM)(x:DefM):FnOK Tryz.prog 206 [] [eDef x,.fptr (eWorld w) 0] [] (eBool (decide ((w.classes.length:Int)≤x.cls))):=by
 obtain⟨⟨l,m⟩,st,⟨d1,d2,d3,d4⟩,⟨a,b,c,d⟩,ta,bu,cs⟩:=w
 have hlm:(cs.map oClass).length=cs.length:=List.length_map ..
 obtain⟨x1,x2,x3⟩:=x
 refine FnOK.startC (rvs:=[.tmp 3]) G G_good Tryz.func206 rfl Tryz.ntmps206 rfl rfl ?_;with_reducible refine wD ?_
 (have fct:=hlm;(repeat' (first
  |refine gF ?_|refine aE ?_ ?_
  |apply trivial));all_goals clear fct)
 all_goals first|(simp;done)
theorem whClasses_ok (w:WorldM)(hs:SmallW w):FnOK Tryz.prog 143 [] [eWorld w] [] (eBool (classesG w)):=by
 have a1:=FnOK.fn1 (cfCl_ok 205 c205 [] rfl (fun c=> !allowedC c) w.classes (by have:=hs.cl;omega) (fun c hc=>whBadC_ok c (hs.cs c hc).watch (hs.cs c hc).hooks (hs.nm c hc)))
 have hnr:noRefL [AV.fptr (eWorld w) 0]=true:=rfl
 have a2:=cfDf_ok 206 c206 [.fptr (eWorld w) 0] hnr (fun x=>decide ((w.classes.length:Int)≤x.cls)) w.desk.defs (by have:=hs.d.defs;omega) (fun x _=>whFar_ok w x)
 unfold classesG
 obtain⟨⟨l,m⟩,st,⟨d1,d2,d3,d4⟩,⟨a,b,c,d⟩,ta,bu,cs⟩:=w
 simp only at a1 a2 ⊢
 have hlm:(cs.map oClass).length=cs.length:=List.length_map ..
 generalize(cs.any fun c=> !allowedC c)=p1 at*
 generalize(d1.any fun x=>decide ((cs.length:Int)≤x.cls))=p2 at*
 by_cases e1:(cs.length:Int)≤12
 ·rw[decide_eq_true (show cs.length≤12 by omega)]
  have g1:decide (((cs.map oClass).length:Int)≤12)=true:=decide_eq_true (by rw[hlm];exact e1)
  cases p1<;>cases p2<;>
  ·refine FnOK.startC (rvs:=[.tmp 2]) G G_good Tryz.func143 rfl Tryz.ntmps143 rfl rfl ?_;with_reducible refine wD ?_
   repeat' (first
  |refine gK ?_|refine aE ?_ ?_
  | ((first
   |((with_reducible refine kQ 207 ?_);refine cL a1 c207 ?_)
   |((with_reducible refine kQ 208 ?_);refine CallK.lit [10] a2 c208 ⟨rfl,⟨rfl,trivial,⟨_,_,_,_,_,rfl,rfl,rfl,rfl,rfl,⟨rfl,rfl,rfl,rfl,rfl,rfl,rfl,rfl,rfl,rfl,rfl,rfl,rfl,rfl,trivial⟩⟩,trivial⟩,trivial⟩ rfl rfl ?_))<;>with_reducible refine wK ?_)
  | apply trivial)
   all_goals first|rfl|(simp;done)
 ·rw[decide_eq_false (show ¬cs.length≤12 by omega)]
  have g1:decide (((cs.map oClass).length:Int)≤12)=false:=decide_eq_false (by rw[hlm];exact e1)
  refine FnOK.startC (rvs:=[.tmp 2]) G G_good Tryz.func143 rfl Tryz.ntmps143 rfl rfl ?_;with_reducible refine wD ?_
  repeat' (first
  |refine gK ?_|refine aE ?_ ?_
  |apply trivial)
  all_goals first|rfl|(simp;done)
theorem whBadT_ok (w:WorldM)(t:TodoM):FnOK Tryz.prog 148 [] [eTodo t,.fptr (eWorld w) 0] [] (eBool (!todoG w t)):=by
 have h:=whTodo_ok w t
 generalize todoG w t=g at*
 obtain⟨⟨l,m⟩,st,⟨d1,d2,d3,d4⟩,⟨a,b,c,d⟩,ta,bu,cs⟩:=w
 obtain⟨x0,x1,x2,x3,x4,x5,x6,x7,x8,x9⟩:=t
 refine FnOK.startC (rvs:=[.tmp 3]) G G_good Tryz.func148 rfl Tryz.ntmps148 rfl rfl ?_;with_reducible refine wD ?_
 repeat' (first
  |refine gK ?_|refine aE ?_ ?_
  |(((with_reducible refine kQ 96 ?_);refine cL h c96 ?_)<;>with_reducible refine wK ?_)
  |apply trivial)
 all_goals rfl
theorem whBadK_ok (w:WorldM)(t:TaskM):FnOK Tryz.prog 150 [] [eTask t,.fptr (eWorld w) 0] [] (eBool (!taskG w t)):=by
 have h:=whTask_ok w t
 generalize taskG w t=g at*
 obtain⟨⟨l,m⟩,st,⟨d1,d2,d3,d4⟩,⟨a,b,c,d⟩,ta,bu,cs⟩:=w
 obtain⟨x0,x1,x2⟩:=t
 refine FnOK.startC (rvs:=[.tmp 3]) G G_good Tryz.func150 rfl Tryz.ntmps150 rfl rfl ?_;with_reducible refine wD ?_
 repeat' (first
  |refine gK ?_|refine aE ?_ ?_
  |(((with_reducible refine kQ 151 ?_);refine cL h c151 ?_)<;>with_reducible refine wK ?_)
  |apply trivial)
 all_goals rfl
theorem whBadB_ok (w:WorldM)(t:BuildM):FnOK Tryz.prog 153 [] [eBuild t,.fptr (eWorld w) 0] [] (eBool (!buildG w t)):=by
 have h:=whBuild_ok w t
 generalize buildG w t=g at*
 obtain⟨⟨l,m⟩,st,⟨d1,d2,d3,d4⟩,⟨a,b,c,d⟩,ta,bu,cs⟩:=w
 obtain⟨x0,x1⟩:=t
 refine FnOK.startC (rvs:=[.tmp 3]) G G_good Tryz.func153 rfl Tryz.ntmps153 rfl rfl ?_;with_reducible refine wD ?_
 repeat' (first
  |refine gK ?_|refine aE ?_ ?_
  |(((with_reducible refine kQ 154 ?_);refine cL h c154 ?_)<;>with_reducible refine wK ?_)
  |apply trivial)
 all_goals rfl
theorem rightG_no {w:WorldM}(h:headG w=false):rightG w=false:=by unfold rightG;rw[h];rfl
theorem rightG_node {w:WorldM}{k:Nat}(hk:k<w.line.todos.length)(h:nodeG w k=false):rightG w=false:=by
 unfold rightG
 have:(List.range w.line.todos.length).all (fun n:Nat=>nodeG w n)=false:=by
  rw[List.all_eq_false]
  exact⟨k,List.mem_range.2 hk,by rw[h];simp⟩
 rw[this];simp
theorem rightG_yes {w:WorldM}(h:headG w=true)(h2:∀k:Nat,k<w.line.todos.length→nodeG w k=true):rightG w=tailG w:=by
 unfold rightG
 have:(List.range w.line.todos.length).all (fun n:Nat=>nodeG w n)=true:=by
  rw[List.all_eq_true]
  exact fun n hn=>h2 n (List.mem_range.1 hn)
 rw[this,h];simp
theorem whRight_ok (w:WorldM)(hs:SmallW w):FnOK Tryz.prog 75 [] [eWorld w] [] (eBool (rightG w)):=by
 have h143:=whClasses_ok w hs
 have h100:=f100_ok w.f hs.f
 have h144:=f144_ok w.desk hs.d
 have h145:=lnRight_ok w.line (hs.l.mono (by omega))
 have hnode:=fun k=>rightG_node (w:=w) (k:=k)
 have hyes:=rightG_yes (w:=w)
 have hno:=rightG_no (w:=w)
 obtain⟨hg,hhg⟩:∃g,headG w=g:=⟨_,rfl⟩
 rw[hhg] at hyes hno
 have hh:=hhg
 unfold headG at hh
 cases hg with
 | false =>
   rw[hno rfl]
   clear hno hyes hnode hhg
   generalize classesG w=g1 at*
   generalize rightF w.f=g2 at*
   generalize rightD w.desk=g3 at*
   generalize lnR w.line=g4 at*
   obtain⟨⟨l,m⟩,st,⟨d1,d2,d3,d4⟩,⟨a,b,c,d⟩,ta,bu,cs⟩:=w
   simp only at h100 h144 h145 hh
   have n1:(l.map oNode).length=l.length:=List.length_map ..
   have n2:(st.map oState).length=st.length:=List.length_map ..
   have n3:(a.map oTodos).length=a.length:=List.length_map ..
   by_cases e1:(st.length:Int)=(l.length:Int)
   ·by_cases e2:(a.length:Int)=(l.length:Int)
    ·rw [decide_eq_true (show st.length=l.length by omega),decide_eq_true (show a.length=l.length by omega)] at hh
     cases g1<;>cases g2<;>cases g3<;>cases g4<;>first
      |(exfalso;revert hh;decide)
      | (refine FnOK.startC (rvs:=[.tmp 2]) G G_good Tryz.func75 rfl Tryz.ntmps75 rfl rfl ?_;with_reducible refine wD ?_
         (have fct:=And.intro n1 (And.intro n2 (And.intro n3 (And.intro (eq_true e1) ((eq_true e2)))));(repeat' (first
  |refine gF ?_|refine aE ?_ ?_
  | ((first
   |((with_reducible refine kQ 143 ?_);refine cL h143 c143 ?_)
   |((with_reducible refine kQ 100 ?_);refine cL h100 c100 ?_)
   |((with_reducible refine kQ 144 ?_);refine cL h144 c144 ?_)
   |((with_reducible refine kQ 145 ?_);refine cL h145 c145 ?_))<;>with_reducible refine wK ?_)
  | apply trivial));all_goals clear fct))
    ·refine FnOK.startC (rvs:=[.tmp 2]) G G_good Tryz.func75 rfl Tryz.ntmps75 rfl rfl ?_;with_reducible refine wD ?_
     (have fct:=And.intro n1 (And.intro n2 (And.intro n3 (And.intro (eq_true e1) ((eq_false e2)))));(repeat' (first
  |refine gF ?_|refine aE ?_ ?_
  | apply trivial));all_goals clear fct)
   ·refine FnOK.startC (rvs:=[.tmp 2]) G G_good Tryz.func75 rfl Tryz.ntmps75 rfl rfl ?_;with_reducible refine wD ?_
    (have fct:=And.intro n1 (And.intro n2 ((eq_false e1)));(repeat' (first
  |refine gF ?_|refine aE ?_ ?_
  |apply trivial));all_goals clear fct)
 | true =>
   have hyes:=hyes rfl
   clear hno hhg
   simp only[Bool.and_eq_true,decide_eq_true_eq] at hh
   obtain⟨⟨⟨⟨⟨q1,q2⟩,q3⟩,q4⟩,q5⟩,q6⟩:=hh
   rw[q3] at h143
   rw[q4] at h100
   rw[q5] at h144
   rw[q6] at h145
   have hst:=fun k x s=>whState_ok w k x s
   have hnr:noRefL [AV.fptr (eWorld w) 0]=true:=rfl
   have hcf:=fun y (hy:y∈w.line.todos)=>cfTd_ok 148 c148 [.fptr (eWorld w) 0] hnr (fun t=> !todoG w t) y (by have:=hs.l.todo y hy;omega) (fun t _=>whBadT_ok w t)
   have htk:=cfTk_ok 150 c150 [.fptr (eWorld w) 0] hnr (fun t=> !taskG w t) w.tasks (by have:=hs.ta;omega) (fun t _=>whBadK_ok w t)
   have hbk:=cfBu_ok 153 c153 [.fptr (eWorld w) 0] hnr (fun t=> !buildG w t) w.builds (by have:=hs.bu;omega) (fun t _=>whBadB_ok w t)
   have hnG:∀ (k:Nat) x s y,w.f.nodes[k]? =some x→w.states[k]? =some s→w.line.todos[k]? =some y→nodeG w k=(stateOK w x s&& !(y.any fun t=> !todoG w t)):=fun k x s y hx hs hy=>by
    unfold nodeG stateG;rw[nd_get hx,stOf_get hs,tdAt_get rfl hy]
   unfold tailG at hyes
   generalize rightG w=res at*
   have hlen:=hs.f.len
   generalize(w.tasks.any fun t=> !taskG w t)=p1 at*
   generalize(w.builds.any fun t=> !buildG w t)=p2 at*
   generalize hN:nodeG w=N at*
   clear hN
   obtain⟨⟨l,m⟩,st,⟨d1,d2,d3,d4⟩,⟨a,b,c,d⟩,ta,bu,cs⟩:=w
   simp only at h100 h144 h145 q1 q2 hst hcf htk hbk hnG hlen hyes hnode
   have n1:(l.map oNode).length=l.length:=List.length_map ..
   have n2:(st.map oState).length=st.length:=List.length_map ..
   have n3:(a.map oTodos).length=a.length:=List.length_map ..
   have e1:(st.length:Int)=(l.length:Int):=by omega
   have e2:(a.length:Int)=(l.length:Int):=by omega
   refine FnOK.startC (rvs:=[.tmp 2]) G G_good Tryz.func75 rfl Tryz.ntmps75 rfl rfl ?_;with_reducible refine wD ?_
   (have fct:=And.intro n1 (And.intro n2 (And.intro n3 (And.intro (eq_true e1) ((eq_true e2)))));(repeat' (first
  |refine gF ?_|refine aE ?_ ?_
  | ((first
   |((with_reducible refine kQ 143 ?_);refine cL h143 c143 ?_)
   |((with_reducible refine kQ 100 ?_);refine cL h100 c100 ?_)
   |((with_reducible refine kQ 144 ?_);refine cL h144 c144 ?_)
   |((with_reducible refine kQ 145 ?_);refine cL h145 c145 ?_))<;>with_reducible refine wK ?_)
  | apply trivial));all_goals clear fct)
   refine LoopK.use G G_good (fun(k:Nat)=>[(1,.ptr 10 0 0),(55,eTodoss a),(56,eInt a.length),(57,eInt k)]) (fun _=>[(10,mW ⟨⟨l,m⟩,st,⟨d1,d2,d3,d4⟩,⟨a,b,c,d⟩,ta,bu,cs⟩)])
    (fun k=>k≤a.length∧∀j:Nat,j<k→N j=true) (fun k=>a.length-k) 0 ⟨Nat.zero_le _,fun j h=>by omega⟩ ?_ ?_
   ·(refine fK ?_;(with_reducible repeat' (first|exact trivial|(show _∧_;refine aK ?_ ?_)));(all_goals try rfl))
    all_goals first|(show(a.length:Int)=_;rw[n3])
   rintro k ⟨hk,hok⟩
   with_reducible refine wK ?_
   refine IfK.mk (fun h1=>?_) (fun h1=>?_)<;>(try simp only[castN] at h1)<;>with_reducible refine wK ?_
   ·have hk':k<a.length:=by simp only[decide_eq_true_eq] at h1;omega
    obtain⟨x,hx⟩:∃x,l[k]? =some x:=⟨_,List.getElem?_eq_getElem (by omega)⟩
    obtain⟨s,hsx⟩:∃x,st[k]? =some x:=⟨_,List.getElem?_eq_getElem (by omega)⟩
    obtain⟨y,hy⟩:∃x,a[k]? =some x:=⟨_,List.getElem?_eq_getElem hk'⟩
    have hstk:=hst k x s hx hsx
    have hcfk:=hcf y (List.mem_of_getElem? hy)
    have hnk:=hnG k x s y hx hsx hy
    generalize stateOK ⟨⟨l,m⟩,st,⟨d1,d2,d3,d4⟩,⟨a,b,c,d⟩,ta,bu,cs⟩ x s=v1 at*
    generalize(y.any fun t=> !todoG ⟨⟨l,m⟩,st,⟨d1,d2,d3,d4⟩,⟨a,b,c,d⟩,ta,bu,cs⟩ t)=v2 at*
    have hbadk:=fun h=>hnode k hk' (hnk.trans h)
    clear h1
    cases v1<;>cases v2
    case true.false=>
     repeat' (first
  |refine gK ?_|refine aE ?_ ?_
  | ((first
   |((with_reducible refine kQ 146 ?_);refine cL hstk c146 ?_)
   |((with_reducible show IdxK _ _ _ _ _);refine IdxK.mk k (eTodos y) rfl (todos_get hy) ?_)
   | ((with_reducible refine kQ 147 ?_);refine CallK.lit [10] hcfk c147
       ⟨rfl,⟨rfl,trivial,⟨_,_,_,_,_,rfl,rfl,rfl,rfl,rfl,⟨rfl,rfl,rfl,rfl,rfl,rfl,rfl,rfl,rfl,rfl,rfl,rfl,rfl,rfl,trivial⟩⟩,trivial⟩,trivial⟩
       rfl rfl ?_))<;>with_reducible refine wK ?_)
  | apply trivial)
     refine NextK.mk (k+1) ⟨by omega,fun j hj=>?_⟩ (by omega) ?_
     ·rcases Nat.lt_or_ge j k with h6|h6
      ·exact hok j h6
      ·have:j=k:=by omega
       subst this
       exact hnk
     (refine fK ?_;(with_reducible repeat' (first|exact trivial|(show _∧_;refine aK ?_ ?_)));(all_goals try rfl))
     all_goals first|(simp;done)
    all_goals
     have hr:=hbadk rfl
     repeat' (first
  |refine gK ?_|refine aE ?_ ?_
  | ((first
   |((with_reducible refine kQ 146 ?_);refine cL hstk c146 ?_)
   |((with_reducible show IdxK _ _ _ _ _);refine IdxK.mk k (eTodos y) rfl (todos_get hy) ?_)
   | ((with_reducible refine kQ 147 ?_);refine CallK.lit [10] hcfk c147
       ⟨rfl,⟨rfl,trivial,⟨_,_,_,_,_,rfl,rfl,rfl,rfl,rfl,⟨rfl,rfl,rfl,rfl,rfl,rfl,rfl,rfl,rfl,rfl,rfl,rfl,rfl,rfl,trivial⟩⟩,trivial⟩,trivial⟩
       rfl rfl ?_))<;>with_reducible refine wK ?_)
  | apply trivial)
     all_goals first|exact hr|exact hr.symm
   ·have hkl:k=a.length:=by simp only[decide_eq_false_iff_not] at h1;omega
    have hr:=hyes fun j hj=>hok j (by omega)
    clear h1
    rw[hr]
    cases p1<;>cases p2
    all_goals
     repeat' (first
  |refine gK ?_|refine aE ?_ ?_
  | ((first
   | ((with_reducible refine kQ 149 ?_);refine CallK.lit [10] htk c149
       ⟨rfl,⟨rfl,trivial,⟨_,_,_,_,_,rfl,rfl,rfl,rfl,rfl,⟨rfl,rfl,rfl,rfl,rfl,rfl,rfl,rfl,rfl,rfl,rfl,rfl,rfl,rfl,trivial⟩⟩,trivial⟩,trivial⟩
       rfl rfl ?_)
   | ((with_reducible refine kQ 152 ?_);refine CallK.lit [10] hbk c152
       ⟨rfl,⟨rfl,trivial,⟨_,_,_,_,_,rfl,rfl,rfl,rfl,rfl,⟨rfl,rfl,rfl,rfl,rfl,rfl,rfl,rfl,rfl,rfl,rfl,rfl,rfl,rfl,trivial⟩⟩,trivial⟩,trivial⟩
       rfl rfl ?_))<;>with_reducible refine wK ?_)
  |apply trivial)
     all_goals first|rfl|(simp;done)
theorem wRight_ok (w:WorldM)(hs:SmallW w):FnOK Tryz.prog 19 [] [eWorld w] [] (eBool (rightG w)):=by
 have h:=whRight_ok w hs
 generalize rightG w=g at*
 obtain⟨⟨l,m⟩,st,⟨d1,d2,d3,d4⟩,⟨a,b,c,d⟩,ta,bu,cs⟩:=w
 refine FnOK.startC (rvs:=[.tmp 2]) G G_good Tryz.func19 rfl Tryz.ntmps19 rfl rfl ?_;with_reducible refine wD ?_
 repeat' (first
  |refine gK ?_|refine aE ?_ ?_
  |(((with_reducible refine kQ 75 ?_);refine cL h c75 ?_)<;>with_reducible refine wK ?_)
  |apply trivial)
 all_goals rfl

theorem RightG.cls {w:WorldM}(R:RightG w):w.classes.length≤12∧(∀c∈w.classes,allowedC c=true)∧∀x∈w.desk.defs,x.cls< (w.classes.length:Int):=by
 have h:=R.cl
 unfold classesG at h
 simp only[Bool.and_eq_true,decide_eq_true_eq,Bool.not_eq_true',List.any_eq_false,decide_eq_true_eq] at h
 refine⟨h.1.1,fun c hc=>?_,fun x hx=>?_⟩
 ·have:=h.1.2 c hc
  simpa using this
 ·have:=h.2 x hx
  omega
@[reducible] def eWorldT (w : WorldM) (t : AV) : AV := .agg [eNodes w.f.nodes, eInt w.f.most, eStates w.states, eDefs w.desk.defs, eWaits w.desk.waits, eInt w.desk.next, eBool w.desk.busy, eTodoss w.line.todos, eIntss w.line.stack, eInts w.line.back, eBool w.line.busy, t, eBuilds w.builds, eClasses w.classes]
theorem wBorn_ok (x:NodeM):FnOK Tryz.prog 89 [] [eNode x] [] (eState (bornS x)):=by
 have h:=f41_ok x.name x.is
 unfold bornS
 obtain⟨y0,y1,y2,y3,y4,y5,y6,y7,y8,y9⟩:=x
 simp only at h ⊢
 by_cases e:y0=1
 ·rw[if_pos e]
  refine FnOK.startC (rvs:=[.cell 2 75]) G G_good Tryz.func89 rfl Tryz.ntmps89 rfl rfl ?_;with_reducible refine wD ?_
  (have fct:=e;(repeat' (first
  |refine gF ?_|refine aE ?_ ?_
  |(((with_reducible refine kQ 41 ?_);refine cL h c41 ?_)<;>with_reducible refine wK ?_)
  |apply trivial));all_goals clear fct)
 ·rw[if_neg e]
  refine FnOK.startC (rvs:=[.cell 2 75]) G G_good Tryz.func89 rfl Tryz.ntmps89 rfl rfl ?_;with_reducible refine wD ?_
  (have fct:=(eq_false e);(repeat' (first
  |refine gF ?_|refine aE ?_ ?_
  |apply trivial));all_goals clear fct)
theorem whBadD_ok (w:WorldM)(x:DueN):FnOK Tryz.prog 94 [] [eDueN x,.fptr (eWorld w) 0] [] (eBool (!dueOK w x)):=by
 have h1:=whNode_ok w x.node
 have h2:=whTodo_ok w x.todo
 unfold dueOK
 obtain⟨n,x0,x1,x2,x3,x4,x5,x6,x7,x8,x9⟩:=x
 simp only at h1 h2 ⊢
 generalize thereN w.f.nodes n=g1 at*
 generalize todoG w ⟨x0,x1,x2,x3,x4,x5,x6,x7,x8,x9⟩=g2 at*
 obtain⟨⟨l,m⟩,st,⟨d1,d2,d3,d4⟩,⟨a,b,c,d⟩,ta,bu,cs⟩:=w
 cases g1<;>cases g2
 all_goals
  refine FnOK.startC (rvs:=[.tmp 3]) G G_good Tryz.func94 rfl Tryz.ntmps94 rfl rfl ?_;with_reducible refine wD ?_
  repeat' (first
  |refine gK ?_|refine aE ?_ ?_
  | ((first
   |((with_reducible refine kQ 95 ?_);refine cL h1 c95 ?_)
   |((with_reducible refine kQ 96 ?_);refine cL h2 c96 ?_))<;>with_reducible refine wK ?_)
  |apply trivial)
  all_goals first|rfl
theorem enl_at {w:WorldM}{due:List DueN}(R:RightG w)(h:∀d∈due,dueOK w d=true)(k:Nat):RightG (enlW w (due.take k)):=enl_right _ w R fun d hd=>h d (List.mem_of_mem_take hd)
theorem enl_in {w:WorldM}{due:List DueN}(R:RightG w)(h:∀d∈due,dueOK w d=true){k:Nat}{x:DueN}(hx:due[k]? =some x):(lnR (enlW w (due.take k)).line&&inLn (enlW w (due.take k)).line x.node)=true:=by
 have R2:=enl_at R h k
 rw[R2.ln,in_node R2,Bool.true_and,enl_f]
 have:=h x (List.mem_of_getElem? hx)
 unfold dueOK at this
 rw[Bool.and_eq_true] at this
 exact this.1
theorem enl_tlen2 (w:WorldM)(due:List DueN):(enlW w due).tasks.length≤w.tasks.length+1:=by
 rw[enl_tasks,List.length_append]
 split<;>simp
theorem whEnlist_ok (w:WorldM)(hs:SmallW w)(due:List DueN)(hd:due.length≤5000)(R:RightG w)(hdue:∀d∈due,dueOK w d=true):FnOK Tryz.prog 98 [mW w] [.ptr 0 0 0,eDuesN due] [mW (enlW w due)] (.tup []):=by
 have hcl:=cltasks_ok w.tasks (by have:=hs.ta;omega)
 obtain⟨L,hL⟩:∃L:Nat→LineM,L=fun k=>(enlW w (due.take k)).line:=⟨_,rfl⟩
 obtain⟨T,hT⟩:∃T:Nat→List TaskM,T=fun k=>(enlW w (due.take k)).tasks:=⟨_,rfl⟩
 have hadd:∀ (k:Nat) x,due[k]? =some x→FnOK Tryz.prog 165 [] [eLine (L k),eInt x.node,eTodo x.todo] [] (.tup [eLine (L (k+1)),eBool (lnTell (L k)),eInt 0]):=fun k x hx=>by
  have hk:=(List.getElem?_eq_some_iff.1 hx).1
  have:=lnAdd_ok (L k) (by rw[hL];exact(enl_sm _ w 90000 hs.l).mono (by rw[List.length_take];omega)) x.node x.todo
  rw[addW_yes (by rw[hL];exact enl_in R hdue hx)] at this
  have e:L (k+1)=lnAdd (L k) x.node x.todo:=by rw[hL];show(enlW w (due.take (k+1))).line=_;rw[enl_step hx];rfl
  rw[e];exact this
 have hTs:∀ (k:Nat) x,due[k]? =some x→T (k+1)=if lnTell (L k)=true then T k++ [drainT] else T k:=fun k x hx=>by
  rw[hT,hL];show(enlW w (due.take (k+1))).tasks=_;rw[enl_step hx];rfl
 have hTl:∀k,(T k).length≤90001:=fun k=>by
  rw[hT];have:=enl_tlen2 w (due.take k);have:=hs.ta;show(enlW w (due.take k)).tasks.length≤_;omega
 have hL0:L 0=w.line:=by rw[hL];rfl
 have hT0:T 0=w.tasks:=by rw[hT];rfl
 have hend:enlW w due={w with line:=L due.length,tasks:=T due.length}:=by
  rw[hL,hT]
  simp only[List.take_length]
  have e1:=enl_f due w
  have e2:=enl_states due w
  have e3:=enl_desk due w
  have e4:=enl_builds due w
  have e5:=enl_classes due w
  generalize enlW w due=v at*
  obtain⟨v1,v2,v3,v4,v5,v6,v7⟩:=v
  simp only at e1 e2 e3 e4 e5
  subst e1;subst e2;subst e3;subst e4;subst e5;rfl
 rw[hend]
 clear hend hL hT
 have hdm:(due.map oDueN).length=due.length:=List.length_map ..
 obtain⟨⟨l,m⟩,st,⟨d1,d2,d3,d4⟩,⟨a,b,c,d⟩,ta,bu,cs⟩:=w
 simp only at hcl hL0 hT0 ⊢
 refine FnOK.startC (rvs:=[]) G G_good Tryz.func98 rfl Tryz.ntmps98 rfl rfl ?_;with_reducible refine wD ?_
 repeat' (first
  |refine gK ?_|refine aE ?_ ?_
  |(((with_reducible refine kQ 164 ?_);refine CallK.new 151 [] hcl c164 ⟨rfl,trivial⟩ rfl rfl rfl (outs_tasks _) rfl ?_)<;>with_reducible refine wK ?_)
  |apply trivial)
 refine LoopK.use G G_good (fun(k:Nat)=>[(0,.ptr 0 0 0),(19,eDuesN due),(20,eInt due.length),(21,eInt k)])
  (fun k=>[(0,.live 14 [eWorldT ⟨⟨l,m⟩,st,⟨d1,d2,d3,d4⟩,L k,ta,bu,cs⟩ (.own 151 0 (T k).length)] false),(151,mTasks (T k))])
  (fun k=>k≤due.length) (fun k=>due.length-k) 0 (Nat.zero_le _) ?_ ?_
 ·rw[hL0,hT0]
  (refine fK ?_;(with_reducible repeat' (first|exact trivial|(show _∧_;refine aK ?_ ?_)));(all_goals try rfl))
  all_goals first
   |(show(due.length:Int)=_;rw[hdm])
   |exact⟨.refl (noRef_tasks _),noRef_tasks _⟩
 intro k hk
 with_reducible refine wK ?_
 refine IfK.mk (fun h1=>?_) (fun h1=>?_)<;>(try simp only[castN] at h1)<;>with_reducible refine wK ?_
 ·have hk':k<due.length:=by simp only[decide_eq_true_eq] at h1;omega
  obtain⟨x,hx⟩:∃x,due[k]? =some x:=⟨_,List.getElem?_eq_getElem hk'⟩
  have hadd:=hadd k x hx
  have hTs:=hTs k x hx
  have hTl:=hTl k
  clear h1
  obtain⟨n,x0,x1,x2,x3,x4,x5,x6,x7,x8,x9⟩:=x
  generalize hLn:L (k+1)=L2 at*
  generalize hTn:T (k+1)=T2 at*
  simp only at hadd
  cases ht:lnTell (L k) with
  | false=>
    rw[ht] at hadd hTs
    rw[if_neg (by simp)] at hTs
    repeat' (first
  |refine gK ?_|refine aE ?_ ?_
  | ((first
   |((with_reducible show IdxK _ _ _ _ _);refine IdxK.mk k (eDueN ⟨n,⟨x0,x1,x2,x3,x4,x5,x6,x7,x8,x9⟩⟩) rfl (dueN_get hx) ?_)
   |((with_reducible refine kQ 165 ?_);refine cV hadd c165 ?_))<;>with_reducible refine wK ?_)
  | apply trivial)
    refine NextK.mk (k+1) (by omega) (by omega) ?_
    rw[hLn,hTn,hTs]
    (refine fK ?_;(with_reducible repeat' (first|exact trivial|(show _∧_;refine aK ?_ ?_)));(all_goals try rfl))
    all_goals first
     |exact⟨.refl (noRef_tasks _),noRef_tasks _⟩
     |(simp;done)
  | true=>
    rw[ht] at hadd hTs
    rw[if_pos rfl] at hTs
    have htm:((T k).map oTask).length=(T k).length:=List.length_map ..
    have e3:(T k).map oTask++ [eTask drainT]=T2.map oTask:=by rw[hTs,List.map_append];rfl
    have e4:T2.length=(T k).length+1:=by rw[hTs];simp
    repeat' (first
  |refine gK ?_|refine aE ?_ ?_
  | ((first
   |((with_reducible show IdxK _ _ _ _ _);refine IdxK.mk k (eDueN ⟨n,⟨x0,x1,x2,x3,x4,x5,x6,x7,x8,x9⟩⟩) rfl (dueN_get hx) ?_)
   |((with_reducible refine kQ 165 ?_);refine cV hadd c165 ?_)
   |((with_reducible show AppK _ _ _ _ _ _ _ _ _ _);refine AppK.mk ((T k).map oTask) [eTask drainT] ⟨rfl,htm.symm,rfl⟩ ⟨rfl,rfl,rfl⟩ rfl (by simp;omega) (by simp;omega) ?_))<;>with_reducible refine wK ?_)
  | apply trivial)
    refine NextK.mk (k+1) (by omega) (by omega) ?_
    rw[hLn,hTn,e4,e3]
    (refine fK ?_;(with_reducible repeat' (first|exact trivial|(show _∧_;refine aK ?_ ?_)));(all_goals try rfl))
    all_goals first
     |exact⟨.refl (noRef_tasks _),noRef_tasks _⟩
     |(rw[List.length_map,e4];done)
     |(simp;done)
 ·have hjl:k=due.length:=by simp only[decide_eq_false_iff_not] at h1;omega
  subst hjl
  clear h1
  repeat' (first
  |refine gK ?_|refine aE ?_ ?_
  |apply trivial)
  all_goals first
   |exact frz_tasks rfl rfl rfl rfl
theorem enlistW_no {w:WorldM}{due:List DueN}(h:enlistOK w due=false):enlistW w due=(w,1):=by unfold enlistW;rw[h];rfl
theorem enlistW_yes {w:WorldM}{due:List DueN}(h:enlistOK w due=true):enlistW w due=(enlW w due,0):=by unfold enlistW;rw[h];rfl
theorem wEnlist_ok (w:WorldM)(hs:SmallW w)(due:List DueN)(hd:due.length≤5000):FnOK Tryz.prog 31 [] [eWorld w,eDuesN due] [] (.tup [eWorld (enlistW w due).1,eInt (enlistW w due).2]):=by
 have h75:=whRight_ok w hs
 have hnr:noRefL [AV.fptr (eWorld w) 0]=true:=rfl
 have hcf:=cfDu_ok 94 c94 [.fptr (eWorld w) 0] hnr (fun x=> !dueOK w x) due (by omega) (fun x _=>whBadD_ok w x)
 have hen:=fun R h=>whEnlist_ok w hs due hd R h
 cases e1:rightG w with
 | false=>
   rw[e1] at h75
   rw[enlistW_no (by unfold enlistOK;rw[e1];rfl)]
   clear hen hcf
   obtain⟨⟨l,m⟩,st,⟨d1,d2,d3,d4⟩,⟨a,b,c,d⟩,ta,bu,cs⟩:=w
   refine FnOK.startC (rvs:=[.cell 4 39,.tmp 5]) G G_good Tryz.func31 rfl Tryz.ntmps31 rfl rfl ?_;with_reducible refine wD ?_
   repeat' (first
  |refine gK ?_|refine aE ?_ ?_
  |(((with_reducible refine kQ 75 ?_);refine cL h75 c75 ?_)<;>with_reducible refine wK ?_)
  |apply trivial)
 | true=>
   rw[e1] at h75
   cases e2:(due.any fun x=> !dueOK w x) with
   | true=>
     rw[e2] at hcf
     rw[enlistW_no (by unfold enlistOK;rw[e2,e1];rfl)]
     clear hen
     obtain⟨⟨l,m⟩,st,⟨d1,d2,d3,d4⟩,⟨a,b,c,d⟩,ta,bu,cs⟩:=w
     refine FnOK.startC (rvs:=[.cell 4 39,.tmp 5]) G G_good Tryz.func31 rfl Tryz.ntmps31 rfl rfl ?_;with_reducible refine wD ?_
     repeat' (first
  |refine gK ?_|refine aE ?_ ?_
  | ((first
   |((with_reducible refine kQ 75 ?_);refine cL h75 c75 ?_)
   |((with_reducible refine kQ 97 ?_);refine CallK.lit [60] hcf c97 ⟨rfl,⟨rfl,trivial,⟨_,_,_,_,_,rfl,rfl,rfl,rfl,rfl,⟨rfl,rfl,rfl,rfl,rfl,rfl,rfl,rfl,rfl,rfl,rfl,rfl,rfl,rfl,trivial⟩⟩,trivial⟩,trivial⟩ rfl rfl ?_))<;>with_reducible refine wK ?_)
  | apply trivial)
   | false=>
     rw[e2] at hcf
     have ok:enlistOK w due=true:=by unfold enlistOK;rw[e2,e1];rfl
     rw[enlistW_yes ok]
     have hen:=hen (enlistOK_iff.1 ok).1 (enlistOK_iff.1 ok).2
     clear ok e1 e2
     generalize enlW w due=v at*
     obtain⟨⟨l,m⟩,st,⟨d1,d2,d3,d4⟩,⟨a,b,c,d⟩,ta,bu,cs⟩:=w
     obtain⟨⟨l',m'⟩,st',⟨d1',d2',d3',d4'⟩,⟨a',b',c',d'⟩,ta',bu',cs'⟩:=v
     refine FnOK.startC (rvs:=[.cell 4 39,.tmp 5]) G G_good Tryz.func31 rfl Tryz.ntmps31 rfl rfl ?_;with_reducible refine wD ?_
     repeat' (first
  |refine gK ?_|refine aE ?_ ?_
  | ((first
   |((with_reducible refine kQ 75 ?_);refine cL h75 c75 ?_)
   |((with_reducible refine kQ 97 ?_);refine CallK.lit [60] hcf c97 ⟨rfl,⟨rfl,trivial,⟨_,_,_,_,_,rfl,rfl,rfl,rfl,rfl,⟨rfl,rfl,rfl,rfl,rfl,rfl,rfl,rfl,rfl,rfl,rfl,rfl,rfl,rfl,trivial⟩⟩,trivial⟩,trivial⟩ rfl rfl ?_)
   |((with_reducible refine kQ 98 ?_);refine CallK.lend (news:=[mW ⟨⟨l',m'⟩,st',⟨d1',d2',d3',d4'⟩,⟨a',b',c',d'⟩,ta',bu',cs'⟩]) [60] [] hen c98 ⟨⟨rfl,rfl⟩,rfl,trivial⟩ ⟨⟨rfl,.inr ⟨⟨⟨rfl,rfl,rfl,rfl,rfl,rfl,rfl,rfl,rfl,rfl,rfl,rfl,rfl,rfl,trivial⟩,trivial⟩,rfl⟩⟩,trivial⟩ rfl ⟨⟨rfl,rfl⟩,rfl⟩ rfl ⟨⟨rfl,.inr ⟨rfl,rfl,rfl⟩⟩,trivial⟩ rfl rfl ?_))<;>with_reducible refine wK ?_)
  |apply trivial)
def dropW (l:LineM)(n:Int):LineM×Int:=if(lnR l&&inLn l n)=true then(lnDrop l n,0) else(l,1)
theorem dropW_no {l:LineM}{n:Int}(h:(lnR l&&inLn l n)=false):dropW l n=(l,1):=by unfold dropW;rw[h];rfl
theorem dropW_yes {l:LineM}{n:Int}(h:(lnR l&&inLn l n)=true):dropW l n=(lnDrop l n,0):=by unfold dropW;rw[h];rfl
theorem lnDrop_ok (l:LineM)(hs:SmL 98000 l)(n:Int):FnOK Tryz.prog 191 [] [eLine l,eInt n] [] (.tup [eLine (dropW l n).1,eInt (dropW l n).2]):=by
 have hR:=lnRight_ok l (hs.mono (by omega))
 have hI:=lnIn_ok l n
 have hO:=lnOwn_ok l (by have:=hs.todos;omega) (by have:=hs.stack;omega) (by have:=hs.back;omega)
 cases e1:lnR l with
 | false=>
   rw[e1] at hR
   rw[dropW_no (by rw[e1];rfl)]
   obtain⟨a,b,c,d⟩:=l
   refine FnOK.startC (rvs:=[.cell 4 34,.tmp 5]) G G_good Tryz.func191 rfl Tryz.ntmps191 rfl rfl ?_;with_reducible refine wD ?_
   repeat' (first
  |refine gK ?_|refine aE ?_ ?_
  |(((with_reducible refine kQ 145 ?_);refine cL hR c145 ?_)<;>with_reducible refine wK ?_)
  |apply trivial)
 | true=>
   rw[e1] at hR
   cases e2:inLn l n with
   | false=>
     rw[e2] at hI
     rw[dropW_no (by rw[e1,e2];rfl)]
     obtain⟨a,b,c,d⟩:=l
     refine FnOK.startC (rvs:=[.cell 4 34,.tmp 5]) G G_good Tryz.func191 rfl Tryz.ntmps191 rfl rfl ?_;with_reducible refine wD ?_
     repeat' (first
  |refine gK ?_|refine aE ?_ ?_
  | ((first
   |((with_reducible refine kQ 145 ?_);refine cL hR c145 ?_)
   |((with_reducible refine kQ 210 ?_);refine cL hI c210 ?_))<;>with_reducible refine wK ?_)
  | apply trivial)
   | true=>
     rw[e2] at hI
     rw[dropW_yes (by rw[e1,e2];rfl)]
     obtain⟨k,y,rfl,hk,hy,htd⟩:=in_get e2
     unfold lnDrop
     rw[Int.toNat_natCast]
     obtain⟨a,b,c,d⟩:=l
     simp only at hk hy hO ⊢
     have ham:(a.map oTodos).length=a.length:=List.length_map ..
     have e3:RowsM (MF [] (fun _=>true) [] 3) [] []:=⟨rfl,fun i x y h=>by simp at h⟩
     refine FnOK.startC (rvs:=[.cell 4 34,.tmp 5]) G G_good Tryz.func191 rfl Tryz.ntmps191 rfl rfl ?_;with_reducible refine wD ?_
     repeat' (first
  |refine gK ?_|refine aE ?_ ?_
  | ((first
   |((with_reducible refine kQ 145 ?_);refine cL hR c145 ?_)
   |((with_reducible refine kQ 210 ?_);refine cL hI c210 ?_)
   |((with_reducible refine kQ 159 ?_);refine CallK.lend (news:=[mTodoss a,mIntss b,rInts c]) [171,172,173] [] hO c159 ⟨⟨rfl,rfl,rfl,rfl,trivial⟩,trivial⟩ trivial rfl ⟨⟨rfl,rfl⟩,rfl⟩ rfl news_ln rfl rfl ?_)
   |((with_reducible show LtK _ _ _ _ _);refine LtK.mk k rfl hk ?_)
   |((with_reducible show ElemK _ _ _ _ _);refine ElemK.mk (eTodos y) (by first|exact todos_get hy|(rw[Nat.zero_add];exact todos_get hy)) ?_))<;>with_reducible refine wK ?_)
  |apply trivial)
     all_goals first
      |exact frz_setZ oTodos (y:=[]) rfl rfl (by rw[Nat.zero_add]) hk rfl noRef_todos2 (show NilK _ from .inr (.inr ⟨10,rfl⟩))
      |exact frz_intss rfl rfl rfl rfl
      |exact frz_ints rfl rfl rfl rfl
@[reducible] def zW : AV := .agg [.lit (.slice none 0 0), eInt 0, .lit (.slice none 0 0), .lit (.slice none 0 0), .lit (.slice none 0 0), eInt 0, eBool false, .lit (.slice none 0 0), .lit (.slice none 0 0), .lit (.slice none 0 0), eBool false, .lit (.slice none 0 0), .lit (.slice none 0 0), .lit (.slice none 0 0)]
@[reducible] def mZ : MS := .live 14 [zW] false
theorem whFollows_ok (w:WorldM)(h60:w.f.nodes.length≤1000)(f:ForM):FnOK Tryz.prog 101 [] [eWorld w,eFor f] [] (eBool (followsW w f)):=by
 have hno:=fun h=>(Bool.eq_false_iff.2 (mt (follows_iff (w:=w) (f:=f)).1 h))
 have hyes:=(follows_iff (w:=w) (f:=f)).2
 obtain⟨r,hr⟩:∃r,followsW w f=r:=⟨_,rfl⟩
 rw[hr] at hno hyes ⊢
 clear hr
 obtain⟨⟨l,m⟩,st,⟨d1,d2,d3,d4⟩,⟨a,b,c,d⟩,ta,bu,cs⟩:=w
 obtain⟨l',m'⟩:=f
 simp only at h60 hno hyes
 have n1:(l.map oNode).length=l.length:=List.length_map ..
 have n2:(l'.map oNode).length=l'.length:=List.length_map ..
 refine FnOK.startC (rvs:=[.tmp 4]) G G_good Tryz.func101 rfl Tryz.ntmps101 rfl rfl ?_;with_reducible refine wD ?_
 by_cases e2:m'=m
 case neg=>
  rw[hno (fun q=>e2 q.1)]
  (have fct:=(eq_false e2);(repeat' (first
  |refine gF ?_|refine aE ?_ ?_
  |apply trivial));all_goals clear fct)
 subst e2
 by_cases e1:(l'.length:Int)< (l.length:Int)
 ·rw[hno (by omega)]
  (have fct:=And.intro n1 (And.intro n2 (e1));(repeat' (first
  |refine gF ?_|refine aE ?_ ?_
  |apply trivial));all_goals clear fct)
 (have fct:=And.intro n1 (And.intro n2 ((eq_false e1)));(repeat' (first
  |refine gF ?_|refine aE ?_ ?_
  |apply trivial));all_goals clear fct)
 refine LoopK.use G G_good (fun(k:Nat)=>[(2,.ptr 20 0 0),(3,.ptr 30 0 0),(28,eNodes l),(29,eInt l.length),(30,eInt k)]) (fun _=>[(20,mW ⟨⟨l,m'⟩,st,⟨d1,d2,d3,d4⟩,⟨a,b,c,d⟩,ta,bu,cs⟩),(30,.live 2 [eFor ⟨l',m'⟩] false)])
  (fun k=>k≤l.length∧∀ (j:Nat) x y,j<k→l[j]? =some x→l'[j]? =some y→y.kind=x.kind) (fun k=>l.length-k) 0 ⟨Nat.zero_le _,fun j x y h=>by omega⟩ ?_ ?_
 ·(refine fK ?_;(with_reducible repeat' (first|exact trivial|(show _∧_;refine aK ?_ ?_)));(all_goals try rfl))
  all_goals first|(show(l.length:Int)=_;rw[n1])
 rintro k ⟨hk,hok⟩
 with_reducible refine wK ?_
 refine IfK.mk (fun h1=>?_) (fun h1=>?_)<;>(try simp only[castN] at h1)<;>with_reducible refine wK ?_
 ·have hk':k<l.length:=by simp only[decide_eq_true_eq] at h1;omega
  obtain⟨x,hx⟩:∃x,l[k]? =some x:=⟨_,List.getElem?_eq_getElem hk'⟩
  obtain⟨y,hy⟩:∃x,l'[k]? =some x:=⟨_,List.getElem?_eq_getElem (by omega)⟩
  clear h1
  by_cases e:y.kind=x.kind
  ·have hnx:∀ (j:Nat) x y,j<k+1→l[j]? =some x→l'[j]? =some y→y.kind=x.kind:=fun j x' y' hj hx' hy'=>by
    rcases Nat.lt_or_ge j k with h6|h6
    ·exact hok j x' y' h6 hx' hy'
    ·have:j=k:=by omega
     subst this
     rw[hx] at hx';rw[hy] at hy';cases hx';cases hy';exact e
   obtain⟨x0,x1,x2,x3,x4,x5,x6,x7,x8,x9⟩:=x
   obtain⟨y0,y1,y2,y3,y4,y5,y6,y7,y8,y9⟩:=y
   simp only at e
   subst e
   repeat' (first
  |refine gK ?_|refine aE ?_ ?_
  |(((with_reducible show IdxK _ _ _ _ _);first|refine IdxK.mk k (eNode ⟨y0,x1,x2,x3,x4,x5,x6,x7,x8,x9⟩) rfl (node_get hx) ?_|refine IdxK.mk k (eNode ⟨y0,y1,y2,y3,y4,y5,y6,y7,y8,y9⟩) rfl (node_get hy) ?_)<;>with_reducible refine wK ?_)
  | apply trivial)
   refine NextK.mk (k+1) ⟨by omega,hnx⟩ (by omega) ?_
   (refine fK ?_;(with_reducible repeat' (first|exact trivial|(show _∧_;refine aK ?_ ?_)));(all_goals try rfl))
   all_goals first|(simp;done)
  ·rw[hno (fun q=>e (q.2.2 k x y hx hy))]
   obtain⟨x0,x1,x2,x3,x4,x5,x6,x7,x8,x9⟩:=x
   obtain⟨y0,y1,y2,y3,y4,y5,y6,y7,y8,y9⟩:=y
   simp only at e
   (have fct:=(eq_false e);(repeat' (first
  |refine gF ?_|refine aE ?_ ?_
  |(((with_reducible show IdxK _ _ _ _ _);first|refine IdxK.mk k (eNode ⟨x0,x1,x2,x3,x4,x5,x6,x7,x8,x9⟩) rfl (node_get hx) ?_|refine IdxK.mk k (eNode ⟨y0,y1,y2,y3,y4,y5,y6,y7,y8,y9⟩) rfl (node_get hy) ?_)<;>with_reducible refine wK ?_)
  |apply trivial));all_goals clear fct)
 ·have hkl:l.length≤k:=by simp only[decide_eq_false_iff_not] at h1;omega
  rw[hyes ⟨rfl,by omega,fun j x y hx hy=>hok j x y (by have:=(List.getElem?_eq_some_iff.1 hx).1;omega) hx hy⟩]
  clear h1
  repeat' (first
  |refine gK ?_|refine aE ?_ ?_
  |apply trivial)
@[reducible] def eWorldS (w : WorldM) (t : AV) : AV := .agg [eNodes w.f.nodes, eInt w.f.most, t, eDefs w.desk.defs, eWaits w.desk.waits, eInt w.desk.next, eBool w.desk.busy, eTodoss w.line.todos, eIntss w.line.stack, eInts w.line.back, eBool w.line.busy, eTasks w.tasks, eBuilds w.builds, eClasses w.classes]
theorem tellW_no {w:WorldM}{f:ForM}{ns:List NoteM}(h:tellOK w f=false):tellW w f ns=(w,1):=by unfold tellW;rw[h];rfl
theorem tellW_yes {w:WorldM}{f:ForM}{ns:List NoteM}(h:tellOK w f=true):tellW w f ns=(tellG w f ns,0):=by unfold tellW;rw[h];rfl
theorem grow_zero (w:WorldM)(f:ForM):growW w f 0=w:=by
 obtain⟨f0,st,d,⟨a,b,c,e⟩,ta,bu,cs⟩:=w
 unfold growW
 simp
theorem grow_step {w:WorldM}{f:ForM}{k:Nat}{y:NodeM}(h:(f.nodes.drop w.f.nodes.length)[k]? =some y):(growW w f (k+1)).states=(growW w f k).states++ [bornS y]∧(growW w f (k+1)).line=lnGrow (growW w f k).line:=by
 unfold growW lnGrow
 constructor
 ·show w.states++ ((f.nodes.drop w.f.nodes.length).take (k+1)).map bornS=w.states++ ((f.nodes.drop w.f.nodes.length).take k).map bornS++ [bornS y]
  rw[take_snocI h,List.map_append,List.append_assoc];rfl
 ·show LineM.mk (w.line.todos++List.replicate (k+1) []) _ _ _=LineM.mk (w.line.todos++List.replicate k []++ [[]]) _ _ _
  rw[List.replicate_succ',List.append_assoc]
theorem grow_states_len (w:WorldM)(f:ForM)(k:Nat):(growW w f k).states.length≤w.states.length+k:=by
 unfold growW
 show(w.states++ ((f.nodes.drop w.f.nodes.length).take k).map bornS).length≤_
 rw[List.length_append,List.length_map,List.length_take];omega
theorem grow_line_sm {w:WorldM}(f:ForM){B k:Nat}(h:SmL B w.line):SmL (B+k) (growW w f k).line:=by
 unfold growW
 refine⟨?_,?_,Nat.le_trans h.3 (by omega),fun t ht=>Nat.le_trans (h.4 t ht) (by omega),Nat.le_trans h.5 (by omega)⟩
 ·show(w.line.todos++List.replicate k []).length≤_
  rw[List.length_append,List.length_replicate];have:=h.1;omega
 ·intro t ht
  have ht:t∈w.line.todos++List.replicate k []:=ht
  rcases List.mem_append.1 ht with e|e
  ·exact Nat.le_trans (h.2 t e) (by omega)
  ·rw[(List.mem_replicate.1 e).2];exact Nat.zero_le _
structure TellF (w:WorldM) (f:ForM) (ns:List NoteM):Prop where
 X:RightG (nowW w f)
 Y:RightG {enlW (nowW w f) (dueL f (nowW w f).states w.desk w.classes ns) with states:=toldSt f (nowW w f).states w.desk w.classes}
 d1:∀d∈dueL f (nowW w f).states w.desk w.classes ns,dueOK (nowW w f) d=true
 d2:∀d∈toldDu f (nowW w f).states w.desk w.classes,dueOK {enlW (nowW w f) (dueL f (nowW w f).states w.desk w.classes ns) with states:=toldSt f (nowW w f).states w.desk w.classes} d=true
 l1:(dueL f (nowW w f).states w.desk w.classes ns).length≤ns.length
 l2:(toldDu f (nowW w f).states w.desk w.classes).length≤2*f.nodes.length
theorem tellF {w:WorldM}{f:ForM}(R:RightG w)(hf:rightF f=true)(hw:followsW w f=true)(ns:List NoteM):TellF w f ns:=by
 have X:=now_right R hf hw
 have hx:(nowW w f).states.length=f.nodes.length:=X.sl
 have D1:=dueL_ok X ns
 have e:=enl_right _ (nowW w f) X D1
 have hff:=enl_f (dueL f (nowW w f).states w.desk w.classes ns) (nowW w f)
 have hss:=enl_states (dueL f (nowW w f).states w.desk w.classes ns) (nowW w f)
 have hdd:=enl_desk (dueL f (nowW w f).states w.desk w.classes ns) (nowW w f)
 have hcc:=enl_classes (dueL f (nowW w f).states w.desk w.classes ns) (nowW w f)
 have e:RightG (enlW (nowW w f) (dueL f (nowW w f).states w.desk w.classes ns)):=e
 refine⟨X,?_,D1,?_,dueL_len ..,?_⟩
 ·have t:=told_right e
  have q:toldSt (enlW (nowW w f) (dueL f (nowW w f).states w.desk w.classes ns)).f (enlW (nowW w f) (dueL f (nowW w f).states w.desk w.classes ns)).states (enlW (nowW w f) (dueL f (nowW w f).states w.desk w.classes ns)).desk (enlW (nowW w f) (dueL f (nowW w f).states w.desk w.classes ns)).classes=toldSt f (nowW w f).states w.desk w.classes:=by
   rw[hff,hss,hdd,hcc];rfl
  rw[q] at t
  exact t
 ·have t:=toldDu_ok e
  rw[hff,hss,hdd,hcc] at t
  exact t
 ·unfold toldDu
  split
  ·rw[hx];exact tDu_len ..
  ·simp
theorem small_now {w:WorldM}(hs:SmallW w)(hl:SmL 80000 w.line){f:ForM}(hf:SmallN f.nodes)(R:RightG w):SmallW (nowW w f):=by
 have hst:=grow_states_len w f (f.nodes.length-w.f.nodes.length)
 have:=hf.len
 have h2:=R.sl
 have h3:=hs.f.len
 exact⟨hf,by show(growW w f _).states.length≤_;omega,hs.d,(grow_line_sm f hl).mono (by omega),hs.ta,hs.bu,hs.cl,hs.cs,hs.nm⟩
theorem small_enl {w:WorldM}{B:Nat}(hs:SmallW w)(hl:SmL B w.line)(ht:w.tasks.length≤89000)(due:List DueN)(hb:B+due.length≤90000):SmallW (enlW w due):=by
 have hT:=enl_tlen2 w due
 refine⟨by rw[enl_f];exact hs.f,by rw[enl_states];exact hs.st,by rw[enl_desk];exact hs.d,(enl_sm due w B hl).mono hb,by omega,by rw[enl_builds];exact hs.bu,by rw[enl_classes];exact hs.cl,by rw[enl_classes];exact hs.cs,by rw[enl_classes];exact hs.nm⟩
theorem wTell_ok (w:WorldM)(hs:SmallW w)(hl:SmL 80000 w.line)(hta:w.tasks.length≤80000)(f:ForM)(hf:SmallN f.nodes)(ns:List NoteM)(hn:ns.length≤1000):FnOK Tryz.prog 33 [] [eWorld w,eFor f,eNotes ns] [] (.tup [eWorld (tellW w f ns).1,eInt (tellW w f ns).2]):=by
 have h75:=whRight_ok w hs
 have h100:=f100_ok f hf
 have h101:=whFollows_ok w (by have:=hs.f.len;omega) f
 cases e1:rightG w with
 | false=>
   rw[e1] at h75
   rw[tellW_no (by unfold tellOK;rw[e1];rfl)]
   clear h100 h101
   obtain⟨⟨l,m⟩,st,⟨d1,d2,d3,d4⟩,⟨a,b,c,d⟩,ta,bu,cs⟩:=w
   obtain⟨l',m'⟩:=f
   refine FnOK.startC (rvs:=[.cell 6 39,.tmp 7]) G G_good Tryz.func33 rfl Tryz.ntmps33 rfl rfl ?_;with_reducible refine wD ?_
   repeat' (first
  |refine gK ?_|refine aE ?_ ?_
  | (((with_reducible refine kQ 75 ?_);refine CallK.lit [] h75 c75 ⟨
   ⟨rfl,rfl,rfl,rfl,rfl,rfl,rfl,rfl,rfl,rfl,rfl,rfl,rfl,rfl,trivial⟩
   ,trivial⟩ rfl rfl ?_)<;>with_reducible refine wK ?_)
  |apply trivial)
 |true=>
 rw[e1] at h75
 cases e2:rightF f with
 | false=>
   rw[e2] at h100
   rw[tellW_no (by unfold tellOK;rw[e1,e2];rfl)]
   clear h101
   obtain⟨⟨l,m⟩,st,⟨d1,d2,d3,d4⟩,⟨a,b,c,d⟩,ta,bu,cs⟩:=w
   obtain⟨l',m'⟩:=f
   refine FnOK.startC (rvs:=[.cell 6 39,.tmp 7]) G G_good Tryz.func33 rfl Tryz.ntmps33 rfl rfl ?_;with_reducible refine wD ?_
   repeat' (first
  |refine gK ?_|refine aE ?_ ?_
  | ((first
   |((with_reducible refine kQ 75 ?_);refine CallK.lit [] h75 c75 ⟨
   ⟨rfl,rfl,rfl,rfl,rfl,rfl,rfl,rfl,rfl,rfl,rfl,rfl,rfl,rfl,trivial⟩
   ,trivial⟩ rfl rfl ?_)
   |((with_reducible refine kQ 100 ?_);refine cL h100 c100 ?_))<;>with_reducible refine wK ?_)
  |apply trivial)
 |true=>
 rw[e2] at h100
 cases e3:followsW w f with
 | false=>
   rw[e3] at h101
   rw[tellW_no (by unfold tellOK;rw[e1,e2,e3];rfl)]
   obtain⟨⟨l,m⟩,st,⟨d1,d2,d3,d4⟩,⟨a,b,c,d⟩,ta,bu,cs⟩:=w
   obtain⟨l',m'⟩:=f
   refine FnOK.startC (rvs:=[.cell 6 39,.tmp 7]) G G_good Tryz.func33 rfl Tryz.ntmps33 rfl rfl ?_;with_reducible refine wD ?_
   repeat' (first
  |refine gK ?_|refine aE ?_ ?_
  | ((first
   |((with_reducible refine kQ 75 ?_);refine CallK.lit [] h75 c75 ⟨
   ⟨rfl,rfl,rfl,rfl,rfl,rfl,rfl,rfl,rfl,rfl,rfl,rfl,rfl,rfl,trivial⟩
   ,trivial⟩ rfl rfl ?_)
   |((with_reducible refine kQ 100 ?_);refine cL h100 c100 ?_)
   |((with_reducible refine kQ 101 ?_);refine CallK.lit [] h101 c101 ⟨
   ⟨rfl,rfl,rfl,rfl,rfl,rfl,rfl,rfl,rfl,rfl,rfl,rfl,rfl,rfl,trivial⟩
   ,⟨rfl,rfl,trivial⟩,trivial⟩ rfl rfl ?_))<;>with_reducible refine wK ?_)
  |apply trivial)
 |true=>
 rw[e3] at h101
 rw[tellW_yes (by unfold tellOK;rw[e1,e2,e3];rfl)]
 have R:=rightG_iff.1 e1
 have TF:=tellF R e2 e3 ns
 have hsl:=R.sl
 have hfl:=hf.len
 have hwl:=hs.f.len
 have hle:=(follows_iff.1 e3).2.1
 have hX:=small_now hs hl hf R
 have hXl:SmL 80100 (nowW w f).line:=(grow_line_sm f hl).mono (by omega)
 have hcl:=f102_ok w.states (by have:=hs.st;omega)
 have hbn:=fun x=>wBorn_ok x
 have hgr:=fun k (hk:k≤f.nodes.length)=>lnGrow_ok (growW w f k).line ((grow_line_sm f hl).mono (by omega))
 have hst:=fun k y h=>grow_step (w:=w) (f:=f) (k:=k) (y:=y) h
 have h103:=f103_ok f hf (nowW w f).states w.desk hs.d w.classes hs.cs ns (by omega)
 have h104:=f104_ok f hf (nowW w f).states hX.st w.desk hs.d w.classes (fun c hc=>(hs.cs c hc).hooks)
 have hE1:=whEnlist_ok (nowW w f) hX (dueL f (nowW w f).states w.desk w.classes ns) (by have:=TF.l1;omega) TF.X TF.d1
 have hY0:SmallW (enlW (nowW w f) (dueL f (nowW w f).states w.desk w.classes ns)):=small_enl hX hXl (by show w.tasks.length≤_;omega) _ (by have:=TF.l1;omega)
 have hY:SmallW {enlW (nowW w f) (dueL f (nowW w f).states w.desk w.classes ns) with states:=toldSt f (nowW w f).states w.desk w.classes}:=⟨hY0.f,by show(toldSt f (nowW w f).states w.desk w.classes).length≤_;rw[told_len];exact hX.st,hY0.d,hY0.l,hY0.ta,hY0.bu,hY0.cl,hY0.cs,hY0.nm⟩
 have hE2:=whEnlist_ok _ hY (toldDu f (nowW w f).states w.desk w.classes) (by have:=TF.l2;omega) TF.Y TF.d2
 have hY1:enlW (nowW w f) (dueL f (nowW w f).states w.desk w.classes ns)=⟨f,(nowW w f).states,w.desk,(enlW (nowW w f) (dueL f (nowW w f).states w.desk w.classes ns)).line,(enlW (nowW w f) (dueL f (nowW w f).states w.desk w.classes ns)).tasks,w.builds,w.classes⟩:=by
  have q1:=enl_f (dueL f (nowW w f).states w.desk w.classes ns) (nowW w f)
  have q2:=enl_states (dueL f (nowW w f).states w.desk w.classes ns) (nowW w f)
  have q3:=enl_desk (dueL f (nowW w f).states w.desk w.classes ns) (nowW w f)
  have q4:=enl_builds (dueL f (nowW w f).states w.desk w.classes ns) (nowW w f)
  have q5:=enl_classes (dueL f (nowW w f).states w.desk w.classes ns) (nowW w f)
  generalize enlW (nowW w f) (dueL f (nowW w f).states w.desk w.classes ns)=v at*
  obtain⟨v1,v2,v3,v4,v5,v6,v7⟩:=v
  simp only at q1 q2 q3 q4 q5
  subst q1;subst q2;subst q3;subst q4;subst q5;rfl
 have hT:tellG w f ns=enlW {enlW (nowW w f) (dueL f (nowW w f).states w.desk w.classes ns) with states:=toldSt f (nowW w f).states w.desk w.classes} (toldDu f (nowW w f).states w.desk w.classes):=rfl
 rw[hT]
 clear hT hY hY0 TF e1 e2 e3 hX hXl
 rw[hY1] at hE1 hE2 ⊢
 clear hY1
 simp only at hE2 ⊢
 generalize hLy:(enlW (nowW w f) (dueL f (nowW w f).states w.desk w.classes ns)).line=Ly at*
 generalize hTy:(enlW (nowW w f) (dueL f (nowW w f).states w.desk w.classes ns)).tasks=Ty at*
 clear hLy hTy
 generalize dueL f (nowW w f).states w.desk w.classes ns=D1 at*
 generalize toldSt f (nowW w f).states w.desk w.classes=S2 at*
 generalize toldDu f (nowW w f).states w.desk w.classes=D2 at*
 generalize hZ:enlW ⟨f,S2,w.desk,Ly,Ty,w.builds,w.classes⟩ D2=Z at*
 clear hZ
 obtain⟨nf,hnf⟩:∃nf,nf=f.nodes.drop w.f.nodes.length:=⟨_,rfl⟩
 have hnl:nf.length=f.nodes.length-w.f.nodes.length:=by rw[hnf,List.length_drop]
 have hg0:=grow_zero w f
 have hge:(nowW w f).states=(growW w f nf.length).states∧(nowW w f).line=(growW w f nf.length).line∧nowW w f=⟨f,(growW w f nf.length).states,w.desk,(growW w f nf.length).line,w.tasks,w.builds,w.classes⟩:=by rw[hnl];exact⟨rfl,rfl,rfl⟩
 rw[hge.1] at h103 h104
 rw[hge.2.2] at hE1
 have hslen:=fun k=>grow_states_len w f k
 rw[←hnf] at hst
 have hcut:nf.map oNode=((f.nodes.map oNode).drop w.f.nodes.length).take (f.nodes.length-w.f.nodes.length):=by rw[←List.map_drop,←hnf,List.take_of_length_le (by rw[List.length_map];omega)]
 have g1:∀k,(growW w f k).f=w.f∧(growW w f k).desk=w.desk∧(growW w f k).tasks=w.tasks:=fun k=>⟨rfl,rfl,rfl⟩
 have hgs:(growW w f 0).states=w.states∧(growW w f 0).line=w.line:=by rw[hg0];exact⟨rfl,rfl⟩
 clear hge hnf hg0 hs hl R hf g1
 generalize hGs:(fun k=>(growW w f k).states)=Gs at*
 generalize hGl:(fun k=>(growW w f k).line)=Gl at*
 have hGs':∀k,(growW w f k).states=Gs k:=fun k=>by rw[←hGs]
 have hGl':∀k,(growW w f k).line=Gl k:=fun k=>by rw[←hGl]
 simp only[hGs',hGl'] at hst hslen hgr h103 h104 hE1 hgs
 clear hGs hGl hGs' hGl'
 have hnm:(nf.map oNode).length=nf.length:=List.length_map ..
 obtain⟨⟨zl,zm⟩,zst,⟨zd1,zd2,zd3,zd4⟩,⟨za,zb,zc,zd⟩,zta,zbu,zcs⟩:=Z
 obtain⟨⟨l,m⟩,st,⟨d1,d2,d3,d4⟩,⟨a,b,c,d⟩,ta,bu,cs⟩:=w
 obtain⟨l',m'⟩:=f
 obtain⟨la,lb,lc,ld⟩:=Ly
 simp only at hcl h100 h101 h103 h104 hE1 hE2 hsl hfl hwl hle hnl hslen hcut hgs hta hgr ⊢
 have n1:(l.map oNode).length=l.length:=List.length_map ..
 have n2:(l'.map oNode).length=l'.length:=List.length_map ..
 refine FnOK.startC (rvs:=[.cell 6 39,.tmp 7]) G G_good Tryz.func33 rfl Tryz.ntmps33 rfl rfl ?_;with_reducible refine wD ?_
 repeat' (first
  |refine gK ?_|refine aE ?_ ?_
  | ((first
   |((with_reducible refine kQ 75 ?_);refine CallK.lit [] h75 c75 ⟨
   ⟨rfl,rfl,rfl,rfl,rfl,rfl,rfl,rfl,rfl,rfl,rfl,rfl,rfl,rfl,trivial⟩
   ,trivial⟩ rfl rfl ?_)
   |((with_reducible refine kQ 100 ?_);refine cL h100 c100 ?_)
   |((with_reducible refine kQ 101 ?_);refine CallK.lit [] h101 c101 ⟨
   ⟨rfl,rfl,rfl,rfl,rfl,rfl,rfl,rfl,rfl,rfl,rfl,rfl,rfl,rfl,trivial⟩
   ,⟨rfl,rfl,trivial⟩,trivial⟩ rfl rfl ?_)
   |((with_reducible refine kQ 102 ?_);refine CallK.new 321 [] hcl c102 ⟨rfl,trivial⟩ rfl rfl rfl (states_outs _) rfl ?_)
   |((with_reducible show CutFK _ _ _ _ _ _);refine CutFK.mk l.length (l'.length-l.length) (nf.map oNode) (by(try simp only[castN]);omega) (by(try simp only[castN]);omega) (by omega) hcut ?_))<;>with_reducible refine wK ?_)
  |apply trivial)
 refine LoopK.use G G_good (fun(k:Nat)=>[(2,eNotes ns),(3,.ptr 30 0 0),(4,.ptr 40 0 0),(6,.ptr 60 0 0),(8,.ptr 80 0 0),(41,eNodes nf),(42,eInt nf.length),(43,eInt k)])
  (fun k=>[(30,mW ⟨⟨l,m⟩,st,⟨d1,d2,d3,d4⟩,⟨a,b,c,d⟩,ta,bu,cs⟩),(40,.live 2 [eFor ⟨l',m'⟩] false),(60,mZ),(80,.live 14 [eWorldS ⟨⟨l,m⟩,st,⟨d1,d2,d3,d4⟩,Gl k,ta,bu,cs⟩ (.own 321 0 (Gs k).length)] false),(321,mStates (Gs k))])
  (fun k=>k≤nf.length) (fun k=>nf.length-k) 0 (Nat.zero_le _) ?_ ?_
 ·rw[hgs.1,hgs.2]
  (refine fK ?_;(with_reducible repeat' (first|exact trivial|(show _∧_;refine aK ?_ ?_)));(all_goals try rfl))
  all_goals first
   |(show(nf.length:Int)=_;rw[hnm])
   |exact⟨.refl (noRef_states _),noRef_states _⟩
   |exact .inl rfl
   |(simp;omega)
 intro k hk
 with_reducible refine wK ?_
 refine IfK.mk (fun h1=>?_) (fun h1=>?_)<;>(try simp only[castN] at h1)<;>with_reducible refine wK ?_
 ·have hk':k<nf.length:=by simp only[decide_eq_true_eq] at h1;omega
  obtain⟨y,hy⟩:∃x,nf[k]? =some x:=⟨_,List.getElem?_eq_getElem hk'⟩
  obtain⟨q1,q2⟩:=hst k y hy
  have hgr:=hgr k (by omega)
  have hbn:=hbn y
  have hslk:=hslen k
  clear h1 hst hslen hcl h75 h100 h101 h103 h104 hE1 hE2
  rw[←q2] at hgr
  have e3:(Gs k).map oState++ [eState (bornS y)]=(Gs (k+1)).map oState:=by rw[q1,List.map_append];rfl
  have e4:(Gs (k+1)).length=(Gs k).length+1:=by rw[q1];simp
  clear q1 q2
  generalize bornS y=s at*
  obtain⟨s1,s2,s3,s4⟩:=s
  obtain⟨y0,y1,y2,y3,y4,y5,y6,y7,y8,y9⟩:=y
  generalize hLn:Gl (k+1)=L2 at*
  generalize hTn:Gs (k+1)=T2 at*
  repeat' (first
  |refine gK ?_|refine aE ?_ ?_
  | ((first
   |((with_reducible show IdxK _ _ _ _ _);refine IdxK.mk k (eNode ⟨y0,y1,y2,y3,y4,y5,y6,y7,y8,y9⟩) rfl (node_get hy) ?_)
   |((with_reducible refine kQ 89 ?_);refine cL hbn c89 ?_)
   |((with_reducible refine kQ 90 ?_);refine cV hgr c90 ?_)
   |((with_reducible show AppK _ _ _ _ _ _ _ _ _ _);refine AppK.mk ((Gs k).map oState) [eState ⟨s1,s2,s3,s4⟩] ⟨rfl,by simp,rfl⟩ ⟨rfl,rfl,rfl⟩ rfl (by simp;omega) (by simp;omega) ?_))<;>with_reducible refine wK ?_)
  |apply trivial)
  refine NextK.mk (k+1) (by omega) (by omega) ?_
  rw[hLn,hTn,e4,e3]
  (refine fK ?_;(with_reducible repeat' (first|exact trivial|(show _∧_;refine aK ?_ ?_)));(all_goals try rfl))
  all_goals first
   |exact⟨.refl (noRef_states _),noRef_states _⟩
   |exact .inl rfl
   |(rw[List.length_map,e4];done)
   |(simp;done)
 ·have hkl:k=nf.length:=by simp only[decide_eq_false_iff_not] at h1;omega
  subst hkl
  clear h1 hst hslen hcl h75 h100 h101
  repeat' (first
  |refine gK ?_|refine aE ?_ ?_
  | ((first
   |((with_reducible refine kQ 103 ?_);refine CallK.val [321] h103 c103 ⟨⟨rfl,rfl,trivial⟩,frz_states rfl rfl rfl rfl,⟨rfl,rfl,rfl,rfl,trivial⟩,rfl,rfl,trivial⟩ rfl rfl rfl ?_)
   |((with_reducible refine kQ 104 ?_);refine cV h104 c104 ?_)
   | ((with_reducible refine kQ 98 ?_);first
     |refine CallK.lend (news:=[mW ⟨⟨l',m'⟩,Gs nf.length,⟨d1,d2,d3,d4⟩,⟨la,lb,lc,ld⟩,Ty,bu,cs⟩]) [80] [321] hE1 c98 ⟨⟨rfl,rfl⟩,rfl,trivial⟩ ⟨⟨rfl,.inr ⟨⟨⟨rfl,rfl,frz_states rfl rfl rfl rfl,rfl,rfl,rfl,rfl,rfl,rfl,rfl,rfl,rfl,rfl,rfl,trivial⟩,trivial⟩,rfl⟩⟩,trivial⟩ rfl ⟨⟨rfl,rfl⟩,rfl⟩ rfl ⟨⟨rfl,.inr ⟨rfl,rfl,rfl⟩⟩,trivial⟩ rfl rfl ?_
     |refine CallK.lend (news:=[mW ⟨⟨zl,zm⟩,zst,⟨zd1,zd2,zd3,zd4⟩,⟨za,zb,zc,zd⟩,zta,zbu,zcs⟩]) [80] [] hE2 c98 ⟨⟨rfl,rfl⟩,rfl,trivial⟩ ⟨⟨rfl,.inr ⟨⟨⟨rfl,rfl,rfl,rfl,rfl,rfl,rfl,rfl,rfl,rfl,rfl,rfl,rfl,rfl,trivial⟩,trivial⟩,rfl⟩⟩,trivial⟩ rfl ⟨⟨rfl,rfl⟩,rfl⟩ rfl ⟨⟨rfl,.inr ⟨rfl,rfl,rfl⟩⟩,trivial⟩ rfl rfl ?_))<;>with_reducible refine wK ?_)
  |apply trivial)
  all_goals trace_state



end Go.Proofs.Heir
