/- Walks of functions by unfolding over abstract states; runs of functions by an evaluator that is proved. By an AI agent. -/
import Derived.Test.YtkhjcnjicjgfiaaGreatDoorWN10
set_option linter.unusedSimpArgs false
set_option linter.unusedVariables false
namespace Go.Am
open Go
@[reducible] def wk (m : ML) : Nat → Bool
  |0=>true
  | r +1=>match eD m r with
    | .live _ _ ro=>match ro with
      |true=>false
      |false=>wk m r
    |_=>false
theorem s7 {m:ML}:∀ {r:Nat},wk m r=true→∀t,t<r→∃wd rows,aR m t=.live wd rows false
  |0,_,t,h=>by omega
  | r + 1, h,t,ht=>by
    simp only[wk] at h
    split at h
    · rename_i wd rows ro hm
      split at h
      ·cases h
      · rcases Nat.lt_or_ge t r with h1|h1
        ·exact s7 h t h1
        · have:t=r:=by omega
          subst this
          exact⟨wd,rows,dj hm⟩
    ·cases h
@[reducible] def HJ : List Tmp → List AV → SL → SL
  |p::ps,x::xs,sl=>(p,x)::HJ ps xs sl
  |_,_,sl=>sl
theorem BT:∀ (ps:List Tmp) (xs:List AV) (sl:SL),HJ ps xs sl=xZ ps xs sl
  |[],[],_=>rfl
  |[],_::_,_=>rfl
  |_::_,[],_=>rfl
  |p::ps,x::xs,sl=>by simp only[HJ,xZ,BT ps xs sl]
def Bz (nL:Nat)(sl:SL)(m:ML)(S:SL)(m':ML):Prop:=Fit nL sl m S m'
theorem Bz.mk {nL:Nat}{sl:SL}{m:ML}{S:SL}{m':ML}(h:Fit nL sl m S m'):Bz nL sl m S m':=h
def BL (nL:Nat)(sl:SL)(m:ML)(S:SL){A:ML→Prop}:Prop:=∃m',Fit nL sl m S m'∧A m'
theorem BL.mk {nL:Nat}{sl:SL}{m:ML}{S:SL}{A:ML→Prop}(m':ML)(h:Fit nL sl m S m')(ha:A m'):BL nL sl m S (A:=A):=⟨m',h,ha⟩
@[reducible] def K0 (r : Nat) (S : SL) (m' : ML) (Q : Exit → SL → ML → Prop) (e : Exit) (sl : SL) (m : ML) : Prop :=
  match e with
  |.normal=>Bz r sl m S m'
  |.ret=>BL r sl m S (A:=fun m'=>Q .ret S m')
  |.exit id=>BL r sl m S (A:=fun m'=>Q (.exit id) S m')
  |_=>False
def Bp (r:Nat)(sl:SL)(m:ML){A:SL→ML→Prop}:Prop:=wk m r=true∧A sl m
theorem Bp.mk {r:Nat}{sl:SL}{m:ML}{A:SL→ML→Prop}(h:wk m r=true)(ha:A sl m):Bp r sl m (A:=A):=⟨h,ha⟩
@[reducible] def wM (N : Nat) : List Nat → Bool
  |[]=>true
  | p::ps=>match Nat.ble (Nat.add p 1) N with
    |true=>wM N ps
    |false=>false
theorem vD {N:Nat}:∀ {l:List Nat},wM N l=true→∀p∈l,p<N
  |[],_,p,h=>by cases h
  | q ::l,h,p,hp=>by
    simp only[wM] at h
    split at h
    · rename_i hb
      rcases dU.1 hp with rfl|hm
      ·exact fO hb
      ·exact vD h p hm
    ·cases h
def Hr (r:Nat):SL→Bool
  |[]=>true
  |(_,x)::l=>nk r x&&Hr r l
theorem Bt {r:Nat}:∀ {S:SL},Hr r S=true→∀i,nk r (ct S i)=true
  |[],_,i=>rfl
  | (d,x)::l,h,i=>by
    simp only[Hr,bN] at h
    simp only[ct]
    cases i==d with
    |true=>exact h.1
    |false=>exact Bt h.2 i
theorem bX.range {P:Program}{N nL:Nat}{sl:SL}{m:ML}{f:Operand}{ps:Array Tmp}{assign body:Code}{Q:Exit→SL→ML→Prop}{g:FuncId}{caps:List AV}{n:Nat}{enc:Nat→List AV}(Γ:cQ)(hΓ:Γ.Good P)
    (r:Nat) (S:SL) (M:Nat→ML) (hit:Jk P g caps n enc) (hg:aq P g) (h0:Fit nL sl m S (M 0)) (hf:eZ S f=.clo (.func g) [] caps)
    (hr:(Nat.ble nL r=true∧Nat.ble r j9=true)∧Hr r S=true) (hlive:∀k,k≤n→wk (M k) r=true) (henc:∀k,k<n→eV (enc k)=eV ps.toList)
    (hps:(tV ps.toList=true∧wM N ps.toList=true)∧dz assign=true∧dz body=true)
    (round:∀k,k<n→tI P N r Γ assign (HJ ps.toList (enc k) S) (M k) (fun e sl m=>match e with
      |.normal=>Bp r sl m (A:=fun sl m=>tI P N r Γ body sl m (K0 r S (M (k+1)) Q))
      |_=>False))
    (hdone:Q .normal S (M n)):bX P N nL sl m (c:=.rangeFunc f ps assign body) (Q:=Q):=by
  refine ga.range r S M hit hg h0.uJ ?_ (fO hr.1.1) (fO hr.1.2) (fun k hk t ht=>s7 (hlive k hk) t ht) (Bt hr.2) (fun k hk=>?_) (qY hps.1.1) (vD hps.1.2) hps.2.1 hps.2.2 (fun k hk=>?_) ⟨S,M n,rfl,hdone⟩
  ·rw[ev_eq];exact hf
  · have:=henc k hk
    rw[c6,c6] at this
    simpa using this
  · rw [←BT]
    refine(mN hΓ _ _ _ _ (round k hk)).mono ?_
    rintro e σ ⟨sl',m',rfl,h⟩
    cases e with
    | normal=>
      refine⟨rfl,fun t ht=>s7 h.1 t ht,(mN hΓ _ _ _ _ h.2).mono ?_⟩
      rintro e σ ⟨sl2,m2,rfl,h2⟩
      cases e with
      |normal=>exact Fit.uJ h2
      |ret=>obtain⟨m3,h3,h4⟩:=h2;exact⟨m3,h3.uJ,S,m3,rfl,h4⟩
      |exit id=>obtain⟨m3,h3,h4⟩:=h2;exact⟨m3,h3.uJ,S,m3,rfl,h4⟩
      |goto t=>exact h2.elim
      |panic c=>exact h2.elim
      |outgrown=>exact h2.elim
    |ret=>exact h.elim
    |exit id=>exact h.elim
    |goto t=>exact h.elim
    |panic c=>exact h.elim
    |outgrown=>exact h.elim
theorem hK {acc:Tk}{sl:SL}{m:ML}{A:Tk→SL→ML→Prop}(h:A acc sl m):bK acc sl m (A:=A):=h
theorem sK {sl:SL}{m:ML}{A:SL→ML→Prop}(h:A sl m):bL sl m (A:=A):=h
theorem nK {p:Prop}{acc:Tk}{sl:SL}{m:ML}{A:Tk→SL→ML→Prop}(h1:A acc sl m)(h:p:=by(try simp only[ay]);omega):bE p acc sl m (A:=A):=⟨h,h1⟩
theorem dK {P:Program}{l:List Oper}{acc:Tk}{sl:SL}{m:ML}{A:SL→ML→Prop}(h4:A sl m)(h1:P.follows .mixedOrders=true:=by kernel_rfl)(h2:Region.lexB .any l.toArray=true:=by kernel_rfl)(h3:(zI l.toArray acc||jc l.toArray acc)=true:=by kernel_rfl):aI P acc sl m (l:=l) (A:=A):=⟨h1,h2,h3,h4⟩
theorem wK {p q:Prop}(h:q)(e:q→p:=by intro hQ;with_reducible ((conv=>whnf);(conv=>congr<;>reduce);repeat((first|refine hK ?_|refine sK ?_);(conv=>whnf);(conv=>congr<;>reduce)));exact hQ):p:=e h
theorem wD {p q:Prop}(h:q)(e:q→p:=by intro hQ;delta List.toArray;with_reducible ((conv=>whnf);(conv=>congr<;>reduce);repeat((first|refine hK ?_|refine sK ?_);(conv=>whnf);(conv=>congr<;>reduce)));exact hQ):p:=e h
theorem gK {p q:Prop}(h:q)(e:q→p:=by
    intro hQ
    first
      |((with_reducible show aX _ _ _ _);first|refine aX.ff ?_|refine aX.tt ?_|refine aX.no (by clear hQ;first|rfl|assumption|exact nf (by assumption)|exact nt (by assumption)|((try simp only[ay]);first|(simp;done)|(simp;omega))) ?_|refine aX.yes (by clear hQ;first|rfl|assumption|exact nf (by assumption)|exact nt (by assumption)|((try simp only[ay]);first|(simp;done)|(simp;omega))) ?_)
      |((with_reducible show bE _ _ _ _);refine bE.mk (by clear hQ;(try simp only[ay]);omega) ?_)
      |((with_reducible show aI _ _ _ _);refine dK ?_)
    with_reducible ((conv=>whnf);(conv=>congr<;>reduce);repeat((first|refine hK ?_|refine sK ?_);(conv=>whnf);(conv=>congr<;>reduce)))
    exact hQ):p:=e h
theorem gF {p q:Prop}(h:q)(e:q→p:=by
    intro hQ
    first
      |((with_reducible show aX _ _ _ _);first|refine aX.ff ?_|refine aX.tt ?_|refine aX.no (by clear hQ;first|rfl|assumption|exact nf (by assumption)|exact nt (by assumption)|((try simp only[ay]);first|(simp[fct];done)|(simp[fct];omega))) ?_|refine aX.yes (by clear hQ;first|rfl|assumption|exact nf (by assumption)|exact nt (by assumption)|((try simp only[ay]);first|(simp[fct];done)|(simp[fct];omega))) ?_)
      |((with_reducible show bE _ _ _ _);refine bE.mk (by clear hQ;(try simp only[ay]);omega) ?_)
      |((with_reducible show aI _ _ _ _);refine dK ?_)
    with_reducible ((conv=>whnf);(conv=>congr<;>reduce);repeat((first|refine hK ?_|refine sK ?_);(conv=>whnf);(conv=>congr<;>reduce)))
    exact hQ):p:=e h
theorem iK {p q:Prop}(h:q)(e:q→p:=by
    intro hQ
    first
      |refine aX.yes (by clear hQ;assumption) ?_
      |refine aX.no (by clear hQ;assumption) ?_
      |with_reducible refine aX.yes Bool.not_false ?_
      |with_reducible refine aX.no Bool.not_true ?_
      |with_reducible refine aX.yes (nf (by clear hQ;assumption)) ?_
      |with_reducible refine aX.no (nt (by clear hQ;assumption)) ?_
      |with_reducible refine aX.tt ?_
      |with_reducible refine aX.ff ?_
    with_reducible ((conv=>whnf);(conv=>congr<;>reduce);repeat((first|refine hK ?_|refine sK ?_);(conv=>whnf);(conv=>congr<;>reduce)))
    exact hQ):p:=e h
theorem eK {x y c d c' d':Prop}(h1:c')(h2:d')(hx:x:=by rfl)(hy:y:=by rfl)(e1:c'→c:=by first|(intro hQ;with_reducible (conv=>whnf);exact hQ)|(refine fun(hQ:True)=>?_;with_reducible (conv=>whnf);done))(e2:d'→d:=by first|(intro hQ;with_reducible (conv=>whnf);exact hQ)|(refine fun(hQ:True)=>?_;with_reducible (conv=>whnf);done)):(x∧y)∧c∧d:=⟨⟨hx,hy⟩,e1 h1,e2 h2⟩
theorem aK {c d c' d':Prop}(h1:c')(h2:d')(e1:c'→c:=by first|(intro hQ;with_reducible (conv=>whnf);exact hQ)|(refine fun(hQ:True)=>?_;with_reducible (conv=>whnf);done))(e2:d'→d:=by first|(intro hQ;with_reducible (conv=>whnf);exact hQ)|(refine fun(hQ:True)=>?_;with_reducible (conv=>whnf);done)):c∧d:=⟨e1 h1,e2 h2⟩
theorem fK {x y c c':Prop}(h1:c')(hx:x:=by rfl)(hy:y:=by rfl)(e1:c'→c:=by first|(intro hQ;with_reducible (conv=>whnf);exact hQ)|(refine fun(hQ:True)=>?_;with_reducible (conv=>whnf);done)):(x∧y)∧c:=⟨⟨hx,hy⟩,e1 h1⟩
theorem pK {p q:Prop}(h:q)(e:q→p:=by
    intro hQ
    first
      |((with_reducible show aX _ _ _ _);first|refine aX.ff ?_|refine aX.tt ?_|refine aX.no (by clear hQ;first|rfl|assumption|exact nf (by assumption)|exact nt (by assumption)|exact dJ (by(try simp only[ay]);omega)|exact dx (by(try simp only[ay]);omega)|(simp only[ay,Bool.not_eq_true',Bool.not_eq_false',bH,cR];omega)) ?_|refine aX.yes (by clear hQ;first|rfl|assumption|exact nf (by assumption)|exact nt (by assumption)|exact dJ (by(try simp only[ay]);omega)|exact dx (by(try simp only[ay]);omega)|(simp only[ay,Bool.not_eq_true',Bool.not_eq_false',bH,cR];omega)) ?_)
      |((with_reducible show bE _ _ _ _);refine bE.mk (by clear hQ;(try simp only[ay]);omega) ?_)
      |((with_reducible show aI _ _ _ _);refine dK ?_)
    with_reducible ((conv=>whnf);(conv=>congr<;>reduce);repeat((first|refine hK ?_|refine sK ?_);(conv=>whnf);(conv=>congr<;>reduce)))
    exact hQ):p:=e h
theorem pF {p q:Prop}(h:q)(e:q→p:=by
    intro hQ
    first
      |((with_reducible show aX _ _ _ _);first|refine aX.ff ?_|refine aX.tt ?_|refine aX.no (by clear hQ;first|rfl|assumption|exact nf (by assumption)|exact nt (by assumption)|exact dJ (by(try simp only[ay]);omega)|exact dx (by(try simp only[ay]);omega)|(simp only[ay,Bool.not_eq_true',Bool.not_eq_false',bH,cR];omega)|((try simp only[ay]);first|(simp[fct];done)|(simp[fct];omega))) ?_|refine aX.yes (by clear hQ;first|rfl|assumption|exact nf (by assumption)|exact nt (by assumption)|exact dJ (by(try simp only[ay]);omega)|exact dx (by(try simp only[ay]);omega)|(simp only[ay,Bool.not_eq_true',Bool.not_eq_false',bH,cR];omega)|((try simp only[ay]);first|(simp[fct];done)|(simp[fct];omega))) ?_)
      |((with_reducible show bE _ _ _ _);refine bE.mk (by clear hQ;(try simp only[ay]);omega) ?_)
      |((with_reducible show aI _ _ _ _);refine dK ?_)
    with_reducible ((conv=>whnf);(conv=>congr<;>reduce);repeat((first|refine hK ?_|refine sK ?_);(conv=>whnf);(conv=>congr<;>reduce)))
    exact hQ):p:=e h
theorem fN {P:Program}:cQ.Good P []:=fun _ h=>by simp at h
theorem fC {P:Program}{t:Nat}{x:TI}{r:cQ}(h:cQ.Good P r)(h1:TI.ok P t x):cQ.Good P ((t,x)::r):=List.forall_mem_cons.2 ⟨h1,h⟩
theorem fS {P:Program}{t:Nat}{z:Value}{r:cQ}(h:cQ.Good P r)(h1:jt P t:=by exact fun _=>by kernel_rfl)(h2:eM P t 1:=by exact fun _=>by kernel_rfl)(h3:jj P t z:=by exact fun _=>by kernel_rfl):cQ.Good P ((t,.sc z)::r):=fC h ⟨h1,h2,h3⟩
theorem fB {P:Program}{t:Nat}{r:cQ}(h:cQ.Good P r)(h1:jt P t:=by exact fun _=>by kernel_rfl)(h2:eM P t 1:=by exact fun _=>by kernel_rfl)(h3:jj P t (.bool false):=by exact fun _=>by kernel_rfl)(h4:P.underlying t=some .bool:=by kernel_rfl):cQ.Good P ((t,.bl)::r):=fC h ⟨h1,h2,h3,h4⟩
theorem fG {P:Program}{t:Nat}{r:cQ}(h:cQ.Good P r)(h1:jt P t:=by exact fun _=>by kernel_rfl)(h2:eM P t 1:=by exact fun _=>by kernel_rfl)(h3:jj P t (.string ByteArray.empty):=by exact fun _=>by kernel_rfl)(h4:P.underlying t=some .string:=by kernel_rfl):cQ.Good P ((t,.str)::r):=fC h ⟨h1,h2,h3,h4⟩
theorem fL {P:Program}{t e wd b:Nat}{r:cQ}(h:cQ.Good P r)(h1:jt P t:=by exact fun _=>by kernel_rfl)(h2:eM P t 1:=by exact fun _=>by kernel_rfl)(h3:jj P t (.slice none 0 0):=by exact fun _=>by kernel_rfl)(h4:eM P e wd:=by exact fun _=>by kernel_rfl)
    (h5:zH P t e wd b ((P.info? e).getD default) (((P.info? e).getD default).zero.getD default):=by exact⟨by kernel_rfl,by kernel_rfl,by kernel_rfl,by kernel_rfl,by kernel_rfl,by kernel_rfl⟩):cQ.Good P ((t,.sl e wd b)::r):=fC h ⟨h1,h2,h3,h4,_,_,h5⟩
def FF (P:Program)(t:Nat):Nat→List (Nat×TypeId)→Prop
  |_,[]=>True
  |k,(off,ft)::r=>(pB P t k off∧sE P t k off ft)∧FF P t (k+1) r
theorem EI {P:Program}{t:Nat}:∀ (fs:List (Nat×TypeId)) (k:Nat),FF P t k fs→∀ (f off:Nat) (ft:TypeId),fs[f]? =some (off,ft)→pB P t (k+f) off∧sE P t (k+f) off ft
  |[],_,_,f,off,ft,h=>by simp at h
  | (o,u)::r,k,hF,0,off,ft,h=>by
    simp at h;obtain⟨rfl,rfl⟩:=h;exact hF.1
  | (o,u)::r,k,hF,f+1,off,ft,h=>by
    have:=EI r (k+1) hF.2 f off ft (by simpa using h)
    rwa [show k+1+f=k+ (f+1) by omega] at this
theorem CX (fs:List (Nat×TypeId))(szs:List Nat)(i:Nat):(match fs[i]?,szs[i]? with|some (off,_),some sz=>some (off,sz)|_,_=>none)=((fs.map Prod.fst).zip szs).toArray[i]? :=by
  simp only[List.getElem?_toArray]
  induction fs generalizing szs i with
  |nil=>simp
  | cons a l ih=>
    cases szs with
    |nil=>obtain⟨a1,a2⟩:=a;cases i<;>simp<;>split<;>simp_all
    | cons b m=>cases i with
      |zero=>simp
      |succ i=>simpa using ih m i
theorem fT {P:Program}{t n:Nat}{fs:List (Nat×TypeId)}{z:Array Value}{szs:List Nat}{fields:Array Field}{r:cQ}(hu:P.underlying t=some (.struct fields))(h:cQ.Good P r)(h1:Da P t:=by exact fun _=>by kernel_rfl)(h2:eM P t n:=by exact fun _=>by kernel_rfl)(h3:jj P t (.agg z):=by exact fun _=>by kernel_rfl)
    (h4:FF P t 0 fs:=by repeat' (first|exact trivial|(refine And.intro ⟨fun _ _=>?_,fun _ _=>?_⟩ ?_)|kernel_rfl))
    (h5:∀w,(fields.toList.mapM (m:=Sem) fun f=>do pure (f.offset,←sizeOf f.type)).run P w=.ok ((fs.map Prod.fst).zip szs) w:=by exact fun _=>by kernel_rfl):cQ.Good P ((t,.st n fs z szs)::r):=
  fC h ⟨h1,h2,h3,fun f off ft hf=>by have:=EI fs 0 h4 f off ft hf;rwa [Nat.zero_add] at this,s4.mk (places:=((fs.map Prod.fst).zip szs).toArray) hu h3 h5 (CX fs szs)⟩
section
variable {P : Program} {N : Nat} {o : Oper} {args args' : List AV} {acc : Tk} {sl : SL} {m : ML} {R : Rest} {res : AV}
theorem kQ (f:Nat)(h:af P N f args acc sl m (o:=o) (R:=R)):af P N f args acc sl m (o:=o) (R:=R):=h
theorem cL {f:FuncId}(hf:ak P f [] args' [] res)(hc:aq P f)(h:R [] res [] acc sl m)(ha:vg [] m args' args:=by(repeat' (first|exact trivial|exact rfl|refine⟨?_,?_⟩));first|done|fail)(hd:kZ N o.dst=true:=by exact rfl)(hp:kx res=true:=by exact rfl):
    af P N f args acc sl m (o:=o) (R:=R):=af.lit [] hf hc ha hd hp h
end
theorem aE {p c d:Prop}(h1:c)(h2:d)(e:c→d→p:=by
    intro hA hB
    first
      |(with_reducible show(_=true∧_=true)∧_∧_);refine⟨⟨rfl,rfl⟩,?_,?_⟩
      |(with_reducible show _∧_);refine⟨?_,?_⟩
    ·first|(with_reducible (conv=>whnf);exact hA)|(have hT:True:=hA;with_reducible (conv=>whnf);done)
    ·first|(with_reducible (conv=>whnf);exact hB)|(have hT:True:=hB;with_reducible (conv=>whnf);done)):p:=e h1 h2
theorem gb.of {R:AV→AV→Prop}:∀ {a b:List AV},xu R a b→gb R a b
  |[],[],_=>⟨rfl,fun i x y h=>by simp at h⟩
  | x::xs,y::ys,h=>by
    obtain⟨h1,h2⟩:=gb.of h.2
    refine⟨by simp[h1],fun i u v hu hv=>?_⟩
    cases i with
    |zero=>cases hu;cases hv;exact h.1
    |succ i=>exact h2 i u v hu hv
  |[],_::_,h=>h.elim
  |_::_,[],h=>h.elim
def KR (wd:Nat)(rows:List AV):Bool:=rows.all fun r=>(cells r).length==wd
def FP (m:ML):Bool:=m.all fun p=>match p.2 with
  |.live wd rows _=>KR wd rows
  |_=>true
theorem E9 {m:ML}(h:FP m=true):∀t wd rows ro,eD m t=.live wd rows ro→bG wd rows:=by
  induction m with
  |nil=>intro t wd rows ro h;cases h
  | cons p r ih=>
    intro t wd rows ro hl
    obtain⟨a,b⟩:=p
    unfold FP at h
    rw[List.all_cons,bN] at h
    rw[gW] at hl
    simp only[aR] at hl
    cases hta:t==a with
    | true=>
      rw[hta] at hl
      change b=_ at hl
      subst hl
      exact bG.ja fun x hx=>by simpa using(List.all_eq_true.1 h.1) x hx
    | false=>
      rw[hta] at hl
      exact ih h.2 t wd rows ro (by rw[gW];exact hl)
theorem ak.frozen {P:Program}{f:FuncId}{args:List AV}{outs:List MS}{res res':AV}(m:ML)(hm:aR m=aG outs)(hw:FP m=true)(h:ak P f [] args outs res)(hcv:MF [] (fun _=>true) m 12 res' res):ak P f [] args [] res':=by
  intro w W0 L vs hL hs hargs
  refine(h w W0 L vs hL hs hargs).mono ?_
  rintro e w' ⟨v,μ',rfl,hs',hv⟩
  have hLn:∀t,L t=none:=fun t=>hL t (Nat.zero_le _)
  have hW:∀b,Wr W0 (fun _=>none) (aG []) b→W0 b:=by
    rintro b (h|⟨t,B,wd,rows,_,h,_⟩)
    ·exact h
    ·cases h
  refine⟨v,fun _=>none,rfl,?_,?_⟩
  ·refine⟨hs'.tsize,hs'.defers,hs'.os,hs'.tape,hs'.output,hs'.hsize,hs'.shp,hs'.keep,hs'.w0lt,fun t B _ h=>(by rw[hLn] at h;cases h),fun t=>by simp[bare,aG],fun _=>.any,fun t wd rows ro h=>?_,fun t t' wd rows wd' rows' ro' B B' _ h=>?_,fun t wd rows ro B h=>?_,hs'.tabs⟩<;>simp[bare,aG] at h
  · have hc:Cv (aR m) (gQ []) (fun _=>False) (fun t=> ∃wd rows ro,aR m t=.live wd rows ro) res' res:=
      lA (fun t wd rows ro h _=>E9 hw t wd rows ro h) (fun t u h=>by cases h) (fun t wd rows ro h _=>⟨wd,rows,ro,by rw[←gW];exact h⟩) 12 res' res hcv
    rw[hm] at hc
    refine Cv.rep (W:=Wr W0 μ' (aG outs)) (μ:=μ') (fun t wd rows ro h=>hs'.objs t wd rows ro h) (fun b _ hb=>.inl (hW b hb)) (fun t h=>h.elim) ?_ hc hv
    rintro s B ⟨wd,rows,ro,hl⟩ hB hv hb
    exact(hs'.out s wd rows ro B hl hB hv).1 (hW _ hb)
theorem ak.Ks {P:Program}{f:FuncId}{args args':List AV}{res:AV}{ins:List MS}(m:ML)(T:List Nat)(hm:aR m=aG ins)(h:ak P f [] args [] res)(hp:kx res=true)(hcv:xu (MF [] (J5 T) m 12) args args'):ak P f ins args' ins res:=by
  intro w W0 L vs hL hs hargs
  have hmem:(bare ins).mem=aG ins:=rfl
  have hw:∀t wd rows ro,eD m t=.live wd rows ro→t∈T→bG wd rows:=fun t wd rows ro h1 _=>by
    obtain⟨B,_,h3⟩:=hs.objs t wd rows ro (by rw[hmem,←hm,←gW];exact h1)
    exact h3.wide
  have hc:gR (bare ins).mem id (fun _=>False) (· ∈T) args args':=by
    have:=jE (D:=fun _=>False) (F:=(· ∈T)) (ρ:=gQ []) (mm:=aR m) (fun r x=>lA (fun t wd rows ro h1 h2=>hw t wd rows ro h1 (dV.1 h2)) (fun t u h=>by cases h) (fun t wd rows ro _ h2=>dV.1 h2) 12 r x) hcv
    rw[hm] at this;exact this
  have hcall:=h w _ (fun _=>none) vs (fun _ _=>rfl) (lV hs T) (ku hs hc hargs)
  refine Calls.mono hcall ?_
  rintro e w' ⟨v,μ',rfl,hs',hv⟩
  have jX:∀b,b<w.heap.size→w'.heap[b]? =w.heap[b]? :=fun b hb=>hs'.keep b hb (by rintro⟨t,B,h,_⟩;cases h)
  have shape:∀b e n,w.shape? b=some (e,n)→w'.shape? b=some (e,n):=fun b e n h=>by
    have hb:b<w.heap.size:=by
      rcases Nat.lt_or_ge b w.heap.size with h'|h'
      ·exact h'
      ·simp[World.shape?,Array.getElem?_eq_none h'] at h
    simpa[World.shape?,jX b hb] using h
  have old:∀t wd rows ro B,(bare ins).mem t=.live wd rows ro→L t=some B→B.virt=false→w.heap.size≤B.b∨∃t1 wd1 rows1 ro1 B1,(bare ins).mem t1=.live wd1 rows1 ro1∧L t1=some B1∧B1.b=B.b∧B1.virt=false∧(ro=false→ro1=false):=
    fun t wd rows ro B h1 h2 h3=>.inr ⟨t,wd,rows,ro,B,h1,h2,rfl,h3,id⟩
  have g:=hs.grow (m':=(bare ins).mem) (μ':=L) hs'.hsize (fun b hb _=>jX b hb) shape (fun _ _ h=>h) (eX old)
  have:=hs.step (m':=(bare ins).mem) (μ':=L) hs'.hsize hs'.os hs'.tape hs'.output (fun b hb _=>jX b hb) shape (fun _ _ h=>h) old hs.free
    (fun t wd rows ro h=>let⟨B,h1,h2⟩:=hs.objs t wd rows ro h;⟨B,h1,h2.grow g fun hv=>jX _ (hs.dO h h1 hv)⟩) hs.inj
  exact⟨v,L,rfl,this,hv.plain hp⟩
theorem ak.G9 {P:Program}{f:FuncId}{args args':List AV}{n wd:Nat}{rows:List AV}{ins:List MS}(m:ML)(T:List Nat)(hm:aR m=aG ins)(h:ak P f [] args [.live wd rows false] (.own 0 0 n))
    (hplain:∀c∈flat rows,kx c=true) (hagg:∀r∈rows,∀cs,r≠ .agg cs) (hcv:xu (MF [] (J5 T) m 12) args args'):ak P f ins args' (ins++ [.live wd rows false]) (.own ins.length 0 n):=by
  intro w W0 L vs hL hs hargs
  have hmem:(bare ins).mem=aG ins:=rfl
  have hw:∀t wd rows ro,eD m t=.live wd rows ro→t∈T→bG wd rows:=fun t wd rows ro h1 _=>by
    obtain⟨B,_,h3⟩:=hs.objs t wd rows ro (by rw[hmem,←hm,←gW];exact h1)
    exact h3.wide
  have hc:gR (bare ins).mem id (fun _=>False) (· ∈T) args args':=by
    have:=jE (D:=fun _=>False) (F:=(· ∈T)) (ρ:=gQ []) (mm:=aR m) (fun r x=>lA (fun t wd rows ro h1 h2=>hw t wd rows ro h1 (dV.1 h2)) (fun t u h=>by cases h) (fun t wd rows ro _ h2=>dV.1 h2) 12 r x) hcv
    rw[hm] at this;exact this
  have hcall:=h w _ (fun _=>none) vs (fun _ _=>rfl) (lV hs T) (ku hs hc hargs)
  refine Calls.mono hcall ?_
  rintro e w' ⟨v,μ',rfl,hs',hv⟩
  have noLent:∀b,¬so (fun _=>none) b:=by rintro b ⟨t,B,h,_⟩;cases h
  have jX:∀b,b<w.heap.size→w'.heap[b]? =w.heap[b]? :=fun b hb=>hs'.keep b hb (noLent b)
  have shape:∀b e n,w.shape? b=some (e,n)→w'.shape? b=some (e,n):=fun b e n h=>by
    have hb:b<w.heap.size:=by
      rcases Nat.lt_or_ge b w.heap.size with h'|h'
      ·exact h'
      ·simp[World.shape?,Array.getElem?_eq_none h'] at h
    simpa[World.shape?,jX b hb] using h
  obtain⟨B,hB,hobj⟩:=hs'.objs 0 wd rows false rfl
  have newge:B.virt=false→w.heap.size≤B.b:=fun hvb=>by
    rcases(hs'.out 0 wd rows false B rfl hB hvb).2 rfl with h|h
    ·exact h
    ·exact absurd h (noLent _)
  have hm2n:aG (ins++ [MS.live wd rows false]) ins.length=.live wd rows false:=by simp[aG]
  have hm2o:∀t,t≠ins.length→aG (ins++ [MS.live wd rows false]) t=aG ins t:=fun t ht=>by
    unfold aG
    rcases Nat.lt_or_gt_of_ne ht with h|h
    ·rw[List.getElem?_append_left h]
    ·rw[mD (by simp;omega),mD (by omega)]
  generalize hM:aG (ins++ [MS.live wd rows false])=m2 at*
  obtain⟨μ2,hμ⟩:∃μ2:Mu,μ2=fun t=>if t=ins.length then some B else L t:=⟨_,rfl⟩
  have μn:μ2 ins.length=some B:=by rw[hμ];exact if_pos rfl
  have μo:∀t,t≠ins.length→μ2 t=L t:=fun t ht=>by rw[hμ];exact if_neg ht
  have hLn:L ins.length=none:=hL _ (Nat.le_refl _)
  have mu:∀t B,L t=some B→μ2 t=some B:=fun t B' h=>by
    by_cases e:t=ins.length
    ·rw[e,hLn] at h;cases h
    ·rw[μo t e];exact h
  have old:∀t wd rows ro B,m2 t=.live wd rows ro→μ2 t=some B→B.virt=false→w.heap.size≤B.b∨∃t1 wd1 rows1 ro1 B1,(bare ins).mem t1=.live wd1 rows1 ro1∧L t1=some B1∧B1.b=B.b∧B1.virt=false∧(ro=false→ro1=false):=by
    intro t wd1 rows1 ro B1 h3 h4 h5
    by_cases e:t=ins.length
    · subst e
      rw[μn] at h4;cases h4
      exact .inl (newge h5)
    · rw[hm2o t e] at h3
      rw[μo t e] at h4
      exact .inr ⟨t,wd1,rows1,ro,B1,h3,h4,rfl,h5,id⟩
  have g:=hs.grow (m':=m2) (μ':=μ2) hs'.hsize (fun b hb _=>jX b hb) shape mu (eX old)
  have hstep:=hs.step (m':=m2) (μ':=μ2) hs'.hsize hs'.os hs'.tape hs'.output (fun b hb _=>jX b hb) shape mu old
    (fun t=>by
      by_cases e:t=ins.length
      ·subst e;rw[μn,hm2n];simp
      ·rw[μo t e,hm2o t e];exact hs.free t)
    (fun t wd1 rows1 ro h3=>by
      by_cases e:t=ins.length
      · subst e
        rw[hm2n] at h3;cases h3
        refine⟨B,μn,hobj.width,hobj.wide,hobj.blk,hobj.virt,fun hmp q c hq=>?_,hobj.vm,fun hmp=>?_⟩
        · obtain⟨v1,k1,k2⟩:=hobj.cell hmp q c hq
          exact⟨v1,k1,k2.plain (hplain c (bO hq))⟩
        · obtain⟨es,cl,k1,k2,k3,k4,k5,k6⟩:=hobj.map hmp
          refine⟨es,cl,k1,k2,k3,k4,k5,fun i r hr=>?_⟩
          obtain⟨k,c,e,rfl,_⟩:=k6 i r hr
          exact absurd rfl (hagg _ (bO hr) _)
      · rw[hm2o t e] at h3
        obtain⟨B1,h4,h5⟩:=hs.objs t wd1 rows1 ro h3
        exact⟨B1,by rw[μo t e];exact h4,h5.grow g fun hv'=>jX _ (hs.dO h3 h4 hv')⟩)
    (by
      intro t t' wd1 rows1 wd1' rows1' ro' B1 B1' hne h3 h4 h5 h6 v1 v2
      by_cases e:t=ins.length
      · subst e
        have e':t'≠ins.length:=fun e'=>hne e'.symm
        rw[hm2o t' e'] at h4
        rw[μn] at h5;rw[μo t' e'] at h6
        cases h5
        have:=newge v1
        have:=hs.dO h4 h6 v2
        omega
      · by_cases e':t'=ins.length
        · subst e'
          rw[hm2o t e] at h3
          rw[μn] at h6;rw[μo t e] at h5
          cases h6
          have:=newge v2
          have:=hs.dO h3 h5 v1
          omega
        · rw[hm2o t e] at h3
          rw[hm2o t' e'] at h4
          rw[μo t e] at h5;rw[μo t' e'] at h6
          exact hs.inj t t' _ _ _ _ _ B1 B1' hne h3 h4 h5 h6 v1 v2)
  refine⟨v,μ2,rfl,?_,?_⟩
  ·subst hM;exact hstep
  · cases hv with
    | own h1 h2 h3 h4 h5 h6=>
      rw[hB] at h1;cases h1
      exact .own μn h2 h3 h4 h5 h6
    | ownNil h1=>
      rw[hB] at h1;cases h1
      exact .ownNil μn
end Go.Am
