/- Models, plain laws and contracts of functions of the given program; conditions as stated in each theorem. By an AI agent. -/
import Derived.JoinedOf
set_option linter.unusedSimpArgs false
set_option linter.unusedVariables false
namespace Go.Proofs.Heir
open Go
def RF (P:Program)(f:FuncId)(fn:Func)(s:ChangeSpec)(c:OpenClaim):Bool:=c.wf (OpenSpec.ofChange s)
def Sa (P:Program)(f:FuncId)(fn:Func)(s:ChangeSpec)(c:OpenClaim):Bool:=laidOutB P
def RN (P:Program)(f:FuncId)(fn:Func)(s:ChangeSpec)(c:OpenClaim):Bool:=mapsRowed P
def QY (P:Program)(f:FuncId)(fn:Func)(s:ChangeSpec)(c:OpenClaim):Bool:=(fn.params.all (P.readableRec ·)&&namedTie P c.named s.vars&&(c.stops==[])&&(P.stops==[])&&(c.knobs==[])&&(P.stopKnobs==[]))
def Q6 (P:Program)(f:FuncId)(fn:Func)(s:ChangeSpec)(c:OpenClaim):Bool:=(c.inPlace==P.inPlace f)
def R7 (P:Program)(f:FuncId)(fn:Func)(s:ChangeSpec)(c:OpenClaim):Bool:=(c.unfollowed==P.unfollowed f)
def Sx (P:Program)(f:FuncId)(fn:Func)(s:ChangeSpec)(c:OpenClaim):Bool:=(c.recurses==P.recurses f)
def QN (P:Program)(f:FuncId)(fn:Func)(s:ChangeSpec)(c:OpenClaim):Bool:=(c.named==P.varsNamed f)
def Ra (P:Program)(f:FuncId)(fn:Func)(s:ChangeSpec)(c:OpenClaim):Bool:=((c.maps==(fn.params.toList++s.plain.varTypes P).any (P.mapsRec ·))&&(c.ifaces==(fn.params.toList++s.plain.varTypes P).any (P.ifacesRec ·))&&(c.mapsOut==P.mapsAmong fn.resultTypes.toList))
def Ov (P:Program)(f:FuncId)(fn:Func)(s:ChangeSpec)(c:OpenClaim):Bool:=(c.loops==(fn.params.toList++s.plain.varTypes P).any (P.loopsFrom ·))
def O4 (P:Program)(f:FuncId)(fn:Func)(s:ChangeSpec)(c:OpenClaim):Bool:=(c.wideKeys==(fn.params.toList++s.plain.varTypes P++fn.resultTypes.toList).any (P.wideKeysFrom ·))
def NK (P:Program)(f:FuncId)(fn:Func)(s:ChangeSpec)(c:OpenClaim):Bool:=(s.vars.all (P.varReadable ·)&&fn.resultTypes.all (fun t=>P.readableRec t&&decide (t<P.types.size))&&(c.ifacesOut==fn.resultTypes.toList.any (P.ifacesRec ·)))
def NX (P:Program)(f:FuncId)(fn:Func)(s:ChangeSpec)(c:OpenClaim):Bool:=(c.loopsOut==fn.resultTypes.toList.any (P.loopsFrom ·))
def Ob (P:Program)(f:FuncId)(fn:Func)(s:ChangeSpec)(c:OpenClaim):Bool:=(c.plainKeys==P.plainKeys)
def O2 (P:Program)(f:FuncId)(fn:Func)(s:ChangeSpec)(c:OpenClaim):Bool:=(c.shortTexts.isNone&&P.stopsHeard&&P.mayEnter&&(c.lifted==P.liftsFinal)&&(P.make==some c.make))
def NS (P:Program)(f:FuncId)(fn:Func)(s:ChangeSpec)(c:OpenClaim):Bool:=((c.kinds==(if c.domain.isEmpty then[] else fn.params.toList.map fun t=>match P.underlying t with|some (.int k)=>some k|_=>none))&&(c.pinned==c.pinnedBy))
def NN (P:Program)(f:FuncId)(fn:Func)(s:ChangeSpec)(c:OpenClaim):Bool:=((c.veiled==(fn.params.toList++s.plain.varTypes P++fn.resultTypes.toList).any (P.veiledRec ·))&&c.veiledFits P fn.params.toList (fn.params.toList++s.plain.varTypes P++fn.resultTypes.toList))
theorem Fg {P:Program}{f:FuncId}{fn:Func}{s:ChangeSpec}{c:OpenClaim}(h1:RF P f fn s c=true)(h2:Sa P f fn s c=true)(h3:RN P f fn s c=true)(h4:QY P f fn s c=true)(h5:Q6 P f fn s c=true)(h6:R7 P f fn s c=true)(h7:Sx P f fn s c=true)(h8:QN P f fn s c=true)(h9:Ra P f fn s c=true)(h10:Ov P f fn s c=true)(h11:O4 P f fn s c=true)(h12:NK P f fn s c=true)(h13:NX P f fn s c=true)(h14:Ob P f fn s c=true)(h15:O2 P f fn s c=true)(h16:NS P f fn s c=true)(h17:NN P f fn s c=true):
  joinedFacts P f fn s c=true:=by
  unfold joinedFacts
  unfold RF at h1;
  unfold Sa at h2;
  unfold RN at h3;
  unfold QY at h4;
  unfold Q6 at h5;
  unfold R7 at h6;
  unfold Sx at h7;
  unfold QN at h8;
  unfold Ra at h9;
  unfold Ov at h10;
  unfold O4 at h11;
  unfold NK at h12;
  unfold NX at h13;
  unfold Ob at h14;
  unfold O2 at h15;
  unfold NS at h16;
  unfold NN at h17
  simp only[Bool.and_eq_true] at*
  obtain⟨⟨⟨⟨⟨a1,a2⟩,a3⟩,a4⟩,a5⟩,a6⟩:=h4
  obtain⟨⟨b1,b2⟩,b3⟩:=h9
  obtain⟨⟨c1,c2⟩,c3⟩:=h12
  obtain⟨⟨⟨⟨d1,d2⟩,d3⟩,d4⟩,d5⟩:=h15
  obtain⟨e1,e2⟩:=h16
  obtain⟨f1,f2⟩:=h17
  exact⟨⟨⟨⟨⟨⟨⟨⟨⟨⟨⟨⟨⟨⟨⟨⟨⟨⟨⟨⟨⟨⟨⟨⟨⟨⟨⟨⟨⟨⟨⟨h1,h2⟩,h3⟩,a1⟩,a2⟩,a3⟩,a4⟩,a5⟩,a6⟩,h5⟩,h6⟩,h7⟩,h8⟩,b1⟩,b2⟩,b3⟩,h10⟩,h11⟩,c1⟩,c2⟩,c3⟩,h13⟩,h14⟩,d1⟩,d2⟩,d3⟩,d4⟩,d5⟩,e1⟩,e2⟩,f1⟩,f2⟩
end Go.Proofs.Heir
