/- Models, plain laws and contracts of functions of the given program; conditions as stated in each theorem. By an AI agent. -/
import Derived.JoinedOf
set_option linter.unusedSimpArgs false
set_option linter.unusedVariables false
namespace Go.Proofs.Heir
open Go
def ME (P:Program)(f:FuncId)(fn:Func)(s:ChangeSpec)(c:OpenClaim):Bool:=c.wf (OpenSpec.ofChange s)
def MC (P:Program)(f:FuncId)(fn:Func)(s:ChangeSpec)(c:OpenClaim):Bool:=laidOutB P
def Mh (P:Program)(f:FuncId)(fn:Func)(s:ChangeSpec)(c:OpenClaim):Bool:=mapsRowed P
def L5 (P:Program)(f:FuncId)(fn:Func)(s:ChangeSpec)(c:OpenClaim):Bool:=(fn.params.all (P.readableRec ·)&&namedTie P c.named s.vars&&(c.stops==[])&&(P.stops==[])&&(c.knobs==[])&&(P.stopKnobs==[]))
def L6 (P:Program)(f:FuncId)(fn:Func)(s:ChangeSpec)(c:OpenClaim):Bool:=(c.inPlace==P.inPlace f)
def Mv (P:Program)(f:FuncId)(fn:Func)(s:ChangeSpec)(c:OpenClaim):Bool:=(c.unfollowed==P.unfollowed f)
def Mw (P:Program)(f:FuncId)(fn:Func)(s:ChangeSpec)(c:OpenClaim):Bool:=(c.recurses==P.recurses f)
def Mj (P:Program)(f:FuncId)(fn:Func)(s:ChangeSpec)(c:OpenClaim):Bool:=(c.named==P.varsNamed f)
def Mg (P:Program)(f:FuncId)(fn:Func)(s:ChangeSpec)(c:OpenClaim):Bool:=((c.maps==(fn.params.toList++s.plain.varTypes P).any (P.mapsRec ·))&&(c.ifaces==(fn.params.toList++s.plain.varTypes P).any (P.ifacesRec ·))&&(c.mapsOut==P.mapsAmong fn.resultTypes.toList))
def KH (P:Program)(f:FuncId)(fn:Func)(s:ChangeSpec)(c:OpenClaim):Bool:=(c.loops==(fn.params.toList++s.plain.varTypes P).any (P.loopsFrom ·))
def Ji (P:Program)(f:FuncId)(fn:Func)(s:ChangeSpec)(c:OpenClaim):Bool:=(c.wideKeys==(fn.params.toList++s.plain.varTypes P++fn.resultTypes.toList).any (P.wideKeysFrom ·))
def JG (P:Program)(f:FuncId)(fn:Func)(s:ChangeSpec)(c:OpenClaim):Bool:=(s.vars.all (P.varReadable ·)&&fn.resultTypes.all (fun t=>P.readableRec t&&decide (t<P.types.size))&&(c.ifacesOut==fn.resultTypes.toList.any (P.ifacesRec ·)))
def Kk (P:Program)(f:FuncId)(fn:Func)(s:ChangeSpec)(c:OpenClaim):Bool:=(c.loopsOut==fn.resultTypes.toList.any (P.loopsFrom ·))
def KK (P:Program)(f:FuncId)(fn:Func)(s:ChangeSpec)(c:OpenClaim):Bool:=(c.plainKeys==P.plainKeys)
def JR (P:Program)(f:FuncId)(fn:Func)(s:ChangeSpec)(c:OpenClaim):Bool:=(c.shortTexts.isNone&&P.stopsHeard&&P.mayEnter&&(c.lifted==P.liftsFinal)&&(P.make==some c.make))
def KN (P:Program)(f:FuncId)(fn:Func)(s:ChangeSpec)(c:OpenClaim):Bool:=((c.kinds==(if c.domain.isEmpty then[] else fn.params.toList.map fun t=>match P.underlying t with|some (.int k)=>some k|_=>none))&&(c.pinned==c.pinnedBy))
def KG (P:Program)(f:FuncId)(fn:Func)(s:ChangeSpec)(c:OpenClaim):Bool:=((c.veiled==(fn.params.toList++s.plain.varTypes P++fn.resultTypes.toList).any (P.veiledRec ·))&&c.veiledFits P fn.params.toList (fn.params.toList++s.plain.varTypes P++fn.resultTypes.toList))
theorem DK {P:Program}{f:FuncId}{fn:Func}{s:ChangeSpec}{c:OpenClaim}(h1:ME P f fn s c=true)(h2:MC P f fn s c=true)(h3:Mh P f fn s c=true)(h4:L5 P f fn s c=true)(h5:L6 P f fn s c=true)(h6:Mv P f fn s c=true)(h7:Mw P f fn s c=true)(h8:Mj P f fn s c=true)(h9:Mg P f fn s c=true)(h10:KH P f fn s c=true)(h11:Ji P f fn s c=true)(h12:JG P f fn s c=true)(h13:Kk P f fn s c=true)(h14:KK P f fn s c=true)(h15:JR P f fn s c=true)(h16:KN P f fn s c=true)(h17:KG P f fn s c=true):
  joinedFacts P f fn s c=true:=by
  unfold joinedFacts
  unfold ME at h1;
  unfold MC at h2;
  unfold Mh at h3;
  unfold L5 at h4;
  unfold L6 at h5;
  unfold Mv at h6;
  unfold Mw at h7;
  unfold Mj at h8;
  unfold Mg at h9;
  unfold KH at h10;
  unfold Ji at h11;
  unfold JG at h12;
  unfold Kk at h13;
  unfold KK at h14;
  unfold JR at h15;
  unfold KN at h16;
  unfold KG at h17
  simp only[Bool.and_eq_true] at*
  obtain⟨⟨⟨⟨⟨a1,a2⟩,a3⟩,a4⟩,a5⟩,a6⟩:=h4
  obtain⟨⟨b1,b2⟩,b3⟩:=h9
  obtain⟨⟨c1,c2⟩,c3⟩:=h12
  obtain⟨⟨⟨⟨d1,d2⟩,d3⟩,d4⟩,d5⟩:=h15
  obtain⟨e1,e2⟩:=h16
  obtain⟨f1,f2⟩:=h17
  exact⟨⟨⟨⟨⟨⟨⟨⟨⟨⟨⟨⟨⟨⟨⟨⟨⟨⟨⟨⟨⟨⟨⟨⟨⟨⟨⟨⟨⟨⟨⟨h1,h2⟩,h3⟩,a1⟩,a2⟩,a3⟩,a4⟩,a5⟩,a6⟩,h5⟩,h6⟩,h7⟩,h8⟩,b1⟩,b2⟩,b3⟩,h10⟩,h11⟩,c1⟩,c2⟩,c3⟩,h13⟩,h14⟩,d1⟩,d2⟩,d3⟩,d4⟩,d5⟩,e1⟩,e2⟩,f1⟩,f2⟩
end Go.Proofs.Heir
