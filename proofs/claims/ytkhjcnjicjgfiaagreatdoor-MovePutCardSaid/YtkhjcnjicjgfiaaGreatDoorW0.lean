/- Models, plain laws and contracts of functions of the given program; conditions as stated in each theorem. By an AI agent. -/
import Derived.JoinedOf
set_option linter.unusedSimpArgs false
set_option linter.unusedVariables false
namespace Go.Proofs.Heir
open Go
def Nr (P:Program)(f:FuncId)(fn:Func)(s:ChangeSpec)(c:OpenClaim):Bool:=c.wf (OpenSpec.ofChange s)
def Ok (P:Program)(f:FuncId)(fn:Func)(s:ChangeSpec)(c:OpenClaim):Bool:=laidOutB P
def Oi (P:Program)(f:FuncId)(fn:Func)(s:ChangeSpec)(c:OpenClaim):Bool:=mapsRowed P
def NP (P:Program)(f:FuncId)(fn:Func)(s:ChangeSpec)(c:OpenClaim):Bool:=(fn.params.all (P.readableRec ·)&&namedTie P c.named s.vars&&(c.stops==[])&&(P.stops==[])&&(c.knobs==[])&&(P.stopKnobs==[]))
def Nt (P:Program)(f:FuncId)(fn:Func)(s:ChangeSpec)(c:OpenClaim):Bool:=(c.inPlace==P.inPlace f)
def NY (P:Program)(f:FuncId)(fn:Func)(s:ChangeSpec)(c:OpenClaim):Bool:=(c.unfollowed==P.unfollowed f)
def OI (P:Program)(f:FuncId)(fn:Func)(s:ChangeSpec)(c:OpenClaim):Bool:=(c.recurses==P.recurses f)
def Oj (P:Program)(f:FuncId)(fn:Func)(s:ChangeSpec)(c:OpenClaim):Bool:=(c.named==P.varsNamed f)
def NW (P:Program)(f:FuncId)(fn:Func)(s:ChangeSpec)(c:OpenClaim):Bool:=((c.maps==(fn.params.toList++s.plain.varTypes P).any (P.mapsRec ·))&&(c.ifaces==(fn.params.toList++s.plain.varTypes P).any (P.ifacesRec ·))&&(c.mapsOut==P.mapsAmong fn.resultTypes.toList))
def HC (P:Program)(f:FuncId)(fn:Func)(s:ChangeSpec)(c:OpenClaim):Bool:=(c.loops==(fn.params.toList++s.plain.varTypes P).any (P.loopsFrom ·))
def HL (P:Program)(f:FuncId)(fn:Func)(s:ChangeSpec)(c:OpenClaim):Bool:=(c.wideKeys==(fn.params.toList++s.plain.varTypes P++fn.resultTypes.toList).any (P.wideKeysFrom ·))
def HO (P:Program)(f:FuncId)(fn:Func)(s:ChangeSpec)(c:OpenClaim):Bool:=(s.vars.all (P.varReadable ·)&&fn.resultTypes.all (fun t=>P.readableRec t&&decide (t<P.types.size))&&(c.ifacesOut==fn.resultTypes.toList.any (P.ifacesRec ·)))
def Hv (P:Program)(f:FuncId)(fn:Func)(s:ChangeSpec)(c:OpenClaim):Bool:=(c.loopsOut==fn.resultTypes.toList.any (P.loopsFrom ·))
def IL (P:Program)(f:FuncId)(fn:Func)(s:ChangeSpec)(c:OpenClaim):Bool:=(c.plainKeys==P.plainKeys)
def Gi (P:Program)(f:FuncId)(fn:Func)(s:ChangeSpec)(c:OpenClaim):Bool:=(c.shortTexts.isNone&&P.stopsHeard&&P.mayEnter&&(c.lifted==P.liftsFinal)&&(P.make==some c.make))
def Gb (P:Program)(f:FuncId)(fn:Func)(s:ChangeSpec)(c:OpenClaim):Bool:=((c.kinds==(if c.domain.isEmpty then[] else fn.params.toList.map fun t=>match P.underlying t with|some (.int k)=>some k|_=>none))&&(c.pinned==c.pinnedBy))
def HW (P:Program)(f:FuncId)(fn:Func)(s:ChangeSpec)(c:OpenClaim):Bool:=((c.veiled==(fn.params.toList++s.plain.varTypes P++fn.resultTypes.toList).any (P.veiledRec ·))&&c.veiledFits P fn.params.toList (fn.params.toList++s.plain.varTypes P++fn.resultTypes.toList))
theorem qZ {P:Program}{f:FuncId}{fn:Func}{s:ChangeSpec}{c:OpenClaim}(h1:Nr P f fn s c=true)(h2:Ok P f fn s c=true)(h3:Oi P f fn s c=true)(h4:NP P f fn s c=true)(h5:Nt P f fn s c=true)(h6:NY P f fn s c=true)(h7:OI P f fn s c=true)(h8:Oj P f fn s c=true)(h9:NW P f fn s c=true)(h10:HC P f fn s c=true)(h11:HL P f fn s c=true)(h12:HO P f fn s c=true)(h13:Hv P f fn s c=true)(h14:IL P f fn s c=true)(h15:Gi P f fn s c=true)(h16:Gb P f fn s c=true)(h17:HW P f fn s c=true):
  joinedFacts P f fn s c=true:=by
  unfold joinedFacts
  unfold Nr at h1;
  unfold Ok at h2;
  unfold Oi at h3;
  unfold NP at h4;
  unfold Nt at h5;
  unfold NY at h6;
  unfold OI at h7;
  unfold Oj at h8;
  unfold NW at h9;
  unfold HC at h10;
  unfold HL at h11;
  unfold HO at h12;
  unfold Hv at h13;
  unfold IL at h14;
  unfold Gi at h15;
  unfold Gb at h16;
  unfold HW at h17
  simp only[Bool.and_eq_true] at*
  obtain⟨⟨⟨⟨⟨a1,a2⟩,a3⟩,a4⟩,a5⟩,a6⟩:=h4
  obtain⟨⟨b1,b2⟩,b3⟩:=h9
  obtain⟨⟨c1,c2⟩,c3⟩:=h12
  obtain⟨⟨⟨⟨d1,d2⟩,d3⟩,d4⟩,d5⟩:=h15
  obtain⟨e1,e2⟩:=h16
  obtain⟨f1,f2⟩:=h17
  exact⟨⟨⟨⟨⟨⟨⟨⟨⟨⟨⟨⟨⟨⟨⟨⟨⟨⟨⟨⟨⟨⟨⟨⟨⟨⟨⟨⟨⟨⟨⟨h1,h2⟩,h3⟩,a1⟩,a2⟩,a3⟩,a4⟩,a5⟩,a6⟩,h5⟩,h6⟩,h7⟩,h8⟩,b1⟩,b2⟩,b3⟩,h10⟩,h11⟩,c1⟩,c2⟩,c3⟩,h13⟩,h14⟩,d1⟩,d2⟩,d3⟩,d4⟩,d5⟩,e1⟩,e2⟩,f1⟩,f2⟩
end Go.Proofs.Heir
