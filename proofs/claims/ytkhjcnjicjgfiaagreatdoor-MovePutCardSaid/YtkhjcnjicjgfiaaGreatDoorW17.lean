/- Models, plain laws and contracts of functions of the given program; conditions as stated in each theorem. By an AI agent. -/
import Derived.Test.YtkhjcnjicjgfiaaGreatDoorW6
import Derived.Test.YtkhjcnjicjgfiaaGreatDoorW16
import Derived.Laws.Runes
import Derived.Shelf.Strings.Builder1
import Derived.Test.YtkhjcnjicjgfiaaGreatDoorChecked
import Derived.Tactics
import Derived.Test.YtkhjcnjicjgfiaaGreatDoorW5
set_option linter.unusedSimpArgs false
set_option linter.unusedVariables false
namespace Go.Proofs.Heir
open Go Go.Am
set_option maxRecDepth 100000
set_option maxHeartbeats 8000000
theorem Pv:iX Tryz.prog 224 .string (.agg #[.string ByteArray.empty,.string ByteArray.empty]):=⟨9,90,by kernel_rfl,by kernel_rfl,fun w=>Tryz.zeroValue90 w⟩
def GX:List (Nat×IntKind):=[(3,.i64),(5,.u8),(21,.i32),(28,.i64)]
theorem FU:∀p∈GX,Tryz.prog.underlying p.1=some (.int p.2):=List.forall_mem_cons.2 ⟨by kernel_rfl,List.forall_mem_cons.2 ⟨by kernel_rfl,List.forall_mem_cons.2 ⟨by kernel_rfl,List.forall_mem_cons.2 ⟨by kernel_rfl,fun _ h=>by simp at h⟩⟩⟩⟩
def Lt:vU:=[(206,.int .i64,.int .i64 0),(224,.string,.agg #[.string ByteArray.empty,.string ByteArray.empty])]
theorem HZ:vU.Good Tryz.prog Lt:=List.forall_mem_cons.2 ⟨Kc,List.forall_mem_cons.2 ⟨Pv,fun _ h=>by simp at h⟩⟩
end Go.Proofs.Heir
namespace Go.Proofs.Heir
open Go Go.Am Go.RowKit Go.Lib
set_option maxRecDepth 100000
set_option maxHeartbeats 8000000
theorem JS (s t:TypeId)(c:Int)(h1:Tryz.prog.underlying s=some (.int .i32))(h2:Tryz.prog.underlying t=some .string):∀w,(convert s t (.int .i32 c)).run Tryz.prog w=.ok (.string (Utf8.encode c)) w:=
  fun w=>run_convert_int_string w s t .i32 c (by rw[h1];rfl) h2
theorem AJ (c:Int):(Utf8.encode c).size≤4:=by
  unfold Utf8.encode
  simp only
  repeat' split
  all_goals exact Nat.le_of_ble_eq_true rfl
@[reducible] def aB : ByteArray := ⟨#[97]⟩
def IJ (r:Nat):Bool:=!cj (aB++Utf8.encode (r:Int))
theorem KR (c:Int):aj Tryz.prog 232 [] [Ac c] [] (bG (!cj (aB++Utf8.encode c))):=by
  have hsz:=AJ c
  have ha:aB.size=1:=rfl
  refine aj.aD (rvs:=[.tmp 2]) G au Tryz.func232 rfl Tryz.ntmps232 rfl rfl ?_;with_reducible refine wD ?_
  refine fJ.mk _ (JS 21 9 c (by kernel_rfl) (by kernel_rfl)) ?_;with_reducible refine wK ?_
  refine bH.mk (by have:=AJ c;have h1:(⟨⟨[97]⟩⟩:ByteArray).size=1:=rfl;omega) ?_;with_reducible refine wK ?_
  refine ae.lit [] (tW _) F5 ⟨rfl,trivial⟩ rfl rfl ?_;with_reducible refine wK ?_
  (refine eK ?_ ?_<;>with_reducible repeat' (first|exact trivial|(show _∧_;refine aK ?_ ?_)))
  all_goals first|rfl|trace_state
theorem E1 (s:ByteArray):aj Tryz.prog 213 [] [bX s,.lit (.func (.func 232) #[] #[])] [] (ah (Lib.idxFunc IJ true s)):=
  aj.jf (vs:=[.string s,.func (.func 232) #[] #[]]) fun w ht=>uH 232 PC IJ s w ht fun W x ht _=>(KR (x:Int)).below (vs:=[.int .i32 (x:Int)]) W ht
theorem GJ:aj Tryz.prog 220 [.live 2 [.agg [.lit (.pointer none),.lit (.slice none 0 0)]] false] [.ptr 0 0 0] [.live 2 [.agg [.lit (.pointer none),.lit (.slice none 0 0)]] false] (bX ⟨#[]⟩):=by
  refine aj.aD (rvs:=[.tmp 2]) G au Tryz.func220 rfl Tryz.ntmps220 rfl rfl ?_;with_reducible refine wD ?_
  refine⟨[],.lit (.pointer none),[],aG.lits (ρ:=fun _=>.slice none 0 0) (r:=.pointer none) (by simp) (fun y hy=>?_) (fun w=>?_) (gI rfl),?_⟩
  · simp[Op.operands,Call.operands] at hy
    subst hy
    rfl
  ·kernel_rfl
  with_reducible refine wK ?_
  refine⟨[],.lit (.string ⟨#[]⟩),[],aG.lits (ρ:=fun y=>match y with|.tmp 7=>.pointer none|_=>.int .i64 0) (r:=.string ⟨#[]⟩) (by simp) (fun y hy=>?_) (fun w=>?_) (gI rfl),?_⟩
  · simp[Op.operands,Call.operands] at hy
    rcases hy with rfl|rfl<;>rfl
  ·kernel_rfl
  with_reducible refine wK ?_
  refine dK ?_;with_reducible refine wK ?_
  (refine eK ?_ ?_<;>with_reducible repeat' (first|exact trivial|(show _∧_;refine aK ?_ ?_)))
  all_goals first|rfl|exact .inl rfl|exact⟨rfl,rfl⟩|trace_state
def LP:iI:=fun g ins args=>match g with
  | 174=>match ins,args with
    |[],[.lit (.string s)]=>some ([],bG (kM s))
    |_,_=>none
  | 133=>match ins,args with
    |[],[.lit (.string s)]=>some ([],bG (cj s))
    |_,_=>none
  | 67=>match ins,args with
    |[],[.lit (.string s)]=>some ([],.tup [bX (if cj s then cH s else⟨#[]⟩),ah (if cj s then 0 else 4)])
    |_,_=>none
  | 213=>match ins,args with
    | [],[.lit (.string s),.lit (.func (.func 232) a b)]=>match a.toList,b.toList with
      |[],[]=>some ([],ah (Lib.idxFunc IJ true s))
      |_,_=>none
    |_,_=>none
  | 220=>match ins,args with
    |[.live 2 [.agg [.lit (.pointer none),.lit (.slice none 0 0)]] false],[.ptr 0 0 0]=>some ([.live 2 [.agg [.lit (.pointer none),.lit (.slice none 0 0)]] false],bX ⟨#[]⟩)
    |_,_=>none
  |_=>none
theorem Jn:∀g ins args outs res,LP g ins args=some (outs,res)→aj Tryz.prog g ins args outs res∧ak Tryz.prog g:=by
  intro g ins args outs res h
  unfold LP at h
  split at h
  · split at h
    ·cases h;exact⟨Df _,JC⟩
    ·cases h
  · split at h
    ·cases h;exact⟨tW _,F5⟩
    ·cases h
  · split at h
    ·cases h;exact⟨yX _,IP⟩
    ·cases h
  · split at h
    · split at h
      · rename_i ha hb
        cases h
        rename_i a b _ _
        obtain rfl:=(Array.ext' ha:_= #[])
        obtain rfl:=(Array.ext' hb:_= #[])
        exact⟨E1 _,OY⟩
      ·cases h
    ·cases h
  · split at h
    ·cases h;exact⟨GJ,O1⟩
    ·cases h
  ·cases h
end Go.Proofs.Heir
namespace Go.Proofs
open Go.Shelf

end Go.Proofs
namespace Go.Proofs.Heir
open Go Go.Am Go.RowKit Go.Shelf
set_option maxRecDepth 100000
set_option maxHeartbeats 8000000


end Go.Proofs.Heir
namespace Go.Proofs.Heir
open Go Go.Am Go.RowKit Go.Lib
set_option maxRecDepth 100000
set_option maxHeartbeats 8000000
def xL (wd:Nat)(rows:List AV):Bool:=match rows with
  |[]=>false
  |_::_=>Nat.ble rows.length 1000&&(bu rows&&jP (flat rows))
theorem Bq {wd:Nat}{rows:List AV}(h:xL wd rows=true):rows≠ []∧rows.length≤1000∧bu rows=true∧jP (flat rows)=true:=by
  unfold xL at h
  split at h
  ·cases h
  · simp only[bO] at h
    exact⟨by simp,Nat.le_of_ble_eq_true h.1,h.2.1,h.2.2⟩
theorem FY {rows:List AV}(h:xL 10 rows=true):aj Tryz.prog 137 [] [.sl 10 rows] [.live 10 rows false] (.own 0 0 rows.length):=by
  obtain⟨h1,h2,h3,h4⟩:=Bq h
  refine aj.aD (rvs:=[.tmp 2]) G au Tryz.func137 rfl Tryz.ntmps137 rfl rfl ?_;with_reducible refine wD ?_
  refine kZ.mk (fun h=>?_) (fun _=>?_)<;>with_reducible refine wK ?_
  ·exact absurd (by simpa using h) h1
  · refine dZ.mk [] rows ⟨rfl,rfl,rfl⟩ ⟨rfl,rfl,rfl⟩ h4 (by simp;omega) (by simp;omega) ?_;with_reducible refine wK ?_
    (refine eK ?_ ?_<;>with_reducible repeat' (first|exact trivial|(show _∧_;refine aK ?_ ?_)))
    all_goals first|rfl|exact bS h3|trace_state
theorem It {rows:List AV}(h:xL 1 rows=true):aj Tryz.prog 72 [] [.sl 1 rows] [.live 1 rows false] (.own 0 0 rows.length):=by
  obtain⟨h1,h2,h3,h4⟩:=Bq h
  refine aj.aD (rvs:=[.tmp 2]) G au Tryz.func72 rfl Tryz.ntmps72 rfl rfl ?_;with_reducible refine wD ?_
  refine kZ.mk (fun h=>?_) (fun _=>?_)<;>with_reducible refine wK ?_
  ·exact absurd (by simpa using h) h1
  · refine dZ.mk [] rows ⟨rfl,rfl,rfl⟩ ⟨rfl,rfl,rfl⟩ h4 (by simp;omega) (by simp;omega) ?_;with_reducible refine wK ?_
    (refine eK ?_ ?_<;>with_reducible repeat' (first|exact trivial|(show _∧_;refine aK ?_ ?_)))
    all_goals first|rfl|exact bS h3|trace_state
def K2:iI:=fun g ins args=>match g with
  | 137=>match ins,args with
    | [],[.sl 10 rows]=>match xL 10 rows with
      |true=>some ([.live 10 rows false],.own 0 0 rows.length)
      |false=>none
    |_,_=>none
  | 72 =>match ins,args with
    | [],[.sl 1 rows]=>match xL 1 rows with
      |true=>some ([.live 1 rows false],.own 0 0 rows.length)
      |false=>none
    |_,_=>none
  |g=>LP g ins args
theorem Ew:∀g ins args outs res,K2 g ins args=some (outs,res)→aj Tryz.prog g ins args outs res∧ak Tryz.prog g:=by
  intro g ins args outs res h
  unfold K2 at h
  split at h
  · split at h
    · split at h
      ·rename_i hb;cases h;exact⟨FY hb,Km⟩
      ·cases h
    ·cases h
  · split at h
    · split at h
      ·rename_i hb;cases h;exact⟨It hb,F2⟩
      ·cases h
    ·cases h
  ·exact Jn _ _ _ _ _ h
theorem H7 (n:Int):aj Tryz.prog 140 [.live 1 [ah n] false] [.lit (.slice none 0 0),ah 0,.own 0 0 1] [.live 1 [ah n] false,.live 1 [ah n] false] (.own 1 0 1):=by
  refine aj.aD (rvs:=[.tmp 6]) G au Tryz.func140 rfl Tryz.ntmps140 rfl rfl ?_;with_reducible refine wD ?_
  refine⟨[],.lit (.slice none 0 0),[],aG.lits (ρ:=fun y=>match y with|.tmp 10=>.slice none 0 0|_=>.int .i64 0) (r:=.slice none 0 0) (by simp) (fun y hy=>?_) (fun w=>?_) (gI rfl),?_⟩
  · simp[Op.operands] at hy
    rcases hy with rfl|rfl<;>rfl
  ·kernel_rfl
  with_reducible refine wK ?_
  repeat' (first
    |refine gK ?_
    |(((with_reducible show dZ _ _ _ _ _ _ _ _ _ _);refine dZ.mk [] [ah n] ⟨rfl,rfl,rfl⟩ ⟨rfl,rfl,rfl⟩ rfl (by simp) (by simp) ?_)<;>with_reducible refine wK ?_)
    |((with_reducible show(_∧_)∧_∧_);(refine eK ?_ ?_<;>with_reducible repeat' (first|exact trivial|(show _∧_;refine aK ?_ ?_)))))
  all_goals first|rfl|exact⟨.refl rfl,rfl⟩|trace_state
theorem JU:aj Tryz.prog 72 [] [.sl 1 []] [.live 1 [] false] (.own 0 0 0):=by
  refine aj.aD (rvs:=[.tmp 2]) G au Tryz.func72 rfl Tryz.ntmps72 rfl rfl ?_;with_reducible refine wD ?_
  refine kZ.mk (fun h=>?_) (fun _=>?_)<;>with_reducible refine wK ?_
  · (refine eK ?_ ?_<;>with_reducible repeat' (first|exact trivial|(show _∧_;refine aK ?_ ?_)))
    all_goals first|rfl|exact⟨.refl rfl,rfl⟩|trivial|trace_state
  · refine dZ.mk [] [] ⟨rfl,rfl,rfl⟩ ⟨rfl,rfl,rfl⟩ rfl (by simp) (by simp) ?_;with_reducible refine wK ?_
    (refine eK ?_ ?_<;>with_reducible repeat' (first|exact trivial|(show _∧_;refine aK ?_ ?_)))
    all_goals first|rfl|exact⟨.refl rfl,rfl⟩|trivial|trace_state
def M9:iI:=fun g ins args=>match g with
  | 72=>match ins,args with
    |[],[.sl 1 []]=>some ([.live 1 [] false],.own 0 0 0)
    |_,_=>K2 72 ins args
  | 140=>match ins,args with
    |[.live 1 [.lit (.int .i64 n)] false],[.lit (.slice none 0 0),.lit (.int .i64 0),.own 0 0 1]=>some ([.live 1 [ah n] false,.live 1 [ah n] false],.own 1 0 1)
    |_,_=>none
  |g=>K2 g ins args
theorem Lg:∀g ins args outs res,M9 g ins args=some (outs,res)→aj Tryz.prog g ins args outs res∧ak Tryz.prog g:=by
  intro g ins args outs res h
  unfold M9 at h
  split at h
  · split at h
    ·cases h;exact⟨JU,F2⟩
    ·exact Ew _ _ _ _ _ h
  · split at h
    ·cases h;exact⟨H7 _,IA⟩
    ·cases h
  ·exact Ew _ _ _ _ _ h
end Go.Proofs.Heir
